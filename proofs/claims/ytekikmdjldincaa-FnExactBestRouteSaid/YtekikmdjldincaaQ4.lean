/- Walks: the laws' own functions on edges and coupling graphs. -/
import Derived.Test.YtekikmdjldincaaQ2
import Derived.Test.YtekikmdjldincaaProg
import Derived.Test.YtekikmdjldincaaQ3
set_option linter.unusedSimpArgs false
set_option linter.unusedVariables false
namespace Go.Proofs.Ytekikmdjldincaa
open Go Go.RowKit
namespace CgT
theorem Tagg_35 : aggOf Try.prog 35 = some 2 := by kernel_rfl
theorem Tagg_77 : aggOf Try.prog 77 = some 2 := by kernel_rfl
theorem Tagg_79 : aggOf Try.prog 79 = some 2 := by kernel_rfl
theorem Tcall_26 : callable Try.prog 26 = true := by kernel_rfl
theorem Tcall_28 : callable Try.prog 28 = true := by kernel_rfl
theorem Tcall_32 : callable Try.prog 32 = true := by kernel_rfl
theorem Tcall_38 : callable Try.prog 38 = true := by kernel_rfl
theorem Tcall_47 : callable Try.prog 47 = true := by kernel_rfl
theorem Tcall_57 : callable Try.prog 57 = true := by kernel_rfl
theorem Tfo_24_0 : fieldOff Try.prog 24 0 = some 0 := by kernel_rfl
theorem Tfo_24_1 : fieldOff Try.prog 24 1 = some 1 := by kernel_rfl
theorem Tfo_35_0 : fieldOff Try.prog 35 0 = some 0 := by kernel_rfl
theorem Tfo_35_1 : fieldOff Try.prog 35 1 = some 1 := by kernel_rfl
theorem Tfo_77_0 : fieldOff Try.prog 77 0 = some 0 := by kernel_rfl
theorem Tfo_77_1 : fieldOff Try.prog 77 1 = some 1 := by kernel_rfl
theorem Tfo_79_0 : fieldOff Try.prog 79 0 = some 0 := by kernel_rfl
theorem Tfo_79_1 : fieldOff Try.prog 79 1 = some 1 := by kernel_rfl
theorem Tone_22 : oneOf Try.prog 22 = true := by kernel_rfl
theorem Tone_3 : oneOf Try.prog 3 = true := by kernel_rfl
theorem Tone_33 : oneOf Try.prog 33 = true := by kernel_rfl
theorem Tsize_3 : (Try.prog.info? 3).map (·.size) = some 1 := by kernel_rfl
theorem Tsize_33 : (Try.prog.info? 33).map (·.size) = some 1 := by kernel_rfl
theorem Tsize_35 : (Try.prog.info? 35).map (·.size) = some 2 := by kernel_rfl
theorem Tsize_77 : (Try.prog.info? 77).map (·.size) = some 2 := by kernel_rfl
theorem Tsl_22 : sliceOf Try.prog 22 = some (79, 2, 16, [.int .i64 0, .int .i64 0]) := by kernel_rfl
theorem Tsl_33 : sliceOf Try.prog 33 = some (77, 2, 16, [.int .i64 0, .int .i64 0]) := by kernel_rfl
theorem Tzero_35 : zeroOf Try.prog 35 = some [.int .i64 0, .slice none 0 0] := by kernel_rfl
theorem Tzero_77 : zeroOf Try.prog 77 = some [.int .i64 0, .int .i64 0] := by kernel_rfl
end CgT
open CgT
set_option maxHeartbeats 1000000 in
set_option maxRecDepth 20000 in
theorem eqEdge_spec (x0 x1 y0 y1 : Int) (w : World) : Calls Try.prog 57 #[.agg #[.int .i64 x0, .int .i64 x1], .agg #[.int .i64 y0, .int .i64 y1]] w (Post No w fun v _ => v = .bool (decide ([x0, x1] = [y0, y1]))) := by
  refine enter (n := 15) (args := [.agg #[.int .i64 x0, .int .i64 x1], .agg #[.int .i64 y0, .int .i64 y1]]) Try.func57 rfl rfl (St.empty _ _) ?_
  refine Run.seq ?_
  refine Run.region ?_
  refine Run.step rfl (OpStep.box (us := [.int .i64 x0, .int .i64 x1]) rfl fun b1 => ?_)
  refine Run.step rfl (OpStep.box (us := [.int .i64 y0, .int .i64 y1]) rfl fun b2 => ?_)
  refine Run.q (v := .bool false) rfl (OpQ.y (OpY.pure rfl)) ?_
  refine Run.done ?_
  refine Run.seq ?_
  refine Run.seq ?_
  refine Run.region ?_
  refine Run.q (v := .pointer (some ⟨b1, 0, none⟩)) rfl (OpQ.y (OpY.fieldAddr Tfo_77_0 rfl rfl)) ?_
  refine Run.q (v := .int .i64 x0) rfl (OpQ.y (OpY.load1 Tone_3 rfl (Cells.blk (.tail _ (List.Mem.head _)) ⟨rfl, trivial⟩))) ?_
  refine Run.q (v := .pointer (some ⟨b2, 0, none⟩)) rfl (OpQ.y (OpY.fieldAddr Tfo_77_0 rfl rfl)) ?_
  refine Run.q (v := .int .i64 y0) rfl (OpQ.y (OpY.load1 Tone_3 rfl (Cells.blk (.head _) ⟨rfl, trivial⟩))) ?_
  refine Run.q (v := .bool (x0 != y0)) rfl (OpQ.y (OpY.pure rfl)) ?_
  refine Run.done ?_
  refine Run.cond (b := x0 != y0) rfl (fun h9 => ?_) (fun h9 => ?_)
  · have p9 := h9; try simp only [bs] at p9
    refine Run.seq ?_
    refine Run.region ?_
    refine Run.q (v := .bool false) rfl (OpQ.y (OpY.pure rfl)) ?_
    refine Run.done ?_
    refine Run.ret ?_
    refine ⟨.bool false, [], Out.one rfl rfl, (Some'.weak (.nil _)), ?_⟩
    show _ = _; simp_all
  · have p9 := h9; try simp only [bs] at p9
    refine Run.skip ?_
    refine Run.seq ?_
    refine Run.seq ?_
    refine Run.region ?_
    refine Run.q (v := .pointer (some ⟨b1, 1, none⟩)) rfl (OpQ.y (OpY.fieldAddr Tfo_77_1 rfl rfl)) ?_
    refine Run.q (v := .int .i64 x1) rfl (OpQ.y (OpY.load1 Tone_3 rfl (Cells.blk (.tail _ (List.Mem.head _)) ⟨rfl, trivial⟩))) ?_
    refine Run.q (v := .pointer (some ⟨b2, 1, none⟩)) rfl (OpQ.y (OpY.fieldAddr Tfo_77_1 rfl rfl)) ?_
    refine Run.q (v := .int .i64 y1) rfl (OpQ.y (OpY.load1 Tone_3 rfl (Cells.blk (.head _) ⟨rfl, trivial⟩))) ?_
    refine Run.q (v := .bool (x1 != y1)) rfl (OpQ.y (OpY.pure rfl)) ?_
    refine Run.done ?_
    refine Run.cond (b := x1 != y1) rfl (fun h14 => ?_) (fun h14 => ?_)
    · have p14 := h14; try simp only [bs] at p14
      refine Run.seq ?_
      refine Run.region ?_
      refine Run.q (v := .bool false) rfl (OpQ.y (OpY.pure rfl)) ?_
      refine Run.done ?_
      refine Run.ret ?_
      refine ⟨.bool false, [], Out.one rfl rfl, (Some'.weak (.nil _)), ?_⟩
      show _ = _; simp_all
    · have p14 := h14; try simp only [bs] at p14
      refine Run.skip ?_
      refine Run.seq ?_
      refine Run.region ?_
      refine Run.q (v := .bool true) rfl (OpQ.y (OpY.pure rfl)) ?_
      refine Run.done ?_
      refine Run.ret ?_
      refine ⟨.bool true, [], Out.one rfl rfl, (Some'.weak (.nil _)), ?_⟩
      show _ = _; simp_all

set_option maxHeartbeats 1000000 in
set_option maxRecDepth 20000 in
theorem eqEdgeS_spec {va vb : Value} {n m : Nat} {xs ys : List Int} {w : World} (ha : Sl w va 2 n (ints xs)) (hb : Sl w vb 2 m (ints ys)) :
    Calls Try.prog 32 #[va, vb] w (Post No w fun v _ => v = .bool (decide (xs = ys))) := by
  have hxl := ha.len
  have hyl := hb.len
  have hn := ha.le
  obtain ⟨A, c, rfl, _, _⟩ := ha.form0
  obtain ⟨B, d, rfl, _, _⟩ := hb.form0
  refine enter (n := 27) (args := [.slice A n c, .slice B m d]) Try.func32 rfl rfl (St.empty _ _) ?_
  refine Run.seq ?_
  refine Run.region ?_
  refine Run.q (v := .bool false) rfl (OpQ.y (OpY.pure rfl)) ?_
  refine Run.done ?_
  refine Run.seq ?_
  refine Run.seq ?_
  refine Run.region ?_
  refine Run.q (v := .slice A n c) rfl (OpQ.y (OpY.pure rfl)) ?_
  refine Run.q (v := .int .i64 (((n : Nat) : Int))) rfl (OpQ.y (OpY.len Tsl_33 rfl)) ?_
  refine Run.q (v := .slice B m d) rfl (OpQ.y (OpY.pure rfl)) ?_
  refine Run.q (v := .int .i64 (((m : Nat) : Int))) rfl (OpQ.y (OpY.len Tsl_33 rfl)) ?_
  refine Run.q (v := .bool ((((n : Nat) : Int)) != (((m : Nat) : Int)))) rfl (OpQ.y (OpY.pure rfl)) ?_
  refine Run.done ?_
  refine Run.cond (b := (((n : Nat) : Int)) != (((m : Nat) : Int))) rfl (fun h10 => ?_) (fun h10 => ?_)
  · have p10 := h10; try simp only [bs] at p10
    have hne : ¬ xs = ys := by intro e; subst e; simp at h10; omega
    refine Run.seq ?_
    refine Run.region ?_
    refine Run.q (v := .bool false) rfl (OpQ.y (OpY.pure rfl)) ?_
    refine Run.done ?_
    refine Run.ret ?_
    refine ⟨.bool false, [], Out.one rfl rfl, (Some'.weak (.nil _)), ?_⟩
    show _ = _; simp_all
  · have p10 := h10; try simp only [bs] at p10
    have hnm : m = n := by simp at h10; omega
    have hyl2 : ys.length = n * 2 := by rw [hyl, hnm]
    refine Run.skip ?_
    refine Run.seq ?_
    refine Run.seq ?_
    refine Run.region ?_
    refine Run.q (v := .int .i64 0) rfl (OpQ.y (OpY.pure rfl)) ?_
    refine Run.done ?_
    refine Run.block ?_
    refine Run.loop (ι := Nat) [4, 5, 11, 12, 13, 14, 15, 16, 17, 18, 19, 20, 21, 22, 23, 24, 25, 26] (fun k => [(5, .int .i64 (((k : Nat) : Int)))]) (fun k => []) (fun k => k ≤ n ∧ ∀ j, j < k * 2 → ix xs j = ix ys j) (fun k => n - k) 0 ?_ ?_ ?_ ?_
    · exact ⟨Nat.zero_le _, fun j hj => by omega⟩
    · exact ⟨rfl, trivial⟩
    · exact (Some'.weak (.nil _))
    · rintro k fr hinv
      show Run _ _ (over _ _ [(5, .int .i64 (((k : Nat) : Int)))] fr) []
      try dsimp only at hinv
      refine Run.seq ?_
      refine Run.seq ?_
      refine Run.region ?_
      refine Run.q (v := .int .i64 (((k : Nat) : Int))) rfl (OpQ.y (OpY.pure rfl)) ?_
      refine Run.q (v := .slice A n c) rfl (OpQ.y (OpY.pure rfl)) ?_
      refine Run.q (v := .int .i64 (((n : Nat) : Int))) rfl (OpQ.y (OpY.len Tsl_33 rfl)) ?_
      refine Run.q (v := .bool (decide ((((k : Nat) : Int)) < (((n : Nat) : Int))))) rfl (OpQ.y (OpY.pure rfl)) ?_
      refine Run.done ?_
      refine Run.cond (b := decide ((((k : Nat) : Int)) < (((n : Nat) : Int)))) rfl (fun h14 => ?_) (fun h14 => ?_)
      · have p14 := h14; try simp only [bs] at p14
        have hlt : k < n := by simp at h14; omega
        obtain ⟨b, o, rfl⟩ := ha.opn (by omega)
        obtain ⟨b2, o2, rfl⟩ := hb.opn (by omega)
        refine Run.skip ?_
        refine Run.seq ?_
        refine Run.block ?_
        refine Run.seq ?_
        refine Run.draws (by kernel_rfl) (by kernel_rfl) ?_
        refine Lex.q (v := .slice (some ⟨b, o, none⟩) n c) rfl (OpQ.y (OpY.pure rfl)) ?_
        refine Lex.q (v := .int .i64 (((k : Nat) : Int))) rfl (OpQ.y (OpY.pure rfl)) ?_
        refine Lex.q (v := .pointer (some ⟨b, o + k * 2, none⟩)) rfl (OpQ.y (OpY.index (kk := k) Tsl_33 rfl rfl (by omega) (by omega) (by first | rfl | omega))) ?_
        refine Lex.q (v := .agg #[.int .i64 (ix xs (k * 2)), .int .i64 (ix xs (k * 2 + 1))]) rfl (OpQ.y (OpY.loadN (cs := [.int .i64 (ix xs (k * 2)), .int .i64 (ix xs (k * 2 + 1))]) Tagg_77 rfl (Cells.arg (k := k * 2) ha rfl (by omega) (pre2 (by omega))))) ?_
        refine Lex.q (v := .slice (some ⟨b2, o2, none⟩) m d) rfl (OpQ.y (OpY.pure rfl)) ?_
        refine Lex.q (v := .int .i64 (((k : Nat) : Int))) rfl (OpQ.y (OpY.pure rfl)) ?_
        refine Lex.q (v := .pointer (some ⟨b2, o2 + k * 2, none⟩)) rfl (OpQ.y (OpY.index (kk := k) Tsl_33 rfl rfl (by omega) (by omega) (by first | rfl | omega))) ?_
        refine Lex.q (v := .agg #[.int .i64 (ix ys (k * 2)), .int .i64 (ix ys (k * 2 + 1))]) rfl (OpQ.y (OpY.loadN (cs := [.int .i64 (ix ys (k * 2)), .int .i64 (ix ys (k * 2 + 1))]) Tagg_77 rfl (Cells.arg (k := k * 2) hb rfl (by omega) (pre2 (by omega))))) ?_
        refine Lex.q (v := .bool (decide ([ix xs (k * 2), ix xs (k * 2 + 1)] = [ix ys (k * 2), ix ys (k * 2 + 1)]))) rfl (OpQ.call (vs := [.agg #[.int .i64 (ix xs (k * 2)), .int .i64 (ix xs (k * 2 + 1))], .agg #[.int .i64 (ix ys (k * 2)), .int .i64 (ix ys (k * 2 + 1))]]) (caps := []) Tcall_57 rfl rfl (fun w hs => eqEdge_spec _ _ _ _ w)) ?_
        refine Lex.q (v := .bool (!(decide ([ix xs (k * 2), ix xs (k * 2 + 1)] = [ix ys (k * 2), ix ys (k * 2 + 1)])))) rfl (OpQ.y (OpY.pure rfl)) ?_
        refine Lex.done ?_
        refine Run.cond (b := !(decide ([ix xs (k * 2), ix xs (k * 2 + 1)] = [ix ys (k * 2), ix ys (k * 2 + 1)]))) rfl (fun h26 => ?_) (fun h26 => ?_)
        · have p26 := h26; try simp only [bs] at p26
          have hne : ¬ xs = ys := by intro e; subst e; simp at h26
          refine Run.seq ?_
          refine Run.region ?_
          refine Run.q (v := .bool false) rfl (OpQ.y (OpY.pure rfl)) ?_
          refine Run.done ?_
          refine Run.ret ?_
          refine ⟨.bool false, [], Out.one rfl rfl, (Some'.weak (.nil _)), ?_⟩
          show _ = _; simp_all
        · have p26 := h26; try simp only [bs] at p26
          simp at h26
          refine Run.skip ?_
          refine Run.blockEnd ?_
          refine Run.region ?_
          refine Run.q (v := .int .i64 (((k : Nat) : Int))) rfl (OpQ.y (OpY.pure rfl)) ?_
          refine Run.q (v := .int .i64 ((((k : Nat) : Int)) + 1)) rfl (OpQ.y (OpY.add rfl rfl rfl (by omega) (by omega))) ?_
          refine Run.q (v := .int .i64 ((((k : Nat) : Int)) + 1)) rfl (OpQ.y (OpY.pure rfl)) ?_
          refine Run.done ?_
          refine Run.goal ⟨(by repeat (first | exact Same.refl _ _ | refine Same.put rfl ?_ | refine Same.over rfl rfl ?_)), k + 1, ?_, ?_, ?_, ?_⟩
          · refine ⟨by omega, fun j hj => ?_⟩
            by_cases h : j < k * 2
            · exact hinv.2 j h
            · rcases (by omega : j = k * 2 ∨ j = k * 2 + 1) with rfl | rfl <;> simp [h26]
          · omega
          · exact ⟨(by first | rfl | (congr 1; omega) | simp), trivial⟩
          · exact (Some'.weak (.nil _))
      · have p14 := h14; try simp only [bs] at p14
        have hkn : k = n := by simp at h14; omega
        have heq : xs = ys := list_ext_ix (by omega) fun j hj => hinv.2 j (by omega)
        refine Run.exit rfl ?_
        refine Run.seq ?_
        refine Run.region ?_
        refine Run.q (v := .bool true) rfl (OpQ.y (OpY.pure rfl)) ?_
        refine Run.done ?_
        refine Run.ret ?_
        refine ⟨.bool true, [], Out.one rfl rfl, (Some'.weak (.nil _)), ?_⟩
        show _ = _; simp_all


theorem eqEdgeS_true {va vb : Value} {n m : Nat} {xs ys : List Int} {w : World} (ha : Sl w va 2 n (ints xs)) (hb : Sl w vb 2 m (ints ys)) (he : xs = ys) :
    Calls Try.prog 32 #[va, vb] w (Post No w fun v _ => v = .bool true) :=
  (eqEdgeS_spec ha hb).mono fun _ _ ⟨v, H, h1, h2, h3⟩ => ⟨v, H, h1, h2, by simpa [he] using h3⟩

set_option maxHeartbeats 1000000 in
set_option maxRecDepth 20000 in
theorem markEdgeS_spec {va : Value} {n : Nat} {xs : List Int} {k : Int} {w : World} (ha : (Res.own va 77 2 n (ints xs)).holds w) (h0 : 0 ≤ k) (hk : k + n * 2 < 4611686018427387904) :
    Calls Try.prog 38 #[va, .int .i64 k] w (Post (Of [.own va 77 2 n (ints xs)]) w fun v H => v = .int .i64 (k + n * 2) ∧ H = [.own va 77 2 n (ints (mks k (n * 2)))]) := by
  have hxl : xs.length = n * 2 := by simpa using ha.1
  have hsl := (St.start1 ha).slOwn (.head _)
  have hn := hsl.le
  obtain ⟨A, c0, rfl, _, _⟩ := hsl.form0
  refine enter (n := 27) (args := [.slice A n c0, .int .i64 k]) Try.func38 rfl rfl (St.start1 ha) ?_
  refine Run.seq ?_
  refine Run.region ?_
  refine Run.q (v := .int .i64 0) rfl (OpQ.y (OpY.pure rfl)) ?_
  refine Run.done ?_
  refine Run.seq ?_
  refine Run.seq ?_
  refine Run.region ?_
  refine Run.q (v := .int .i64 0) rfl (OpQ.y (OpY.pure rfl)) ?_
  refine Run.done ?_
  refine Run.block ?_
  refine Run.loop (ι := Nat) [1, 5, 6, 7, 8, 9, 10, 11, 12, 13, 14, 15, 16, 17, 18, 19, 20, 21, 22, 23, 24, 25] (fun i => [(1, .int .i64 (k + ((i * 2 : Nat) : Int))), (5, .int .i64 (((i : Nat) : Int)))]) (fun i => [.own (.slice A n c0) 77 2 n (ints (marked k (i * 2) xs))]) (fun i => i ≤ n) (fun i => n - i) 0 ?_ ?_ ?_ ?_
  · exact Nat.zero_le _
  · exact ⟨(by show Value.int .i64 k = Value.int .i64 _; simp), rfl, trivial⟩
  · exact (Some'.weak (.takeEq (by simp only [Nat.zero_mul, marked_zero]) (.nil _)))
  · rintro i fr hinv
    show Run _ _ (over _ _ [(1, .int .i64 (k + ((i * 2 : Nat) : Int))), (5, .int .i64 (((i : Nat) : Int)))] fr) [.own (.slice A n c0) 77 2 n (ints (marked k (i * 2) xs))]
    try dsimp only at hinv
    refine Run.seq ?_
    refine Run.seq ?_
    refine Run.region ?_
    refine Run.q (v := .int .i64 (((i : Nat) : Int))) rfl (OpQ.y (OpY.pure rfl)) ?_
    refine Run.q (v := .slice A n c0) rfl (OpQ.y (OpY.pure rfl)) ?_
    refine Run.q (v := .int .i64 (((n : Nat) : Int))) rfl (OpQ.y (OpY.len Tsl_33 rfl)) ?_
    refine Run.q (v := .bool (decide ((((i : Nat) : Int)) < (((n : Nat) : Int))))) rfl (OpQ.y (OpY.pure rfl)) ?_
    refine Run.done ?_
    refine Run.cond (b := decide ((((i : Nat) : Int)) < (((n : Nat) : Int)))) rfl (fun h9 => ?_) (fun h9 => ?_)
    · have p9 := h9; try simp only [bs] at p9
      have hlt : i < n := by simp at h9; omega
      refine Run.openOwn (.head _) (by omega) (fun g c hvg hcapg _ => ?_) (fun _ _ _ => ⟨nofun, nofun, nofun⟩)
      injection hvg with hAg _ hcg; subst hAg; subst hcg
      refine Run.skip ?_
      refine Run.seq ?_
      refine Run.block ?_
      refine Run.seq ?_
      refine Run.region ?_
      refine Run.q (v := .slice (some ⟨g, 0, none⟩) n c0) rfl (OpQ.y (OpY.pure rfl)) ?_
      refine Run.q (v := .int .i64 (((i : Nat) : Int))) rfl (OpQ.y (OpY.pure rfl)) ?_
      refine Run.q (v := .int .i64 (k + ((i * 2 : Nat) : Int))) rfl (OpQ.y (OpY.pure rfl)) ?_
      refine Run.q (v := .pointer (some ⟨g, i * 2, none⟩)) rfl (OpQ.y (OpY.index (kk := i) Tsl_33 rfl rfl (by omega) (by omega) (by first | rfl | omega))) ?_
      refine Run.q (v := .pointer (some ⟨g, i * 2, none⟩)) rfl (OpQ.y (OpY.fieldAddr Tfo_77_0 rfl rfl)) ?_
      refine Run.step rfl (OpStep.storeOwnInt (o := i * 2) (a := k + ((i * 2 : Nat) : Int)) Tsize_3 rfl rfl (.here _) (by omega) ?_)
      refine Run.done ?_
      refine Run.seq ?_
      refine Run.region ?_
      refine Run.q (v := .int .i64 (k + ((i * 2 : Nat) : Int))) rfl (OpQ.y (OpY.pure rfl)) ?_
      refine Run.q (v := .int .i64 ((k + ((i * 2 : Nat) : Int)) + 1)) rfl (OpQ.y (OpY.add rfl rfl rfl (by omega) (by omega))) ?_
      refine Run.q (v := .int .i64 ((k + ((i * 2 : Nat) : Int)) + 1)) rfl (OpQ.y (OpY.pure rfl)) ?_
      refine Run.done ?_
      refine Run.seq ?_
      refine Run.region ?_
      refine Run.q (v := .slice (some ⟨g, 0, none⟩) n c0) rfl (OpQ.y (OpY.pure rfl)) ?_
      refine Run.q (v := .int .i64 (((i : Nat) : Int))) rfl (OpQ.y (OpY.pure rfl)) ?_
      refine Run.q (v := .int .i64 ((k + ((i * 2 : Nat) : Int)) + 1)) rfl (OpQ.y (OpY.pure rfl)) ?_
      refine Run.q (v := .pointer (some ⟨g, i * 2, none⟩)) rfl (OpQ.y (OpY.index (kk := i) Tsl_33 rfl rfl (by omega) (by omega) (by first | rfl | omega))) ?_
      refine Run.q (v := .pointer (some ⟨g, i * 2 + 1, none⟩)) rfl (OpQ.y (OpY.fieldAddr Tfo_77_1 rfl rfl)) ?_
      refine Run.step rfl (OpStep.storeOwnInt (o := i * 2 + 1) (a := (k + ((i * 2 : Nat) : Int)) + 1) Tsize_3 rfl rfl (.here _) (by omega) ?_)
      refine Run.done ?_
      refine Run.region ?_
      refine Run.q (v := .int .i64 ((k + ((i * 2 : Nat) : Int)) + 1)) rfl (OpQ.y (OpY.pure rfl)) ?_
      refine Run.q (v := .int .i64 (((k + ((i * 2 : Nat) : Int)) + 1) + 1)) rfl (OpQ.y (OpY.add rfl rfl rfl (by omega) (by omega))) ?_
      refine Run.q (v := .int .i64 (((k + ((i * 2 : Nat) : Int)) + 1) + 1)) rfl (OpQ.y (OpY.pure rfl)) ?_
      refine Run.done ?_
      refine Run.blockEnd ?_
      refine Run.region ?_
      refine Run.q (v := .int .i64 (((i : Nat) : Int))) rfl (OpQ.y (OpY.pure rfl)) ?_
      refine Run.q (v := .int .i64 ((((i : Nat) : Int)) + 1)) rfl (OpQ.y (OpY.add rfl rfl rfl (by omega) (by omega))) ?_
      refine Run.q (v := .int .i64 ((((i : Nat) : Int)) + 1)) rfl (OpQ.y (OpY.pure rfl)) ?_
      refine Run.done ?_
      refine Run.goal ⟨(by repeat (first | exact Same.refl _ _ | refine Same.put rfl ?_ | refine Same.over rfl rfl ?_)), i + 1, ?_, ?_, ?_, ?_⟩
      · omega
      · omega
      · exact ⟨(by show Value.int _ _ = Value.int _ _; congr 1; omega), rfl, trivial⟩
      · exact (Some'.weak (.takeEq (congrArg (fun z => Res.own _ _ _ _ (ints z)) (marked_set2 (by omega) (by omega) (by omega))) (.nil _)))
    · have p9 := h9; try simp only [bs] at p9
      have hkn : i = n := by simp at h9; omega
      refine Run.exit rfl ?_
      refine Run.seq ?_
      refine Run.region ?_
      refine Run.q (v := .int .i64 (k + ((i * 2 : Nat) : Int))) rfl (OpQ.y (OpY.pure rfl)) ?_
      refine Run.q (v := .int .i64 (k + ((i * 2 : Nat) : Int))) rfl (OpQ.y (OpY.pure rfl)) ?_
      refine Run.done ?_
      refine Run.ret ?_
      refine ⟨.int .i64 (k + ((i * 2 : Nat) : Int)), [.own (.slice A n c0) 77 2 n (ints (mks k (n * 2)))], Out.one rfl rfl, (Some'.weak (.takeEq (by subst hkn; rw [marked_all hxl]) (.nil _))), ?_⟩
      exact ⟨by subst hkn; simp, rfl⟩

set_option maxHeartbeats 1000000 in
set_option maxRecDepth 20000 in
theorem szEdgeS_spec {va : Value} {n : Nat} {xs : List Int} {left : Int} {w : World} (ha : Sl w va 2 n (ints xs)) (h0 : 0 ≤ left) (h1 : left ≤ 1048576) :
    Calls Try.prog 26 #[va, .int .i64 left] w (Post No w fun v _ => v = .int .i64 (szN left [n])) := by
  have hn := ha.le
  obtain ⟨A, c, rfl, _, _⟩ := ha.form0
  refine enter (n := 12) (args := [.slice A n c, .int .i64 left]) Try.func26 rfl rfl (St.empty _ _) ?_
  refine Run.seq ?_
  refine Run.region ?_
  refine Run.q (v := .int .i64 0) rfl (OpQ.y (OpY.pure rfl)) ?_
  refine Run.done ?_
  refine Run.seq ?_
  refine Run.region ?_
  refine Run.q (v := .int .i64 left) rfl (OpQ.y (OpY.pure rfl)) ?_
  refine Run.q (v := .slice A n c) rfl (OpQ.y (OpY.pure rfl)) ?_
  refine Run.q (v := .int .i64 (((n : Nat) : Int))) rfl (OpQ.y (OpY.len Tsl_22 rfl)) ?_
  refine Run.q (v := .int .i64 (left - (((n : Nat) : Int)))) rfl (OpQ.y (OpY.sub rfl rfl rfl (by omega) (by omega))) ?_
  refine Run.q (v := .int .i64 (left - (((n : Nat) : Int)))) rfl (OpQ.y (OpY.pure rfl)) ?_
  refine Run.done ?_
  refine Run.seq ?_
  refine Run.seq ?_
  refine Run.region ?_
  refine Run.q (v := .int .i64 (left - (((n : Nat) : Int)))) rfl (OpQ.y (OpY.pure rfl)) ?_
  refine Run.q (v := .bool (decide ((left - (((n : Nat) : Int))) < 0))) rfl (OpQ.y (OpY.pure rfl)) ?_
  refine Run.done ?_
  refine Run.cond (b := decide ((left - (((n : Nat) : Int))) < 0)) rfl (fun h10 => ?_) (fun h10 => ?_)
  · have p10 := h10; try simp only [bs] at p10
    refine Run.seq ?_
    refine Run.region ?_
    refine Run.q (v := .int .i64 (-1)) rfl (OpQ.y (OpY.pure rfl)) ?_
    refine Run.done ?_
    refine Run.ret ?_
    refine ⟨.int .i64 (-1), [], Out.one rfl rfl, (Some'.weak (.nil _)), ?_⟩
    show _ = _; simp at h10; simp only [szN]; first | rw [if_pos (by omega)] | rw [if_neg (by omega)]
  · have p10 := h10; try simp only [bs] at p10
    refine Run.skip ?_
    refine Run.seq ?_
    refine Run.region ?_
    refine Run.q (v := .int .i64 (left - (((n : Nat) : Int)))) rfl (OpQ.y (OpY.pure rfl)) ?_
    refine Run.q (v := .int .i64 (left - (((n : Nat) : Int)))) rfl (OpQ.y (OpY.pure rfl)) ?_
    refine Run.done ?_
    refine Run.ret ?_
    refine ⟨.int .i64 (left - (((n : Nat) : Int))), [], Out.one rfl rfl, (Some'.weak (.nil _)), ?_⟩
    show _ = _; simp at h10; simp only [szN]; first | rw [if_pos (by omega)] | rw [if_neg (by omega)]

set_option maxHeartbeats 1000000 in
set_option maxRecDepth 20000 in
theorem toEdge_spec (x0 x1 : Int) (w : World) : Calls Try.prog 47 #[.agg #[.int .i64 x0, .int .i64 x1]] w (Post No w fun v _ => v = .agg #[.int .i64 x0, .int .i64 x1]) := by
  refine enter (n := 11) (args := [.agg #[.int .i64 x0, .int .i64 x1]]) Try.func47 rfl rfl (St.empty _ _) ?_
  refine Run.seq ?_
  refine Run.region ?_
  refine Run.step rfl (OpStep.box (us := [.int .i64 x0, .int .i64 x1]) rfl fun b1 => ?_)
  refine Run.step rfl (OpStep.alloc (zs := [.int .i64 0, .int .i64 0]) Tzero_77 fun b2 => ?_)
  refine Run.done ?_
  refine Run.seq ?_
  refine Run.region ?_
  refine Run.step rfl (OpStep.alloc (zs := [.int .i64 0, .int .i64 0]) Tzero_77 fun b3 => ?_)
  refine Run.done ?_
  refine Run.seq ?_
  refine Run.region ?_
  refine Run.q (v := .pointer (some ⟨b1, 0, none⟩)) rfl (OpQ.y (OpY.fieldAddr Tfo_79_0 rfl rfl)) ?_
  refine Run.q (v := .int .i64 x0) rfl (OpQ.y (OpY.load1 Tone_3 rfl (Cells.blk (.tail _ (.tail _ (List.Mem.head _))) ⟨rfl, trivial⟩))) ?_
  refine Run.q (v := .pointer (some ⟨b3, 0, none⟩)) rfl (OpQ.y (OpY.fieldAddr Tfo_77_0 rfl rfl)) ?_
  refine Run.step rfl (OpStep.store (us := [.int .i64 x0]) Tsize_3 rfl rfl rfl (.here _) (by simp only [List.length_cons, List.length_nil]; omega) ?_)
  show Run _ _ _ [.blk b3 77 [.int .i64 x0, .int .i64 0], .blk b2 77 [.int .i64 0, .int .i64 0], .blk b1 79 [.int .i64 x0, .int .i64 x1]]
  refine Run.done ?_
  refine Run.seq ?_
  refine Run.region ?_
  refine Run.q (v := .pointer (some ⟨b1, 1, none⟩)) rfl (OpQ.y (OpY.fieldAddr Tfo_79_1 rfl rfl)) ?_
  refine Run.q (v := .int .i64 x1) rfl (OpQ.y (OpY.load1 Tone_3 rfl (Cells.blk (.tail _ (.tail _ (List.Mem.head _))) ⟨rfl, trivial⟩))) ?_
  refine Run.q (v := .pointer (some ⟨b3, 1, none⟩)) rfl (OpQ.y (OpY.fieldAddr Tfo_77_1 rfl rfl)) ?_
  refine Run.step rfl (OpStep.store (us := [.int .i64 x1]) Tsize_3 rfl rfl rfl (.here _) (by simp only [List.length_cons, List.length_nil]; omega) ?_)
  show Run _ _ _ [.blk b3 77 [.int .i64 x0, .int .i64 x1], .blk b2 77 [.int .i64 0, .int .i64 0], .blk b1 79 [.int .i64 x0, .int .i64 x1]]
  refine Run.done ?_
  refine Run.seq ?_
  refine Run.region ?_
  refine Run.q (v := .agg #[.int .i64 x0, .int .i64 x1]) rfl (OpQ.y (OpY.loadN (cs := [.int .i64 x0, .int .i64 x1]) Tagg_77 rfl (Cells.blk (.head _) ⟨rfl, rfl, trivial⟩))) ?_
  refine Run.step rfl (OpStep.storeAll (us := [.int .i64 x0, .int .i64 x1]) Tsize_77 rfl rfl rfl (.there _ (.here _)) rfl ?_)
  refine Run.done ?_
  refine Run.ret ?_
  refine ⟨.agg #[.int .i64 x0, .int .i64 x1], [], Out.cell1 (cs := [.int .i64 x0, .int .i64 x1]) rfl Tagg_77 rfl (Cells.blk (.tail _ (List.Mem.head _)) ⟨rfl, rfl, trivial⟩), (Some'.weak (.nil _)), ?_⟩
  rfl

set_option maxHeartbeats 1000000 in
set_option maxRecDepth 20000 in
theorem toEdgeS_spec {va : Value} {n : Nat} {xs : List Int} {w : World} (ha : Sl w va 2 n (ints xs)) (hb : n ≤ 1048576) :
    Calls Try.prog 28 #[va] w (Post No w fun v H => H = [.own v 77 2 n (ints xs)]) := by
  have hxl := ha.len
  obtain ⟨A, c, rfl, _, _⟩ := ha.form0
  refine enter (n := 23) (args := [.slice A n c]) Try.func28 rfl rfl (St.empty _ _) ?_
  refine Run.seq ?_
  refine Run.region ?_
  refine Run.q (v := .slice none 0 0) rfl (OpQ.y (OpY.pure rfl)) ?_
  refine Run.done ?_
  refine Run.seq ?_
  refine Run.region ?_
  refine Run.q (v := .slice A n c) rfl (OpQ.y (OpY.pure rfl)) ?_
  refine Run.q (v := .int .i64 (((n : Nat) : Int))) rfl (OpQ.y (OpY.len Tsl_22 rfl)) ?_
  refine Run.step rfl (OpStep.makeSlice (n := n) Tsl_33 rfl (by decide) (by first | rfl | omega) (by first | rfl | omega) (by omega) (by simp only [maxLen]; omega) fun b1 => ?_)
  refine Run.q (v := .slice (some ⟨b1, 0, none⟩) n n) rfl (OpQ.y (OpY.pure rfl)) ?_
  refine Run.done ?_
  refine Run.seq ?_
  refine Run.seq ?_
  refine Run.region ?_
  refine Run.q (v := .int .i64 0) rfl (OpQ.y (OpY.pure rfl)) ?_
  refine Run.done ?_
  refine Run.block ?_
  refine Run.loop (ι := Nat) [4, 8, 9, 10, 11, 12, 13, 14, 15, 16, 17, 18, 19, 20, 21] (fun i => [(4, .int .i64 (((i : Nat) : Int)))]) (fun i => [.own (.slice (some ⟨b1, 0, none⟩) n n) 77 2 n (ints (filled (i * 2) xs))]) (fun i => i ≤ n) (fun i => n - i) 0 ?_ ?_ ?_ ?_
  · exact Nat.zero_le _
  · exact ⟨rfl, trivial⟩
  · exact (Some'.weak (.takeEq (by rw [Nat.zero_mul]; exact congrArg (Res.own _ _ _ _) (filled_zero hxl)) (.nil _)))
  · rintro i fr hinv
    show Run _ _ (over _ _ [(4, .int .i64 (((i : Nat) : Int)))] fr) [.own (.slice (some ⟨b1, 0, none⟩) n n) 77 2 n (ints (filled (i * 2) xs))]
    try dsimp only at hinv
    refine Run.seq ?_
    refine Run.seq ?_
    refine Run.region ?_
    refine Run.q (v := .int .i64 (((i : Nat) : Int))) rfl (OpQ.y (OpY.pure rfl)) ?_
    refine Run.q (v := .slice A n c) rfl (OpQ.y (OpY.pure rfl)) ?_
    refine Run.q (v := .int .i64 (((n : Nat) : Int))) rfl (OpQ.y (OpY.len Tsl_22 rfl)) ?_
    refine Run.q (v := .bool (decide ((((i : Nat) : Int)) < (((n : Nat) : Int))))) rfl (OpQ.y (OpY.pure rfl)) ?_
    refine Run.done ?_
    refine Run.cond (b := decide ((((i : Nat) : Int)) < (((n : Nat) : Int)))) rfl (fun h11 => ?_) (fun h11 => ?_)
    · have p11 := h11; try simp only [bs] at p11
      have hlt : i < n := by simp at h11; omega
      obtain ⟨b, o, rfl⟩ := ha.opn (by omega)
      refine Run.skip ?_
      refine Run.seq ?_
      refine Run.block ?_
      refine Run.region ?_
      refine Run.q (v := .slice (some ⟨b1, 0, none⟩) n n) rfl (OpQ.y (OpY.pure rfl)) ?_
      refine Run.q (v := .int .i64 (((i : Nat) : Int))) rfl (OpQ.y (OpY.pure rfl)) ?_
      refine Run.q (v := .slice (some ⟨b, o, none⟩) n c) rfl (OpQ.y (OpY.pure rfl)) ?_
      refine Run.q (v := .int .i64 (((i : Nat) : Int))) rfl (OpQ.y (OpY.pure rfl)) ?_
      refine Run.q (v := .pointer (some ⟨b, o + i * 2, none⟩)) rfl (OpQ.y (OpY.index (kk := i) Tsl_22 rfl rfl (by omega) (by omega) (by first | rfl | omega))) ?_
      refine Run.q (v := .agg #[.int .i64 (ix xs (i * 2)), .int .i64 (ix xs (i * 2 + 1))]) rfl (OpQ.y (OpY.loadN (cs := [.int .i64 (ix xs (i * 2)), .int .i64 (ix xs (i * 2 + 1))]) Tagg_79 rfl (Cells.arg (k := i * 2) ha rfl (by omega) (pre2 (by omega))))) ?_
      refine Run.q (v := .agg #[.int .i64 (ix xs (i * 2)), .int .i64 (ix xs (i * 2 + 1))]) rfl (OpQ.call (vs := [.agg #[.int .i64 (ix xs (i * 2)), .int .i64 (ix xs (i * 2 + 1))]]) (caps := []) Tcall_47 rfl rfl (fun w hs => toEdge_spec _ _  w)) ?_
      refine Run.q (v := .pointer (some ⟨b1, i * 2, none⟩)) rfl (OpQ.y (OpY.index (kk := i) Tsl_33 rfl rfl (by omega) (by omega) (by first | rfl | omega))) ?_
      refine Run.step rfl (OpStep.storeOwnInt2 (o := i * 2) (a := ix xs (i * 2)) (b := ix xs (i * 2 + 1)) Tsize_77 rfl rfl (.here _) (by omega) ?_)
      refine Run.done ?_
      refine Run.blockEnd ?_
      refine Run.region ?_
      refine Run.q (v := .int .i64 (((i : Nat) : Int))) rfl (OpQ.y (OpY.pure rfl)) ?_
      refine Run.q (v := .int .i64 ((((i : Nat) : Int)) + 1)) rfl (OpQ.y (OpY.add rfl rfl rfl (by omega) (by omega))) ?_
      refine Run.q (v := .int .i64 ((((i : Nat) : Int)) + 1)) rfl (OpQ.y (OpY.pure rfl)) ?_
      refine Run.done ?_
      refine Run.goal ⟨(by repeat (first | exact Same.refl _ _ | refine Same.put rfl ?_ | refine Same.over rfl rfl ?_)), i + 1, ?_, ?_, ?_, ?_⟩
      · omega
      · omega
      · exact ⟨(by first | rfl | (congr 1; omega) | simp), trivial⟩
      · exact (Some'.weak (.takeEq (congrArg (fun z => Res.own _ _ _ _ (ints z)) (filled_set2 (by omega))) (.nil _)))
    · have p11 := h11; try simp only [bs] at p11
      have hkn : i = n := by simp at h11; omega
      refine Run.exit rfl ?_
      refine Run.seq ?_
      refine Run.region ?_
      refine Run.q (v := .slice (some ⟨b1, 0, none⟩) n n) rfl (OpQ.y (OpY.pure rfl)) ?_
      refine Run.q (v := .slice (some ⟨b1, 0, none⟩) n n) rfl (OpQ.y (OpY.pure rfl)) ?_
      refine Run.done ?_
      refine Run.ret ?_
      refine ⟨.slice (some ⟨b1, 0, none⟩) n n, [.own (.slice (some ⟨b1, 0, none⟩) n n) 77 2 n (ints xs)], Out.one rfl rfl, (Some'.weak (.takeEq (by rw [filled_all (by omega)]) (.nil _))), ?_⟩
      rfl

set_option maxHeartbeats 1000000 in
set_option maxRecDepth 20000 in
theorem szCouplingGraph_spec {Nodes : Int} {vEdges : Value} {nEdges : Nat} {xsEdges : List Int} {left : Int} {w : World} (hEdges : Sl w vEdges 2 nEdges (ints xsEdges)) (h0 : 0 ≤ left) (h1 : left ≤ 1048576) : Calls Try.prog 6 #[.agg #[.int .i64 Nodes, vEdges], .int .i64 left] w (Post No w fun v _ => v = .int .i64 (szN left [nEdges])) := by
  refine enter (n := 12) (args := [.agg #[.int .i64 Nodes, vEdges], .int .i64 left]) Try.func6 rfl rfl (St.empty _ _) ?_
  refine Run.seq ?_
  refine Run.region ?_
  refine Run.step rfl (OpStep.box (us := [.int .i64 Nodes, vEdges]) rfl fun b1 => ?_)
  refine Run.q (v := .int .i64 0) rfl (OpQ.y (OpY.pure rfl)) ?_
  refine Run.done ?_
  refine Run.seq ?_
  refine Run.region ?_
  refine Run.q (v := .pointer (some ⟨b1, 1, none⟩)) rfl (OpQ.y (OpY.fieldAddr Tfo_24_1 rfl rfl)) ?_
  refine Run.q (v := vEdges) rfl (OpQ.y (OpY.load1 Tone_22 rfl (Cells.blk (.head _) ⟨rfl, trivial⟩))) ?_
  refine Run.q (v := .int .i64 left) rfl (OpQ.y (OpY.pure rfl)) ?_
  refine Run.q (v := .int .i64 (szN left [nEdges])) rfl (OpQ.call (vs := [vEdges, .int .i64 left]) (caps := []) Tcall_26 rfl rfl (fun w hs => szEdgeS_spec (hs.sl hEdges) (by omega) (by omega))) ?_
  refine Run.q (v := .int .i64 (szN left [nEdges])) rfl (OpQ.y (OpY.pure rfl)) ?_
  refine Run.done ?_
  refine Run.seq ?_
  refine Run.seq ?_
  refine Run.region ?_
  refine Run.q (v := .int .i64 (szN left [nEdges])) rfl (OpQ.y (OpY.pure rfl)) ?_
  refine Run.q (v := .bool (decide ((szN left [nEdges]) < 0))) rfl (OpQ.y (OpY.pure rfl)) ?_
  refine Run.done ?_
  refine Run.cond (b := decide ((szN left [nEdges]) < 0)) rfl (fun h10 => ?_) (fun h10 => ?_)
  · have p10 := h10; try simp only [bs] at p10
    refine Run.seq ?_
    refine Run.region ?_
    refine Run.q (v := .int .i64 (-1)) rfl (OpQ.y (OpY.pure rfl)) ?_
    refine Run.done ?_
    refine Run.ret ?_
    refine ⟨.int .i64 (-1), [], Out.one rfl rfl, (Some'.weak (.nil _)), ?_⟩
    show _ = _; first | (simp_all [szN]; done) | (simp only [decide_eq_true_eq, decide_eq_false_iff_not, szN] at *; grind)
  · have p10 := h10; try simp only [bs] at p10
    have hz10 := szN_bound (ns := [nEdges]) (l := left) p10 nEdges (by simp)
    refine Run.skip ?_
    refine Run.seq ?_
    refine Run.region ?_
    refine Run.q (v := .int .i64 (szN left [nEdges])) rfl (OpQ.y (OpY.pure rfl)) ?_
    refine Run.q (v := .int .i64 (szN left [nEdges])) rfl (OpQ.y (OpY.pure rfl)) ?_
    refine Run.done ?_
    refine Run.ret ?_
    refine ⟨.int .i64 (szN left [nEdges]), [], Out.one rfl rfl, (Some'.weak (.nil _)), ?_⟩
    show _ = _; first | (simp_all [szN]; done) | (simp only [decide_eq_true_eq, decide_eq_false_iff_not, szN] at *; grind)

set_option maxHeartbeats 1000000 in
set_option maxRecDepth 20000 in
theorem toCouplingGraph_spec {Nodes : Int} {vEdges : Value} {nEdges : Nat} {xsEdges : List Int} {w : World} (hEdges : Sl w vEdges 2 nEdges (ints xsEdges)) (hbEdges : nEdges ≤ 1048576) : Calls Try.prog 9 #[.agg #[.int .i64 Nodes, vEdges]] w (Post No w fun v H => ∃ uEdges, v = .agg #[.int .i64 Nodes, uEdges] ∧ H = [.own uEdges 77 2 nEdges (ints xsEdges)]) := by
  refine enter (n := 12) (args := [.agg #[.int .i64 Nodes, vEdges]]) Try.func9 rfl rfl (St.empty _ _) ?_
  refine Run.seq ?_
  refine Run.region ?_
  refine Run.step rfl (OpStep.box (us := [.int .i64 Nodes, vEdges]) rfl fun b1 => ?_)
  refine Run.step rfl (OpStep.alloc (zs := [.int .i64 0, .slice none 0 0]) Tzero_35 fun b2 => ?_)
  refine Run.done ?_
  refine Run.seq ?_
  refine Run.region ?_
  refine Run.step rfl (OpStep.alloc (zs := [.int .i64 0, .slice none 0 0]) Tzero_35 fun b3 => ?_)
  refine Run.done ?_
  refine Run.seq ?_
  refine Run.region ?_
  refine Run.q (v := .pointer (some ⟨b1, 0, none⟩)) rfl (OpQ.y (OpY.fieldAddr Tfo_24_0 rfl rfl)) ?_
  refine Run.q (v := .int .i64 Nodes) rfl (OpQ.y (OpY.load1 Tone_3 rfl (Cells.blk (.tail _ (.tail _ (List.Mem.head _))) ⟨rfl, trivial⟩))) ?_
  refine Run.q (v := .pointer (some ⟨b3, 0, none⟩)) rfl (OpQ.y (OpY.fieldAddr Tfo_35_0 rfl rfl)) ?_
  refine Run.step rfl (OpStep.store (us := [.int .i64 Nodes]) Tsize_3 rfl rfl rfl (.here _) (by simp only [List.length_cons, List.length_nil]; omega) ?_)
  show Run _ _ _ [.blk b3 35 [.int .i64 Nodes, .slice none 0 0], .blk b2 35 [.int .i64 0, .slice none 0 0], .blk b1 24 [.int .i64 Nodes, vEdges]]
  refine Run.done ?_
  refine Run.seq ?_
  refine Run.region ?_
  refine Run.q (v := .pointer (some ⟨b1, 1, none⟩)) rfl (OpQ.y (OpY.fieldAddr Tfo_24_1 rfl rfl)) ?_
  refine Run.q (v := vEdges) rfl (OpQ.y (OpY.load1 Tone_22 rfl (Cells.blk (.tail _ (.tail _ (List.Mem.head _))) ⟨rfl, trivial⟩))) ?_
  refine Run.step rfl (OpStep.call (vs := [vEdges]) (caps := []) Tcall_28 rfl rfl (fun w hs => toEdgeS_spec (hs.sl hEdges) (by omega)) ?_)
  rintro uEdges _ rfl
  show Run _ _ (putF _ _ _ uEdges) [.own uEdges 77 2 nEdges (ints xsEdges), .blk b3 35 [.int .i64 Nodes, .slice none 0 0], .blk b2 35 [.int .i64 0, .slice none 0 0], .blk b1 24 [.int .i64 Nodes, vEdges]]
  refine Run.q (v := .pointer (some ⟨b3, 1, none⟩)) rfl (OpQ.y (OpY.fieldAddr Tfo_35_1 rfl rfl)) ?_
  refine Run.formOwn (.head _) (fun A_uEdges1 c_uEdges1 hv hcapc_uEdges1 hmaxc_uEdges1 => ?_) (fun _ _ _ => ⟨nofun, nofun, nofun⟩)
  subst hv
  refine Run.step rfl (OpStep.store (us := [.slice A_uEdges1 nEdges c_uEdges1]) Tsize_33 rfl rfl rfl (.there _ (.here _)) (by simp only [List.length_cons, List.length_nil]; omega) ?_)
  show Run _ _ _ [.own (.slice A_uEdges1 nEdges c_uEdges1) 77 2 nEdges (ints xsEdges), .blk b3 35 [.int .i64 Nodes, .slice A_uEdges1 nEdges c_uEdges1], .blk b2 35 [.int .i64 0, .slice none 0 0], .blk b1 24 [.int .i64 Nodes, vEdges]]
  refine Run.done ?_
  refine Run.seq ?_
  refine Run.region ?_
  refine Run.q (v := .agg #[.int .i64 Nodes, .slice A_uEdges1 nEdges c_uEdges1]) rfl (OpQ.y (OpY.loadN (cs := [.int .i64 Nodes, .slice A_uEdges1 nEdges c_uEdges1]) Tagg_35 rfl (Cells.blk (.tail _ (List.Mem.head _)) ⟨rfl, rfl, trivial⟩))) ?_
  refine Run.step rfl (OpStep.storeAll (us := [.int .i64 Nodes, .slice A_uEdges1 nEdges c_uEdges1]) Tsize_35 rfl rfl rfl (.there _ (.there _ (.here _))) rfl ?_)
  refine Run.done ?_
  refine Run.ret ?_
  refine ⟨.agg #[.int .i64 Nodes, .slice A_uEdges1 nEdges c_uEdges1], [.own (.slice A_uEdges1 nEdges c_uEdges1) 77 2 nEdges (ints xsEdges)], Out.cell1 (cs := [.int .i64 Nodes, .slice A_uEdges1 nEdges c_uEdges1]) rfl Tagg_35 rfl (Cells.blk (.tail _ (.tail _ (List.Mem.head _))) ⟨rfl, rfl, trivial⟩), (Some'.weak (.take (.nil _))), ?_⟩
  exact ⟨_, rfl, rfl⟩

set_option maxHeartbeats 1000000 in
set_option maxRecDepth 20000 in
theorem eqCouplingGraph_true {Nodes : Int} {vEdges : Value} {nEdges : Nat} {xsEdges : List Int} {qvEdges : Value} {w : World} (hEdges : Sl w vEdges 2 nEdges (ints xsEdges)) (qhEdges : Sl w qvEdges 2 nEdges (ints xsEdges)) : Calls Try.prog 13 #[.agg #[.int .i64 Nodes, vEdges], .agg #[.int .i64 Nodes, qvEdges]] w (Post No w fun v _ => v = .bool true) := by
  refine enter (n := 16) (args := [.agg #[.int .i64 Nodes, vEdges], .agg #[.int .i64 Nodes, qvEdges]]) Try.func13 rfl rfl (St.empty _ _) ?_
  refine Run.seq ?_
  refine Run.region ?_
  refine Run.step rfl (OpStep.box (us := [.int .i64 Nodes, vEdges]) rfl fun b1 => ?_)
  refine Run.step rfl (OpStep.box (us := [.int .i64 Nodes, qvEdges]) rfl fun b2 => ?_)
  refine Run.q (v := .bool false) rfl (OpQ.y (OpY.pure rfl)) ?_
  refine Run.done ?_
  refine Run.seq ?_
  refine Run.seq ?_
  refine Run.region ?_
  refine Run.q (v := .pointer (some ⟨b1, 0, none⟩)) rfl (OpQ.y (OpY.fieldAddr Tfo_35_0 rfl rfl)) ?_
  refine Run.q (v := .int .i64 Nodes) rfl (OpQ.y (OpY.load1 Tone_3 rfl (Cells.blk (.tail _ (List.Mem.head _)) ⟨rfl, trivial⟩))) ?_
  refine Run.q (v := .pointer (some ⟨b2, 0, none⟩)) rfl (OpQ.y (OpY.fieldAddr Tfo_35_0 rfl rfl)) ?_
  refine Run.q (v := .int .i64 Nodes) rfl (OpQ.y (OpY.load1 Tone_3 rfl (Cells.blk (.head _) ⟨rfl, trivial⟩))) ?_
  refine Run.q (v := .bool false) rfl (OpQ.y (OpY.neqSame rfl rfl rfl)) ?_
  refine Run.done ?_
  refine Run.cond (b := false) rfl (fun h => nomatch h) (fun _ => ?_)
  refine Run.skip ?_
  refine Run.seq ?_
  refine Run.seq ?_
  refine Run.region ?_
  refine Run.q (v := .pointer (some ⟨b1, 1, none⟩)) rfl (OpQ.y (OpY.fieldAddr Tfo_35_1 rfl rfl)) ?_
  refine Run.q (v := vEdges) rfl (OpQ.y (OpY.load1 Tone_33 rfl (Cells.blk (.tail _ (List.Mem.head _)) ⟨rfl, trivial⟩))) ?_
  refine Run.q (v := .pointer (some ⟨b2, 1, none⟩)) rfl (OpQ.y (OpY.fieldAddr Tfo_35_1 rfl rfl)) ?_
  refine Run.q (v := qvEdges) rfl (OpQ.y (OpY.load1 Tone_33 rfl (Cells.blk (.head _) ⟨rfl, trivial⟩))) ?_
  refine Run.q (v := .bool true) rfl (OpQ.call (vs := [vEdges, qvEdges]) (caps := []) Tcall_32 rfl rfl (fun w hs => eqEdgeS_true (hs.sl hEdges) (hs.sl qhEdges) rfl)) ?_
  refine Run.q (v := .bool false) rfl (OpQ.y (OpY.pure rfl)) ?_
  refine Run.done ?_
  refine Run.cond (b := false) rfl (fun h => nomatch h) (fun _ => ?_)
  refine Run.skip ?_
  refine Run.seq ?_
  refine Run.region ?_
  refine Run.q (v := .bool true) rfl (OpQ.y (OpY.pure rfl)) ?_
  refine Run.done ?_
  refine Run.ret ?_
  refine ⟨.bool true, [], Out.one rfl rfl, (Some'.weak (.nil _)), ?_⟩
  rfl

set_option maxHeartbeats 1000000 in
set_option maxRecDepth 20000 in
theorem markCouplingGraph_spec {Nodes : Int} {vEdges : Value} {nEdges : Nat} {xsEdges : List Int} {k : Int} {w : World} (hst : St (Of [.own vEdges 77 2 nEdges (ints xsEdges)]) w w [.own vEdges 77 2 nEdges (ints xsEdges)]) (h0 : 0 ≤ k) (hk : k + ((nEdges : Nat) : Int) * 2 < 4611686018427387904) :
    Calls Try.prog 19 #[.agg #[.int .i64 Nodes, vEdges], .int .i64 k] w (Post (Of [.own vEdges 77 2 nEdges (ints xsEdges)]) w fun v H => v = .int .i64 (k + ((nEdges : Nat) : Int) * 2) ∧ H = [.own vEdges 77 2 nEdges (ints (mks (k) (nEdges * 2)))]) := by
  refine enter (n := 10) (args := [.agg #[.int .i64 Nodes, vEdges], .int .i64 k]) Try.func19 rfl rfl (hst) ?_
  refine Run.seq ?_
  refine Run.region ?_
  refine Run.step rfl (OpStep.box (us := [.int .i64 Nodes, vEdges]) rfl fun b1 => ?_)
  refine Run.q (v := .int .i64 0) rfl (OpQ.y (OpY.pure rfl)) ?_
  refine Run.done ?_
  refine Run.seq ?_
  refine Run.region ?_
  refine Run.q (v := .pointer (some ⟨b1, 1, none⟩)) rfl (OpQ.y (OpY.fieldAddr Tfo_35_1 rfl rfl)) ?_
  refine Run.q (v := vEdges) rfl (OpQ.y (OpY.load1 Tone_33 rfl (Cells.blk (.head _) ⟨rfl, trivial⟩))) ?_
  refine Run.q (v := .int .i64 k) rfl (OpQ.y (OpY.pure rfl)) ?_
  refine Run.step rfl (OpStep.callM (H1 := [.own vEdges 77 2 nEdges (ints xsEdges)]) (H2 := [.blk b1 35 [.int .i64 Nodes, vEdges]]) (vs := [vEdges, .int .i64 k]) (caps := []) Tcall_38 rfl rfl (Weak.selF [1]) (fun w hs => markEdgeS_spec (hs.holds _ (.head _)) (by omega) (by omega)) ?_)
  rintro _ _ ⟨rfl, rfl⟩
  show Run _ _ (putF _ _ _ (.int .i64 (k + ((nEdges : Nat) : Int) * 2))) [.own vEdges 77 2 nEdges (ints (mks k (nEdges * 2))), .blk b1 35 [.int .i64 Nodes, vEdges]]
  refine Run.q (v := .int .i64 (k + ((nEdges : Nat) : Int) * 2)) rfl (OpQ.y (OpY.pure rfl)) ?_
  refine Run.done ?_
  refine Run.seq ?_
  refine Run.region ?_
  refine Run.q (v := .int .i64 (k + ((nEdges : Nat) : Int) * 2)) rfl (OpQ.y (OpY.pure rfl)) ?_
  refine Run.q (v := .int .i64 (k + ((nEdges : Nat) : Int) * 2)) rfl (OpQ.y (OpY.pure rfl)) ?_
  refine Run.done ?_
  refine Run.ret ?_
  refine ⟨.int .i64 (k + ((nEdges : Nat) : Int) * 2), [.own vEdges 77 2 nEdges (ints (mks (k) (nEdges * 2)))], Out.one rfl rfl, (Some'.weak (.takeEq (by first | rfl | simp) (.nil _))), ?_⟩
  exact ⟨rfl, rfl⟩

end Go.Proofs.Ytekikmdjldincaa
/- Walks: valid edges, valid coupling graphs; the law FnExactIsValidCouplingGraph. -/
set_option linter.unusedSimpArgs false
set_option linter.unusedVariables false
namespace Go.Proofs.Ytekikmdjldincaa
open Go Go.RowKit
namespace Cg2T
theorem Tagg_77 : aggOf Try.prog 77 = some 2 := by kernel_rfl
theorem Tcall_61 : callable Try.prog 61 = true := by kernel_rfl
theorem Tcall_73 : callable Try.prog 73 = true := by kernel_rfl
theorem Tcall_94 : callable Try.prog 94 = true := by kernel_rfl
theorem Tfo_35_0 : fieldOff Try.prog 35 0 = some 0 := by kernel_rfl
theorem Tfo_35_1 : fieldOff Try.prog 35 1 = some 1 := by kernel_rfl
theorem Tfo_77_0 : fieldOff Try.prog 77 0 = some 0 := by kernel_rfl
theorem Tfo_77_1 : fieldOff Try.prog 77 1 = some 1 := by kernel_rfl
theorem Tone_3 : oneOf Try.prog 3 = true := by kernel_rfl
theorem Tone_33 : oneOf Try.prog 33 = true := by kernel_rfl
theorem Tsize_77 : (Try.prog.info? 77).map (·.size) = some 2 := by kernel_rfl
theorem Tsl_33 : sliceOf Try.prog 33 = some (77, 2, 16, [.int .i64 0, .int .i64 0]) := by kernel_rfl
theorem Tzero_77 : zeroOf Try.prog 77 = some [.int .i64 0, .int .i64 0] := by kernel_rfl
end Cg2T
open Cg2T
/-- Edge i of a flat list of edges is in range and behind the one before it. -/
def edgeOk (N : Int) (xs : List Int) (i : Nat) : Prop :=
  0 ≤ ix xs (i * 2) ∧ ix xs (i * 2) < ix xs (i * 2 + 1) ∧ ix xs (i * 2 + 1) < N ∧ (0 < i → ix xs ((i - 1) * 2) < ix xs (i * 2) ∨ (ix xs ((i - 1) * 2) = ix xs (i * 2) ∧ ix xs ((i - 1) * 2 + 1) < ix xs (i * 2 + 1)))
instance (N : Int) (xs : List Int) (i : Nat) : Decidable (edgeOk N xs i) := by unfold edgeOk; infer_instance
def edgesOk (N : Int) (xs : List Int) (n : Nat) : Bool := decide (∀ i, i < n → edgeOk N xs i)
def dec (x : Int) : Int := if x = -9223372036854775808 then 9223372036854775807 else x - 1
theorem dec_cases (x : Int) : dec x = x - 1 ∨ (x = -9223372036854775808 ∧ dec x = 9223372036854775807) := by unfold dec; split <;> omega
theorem wrap_dec {x : Int} (h : In64 x) : IntKind.i64.wrap (x - 1) = dec x := by
  have h1 := h.1; have h2 := h.2
  unfold dec; split
  · rename_i e; subst e; rfl
  · rw [IntKind.wrap_i64]; omega
def cgOk (N : Int) (xs : List Int) (n : Nat) : Bool := within N 1 8 && edgesOk N xs n

set_option maxHeartbeats 1000000 in
set_option maxRecDepth 20000 in
theorem areEdges_spec {N : Int} {va : Value} {n : Nat} {xs : List Int} {w : World} (ha : Sl w va 2 n (ints xs)) : Calls Try.prog 94 #[.int .i64 N, va] w (Post No w fun v _ => v = .bool (edgesOk N xs n)) := by
  have hxl := ha.len
  have hn := ha.le
  obtain ⟨A, c, rfl, _, _⟩ := ha.form0
  refine enter (n := 68) (args := [.int .i64 N, .slice A n c]) Try.func94 rfl rfl (St.empty _ _) ?_
  refine Run.seq ?_
  refine Run.region ?_
  refine Run.q (v := .bool false) rfl (OpQ.y (OpY.pure rfl)) ?_
  refine Run.done ?_
  refine Run.seq ?_
  refine Run.seq ?_
  refine Run.region ?_
  refine Run.q (v := .slice A n c) rfl (OpQ.y (OpY.pure rfl)) ?_
  refine Run.q (v := .int .i64 (((n : Nat) : Int))) rfl (OpQ.y (OpY.len Tsl_33 rfl)) ?_
  refine Run.q (v := .int .i64 0) rfl (OpQ.y (OpY.pure rfl)) ?_
  refine Run.done ?_
  refine Run.block ?_
  refine Run.loop (ι := Nat) ([4, 5, 6, 9, 10, 11, 12, 13, 14, 15, 16, 17, 18, 19, 20, 21, 22, 23, 24, 25, 26, 27, 28, 29, 30, 31, 32, 33, 34, 35, 36, 37, 38, 39, 40, 41, 42, 43, 44, 45, 46, 47, 48, 49, 50, 51, 52, 53, 54, 55] ++ [56, 57, 58, 59, 60, 61, 62, 63, 64, 65, 66, 67]) (fun k => [(9, .int .i64 (((k : Nat) : Int)))]) (fun k => []) (fun k => k ≤ n ∧ ∀ i, i < k → edgeOk N xs i) (fun k => n - k) 0 ?_ ?_ ?_ ?_
  · exact ⟨Nat.zero_le _, fun i hi => by omega⟩
  · exact ⟨rfl, trivial⟩
  · exact (Some'.weak (.nil _))
  · rintro k fr hinv
    show Run _ _ (over _ _ [(9, .int .i64 (((k : Nat) : Int)))] fr) []
    try dsimp only at hinv
    refine Run.seq ?_
    refine Run.region ?_
    refine Run.q (v := .bool (decide ((((k : Nat) : Int)) < (((n : Nat) : Int))))) rfl (OpQ.y (OpY.pure rfl)) ?_
    refine Run.done ?_
    refine Run.seq ?_
    refine Run.cond (b := decide ((((k : Nat) : Int)) < (((n : Nat) : Int)))) rfl (fun h10 => ?_) (fun h10 => ?_)
    · have p10 := h10; try simp only [bs] at p10
      have hlt : k < n := by simp at h10; omega
      obtain ⟨b, o, rfl⟩ := ha.opn (by omega)
      refine Run.skip ?_
      refine Run.seq ?_
      refine Run.block ?_
      refine Run.seq ?_
      refine Run.region ?_
      refine Run.q (v := .int .i64 (((k : Nat) : Int))) rfl (OpQ.y (OpY.pure rfl)) ?_
      refine Run.q (v := .pointer (some ⟨b, o + k * 2, none⟩)) rfl (OpQ.y (OpY.index (kk := k) Tsl_33 rfl rfl (by omega) (by omega) (by first | rfl | omega))) ?_
      refine Run.q (v := .agg #[.int .i64 (ix xs (k * 2)), .int .i64 (ix xs (k * 2 + 1))]) rfl (OpQ.y (OpY.loadN (cs := [.int .i64 (ix xs (k * 2)), .int .i64 (ix xs (k * 2 + 1))]) Tagg_77 rfl (Cells.arg (k := k * 2) ha rfl (by omega) (pre2 (by omega))))) ?_
      refine Run.step rfl (OpStep.alloc (zs := [.int .i64 0, .int .i64 0]) Tzero_77 fun b1 => ?_)
      refine Run.q (v := .int .i64 (((k : Nat) : Int))) rfl (OpQ.y (OpY.pure rfl)) ?_
      refine Run.step rfl (OpStep.storeAll (us := [.int .i64 (ix xs (k * 2)), .int .i64 (ix xs (k * 2 + 1))]) Tsize_77 rfl rfl rfl (.here _) rfl ?_)
      refine Run.done ?_
      refine Run.seq ?_
      refine Run.draws (by kernel_rfl) (by kernel_rfl) ?_
      refine Lex.q (v := .pointer (some ⟨b1, 0, none⟩)) rfl (OpQ.y (OpY.fieldAddr Tfo_77_0 rfl rfl)) ?_
      refine Lex.q (v := .int .i64 (ix xs (k * 2))) rfl (OpQ.y (OpY.load1 Tone_3 rfl (Cells.blk (.head _) ⟨rfl, trivial⟩))) ?_
      refine Lex.q (v := .bool (decide ((ix xs (k * 2)) < 0))) rfl (OpQ.y (OpY.pure rfl)) ?_
      rcases Bool.eq_false_or_eq_true (decide ((ix xs (k * 2)) < 0)) with h17 | h17
      · refine Lex.q (v := .bool true) rfl (OpQ.y (OpY.moveB rfl h17)) ?_
        have p17 := h17; try simp only [bs] at p17
        refine Lex.pass rfl ?_
        refine Lex.pass rfl ?_
        refine Lex.pass rfl ?_
        refine Lex.pass rfl ?_
        refine Lex.pass rfl ?_
        refine Lex.q (v := .bool true) rfl (OpQ.y (OpY.pure rfl)) ?_
        refine Lex.q (v := .bool true) rfl (OpQ.y (OpY.pure rfl)) ?_
        refine Lex.pass rfl ?_
        refine Lex.pass rfl ?_
        refine Lex.pass rfl ?_
        refine Lex.pass rfl ?_
        refine Lex.q (v := .bool true) rfl (OpQ.y (OpY.pure rfl)) ?_
        refine Lex.q (v := .bool true) rfl (OpQ.y (OpY.pure rfl)) ?_
        refine Lex.pass rfl ?_
        refine Lex.pass rfl ?_
        refine Lex.pass rfl ?_
        refine Lex.pass rfl ?_
        refine Lex.pass rfl ?_
        refine Lex.pass rfl ?_
        refine Lex.pass rfl ?_
        refine Lex.pass rfl ?_
        refine Lex.pass rfl ?_
        refine Lex.pass rfl ?_
        refine Lex.pass rfl ?_
        refine Lex.pass rfl ?_
        refine Lex.pass rfl ?_
        refine Lex.pass rfl ?_
        refine Lex.pass rfl ?_
        refine Lex.pass rfl ?_
        refine Lex.pass rfl ?_
        refine Lex.pass rfl ?_
        refine Lex.pass rfl ?_
        refine Lex.pass rfl ?_
        refine Lex.pass rfl ?_
        refine Lex.pass rfl ?_
        refine Lex.pass rfl ?_
        refine Lex.pass rfl ?_
        refine Lex.pass rfl ?_
        refine Lex.pass rfl ?_
        refine Lex.pass rfl ?_
        refine Lex.pass rfl ?_
        refine Lex.pass rfl ?_
        refine Lex.pass rfl ?_
        refine Lex.pass rfl ?_
        refine Lex.pass rfl ?_
        refine Lex.pass rfl ?_
        refine Lex.pass rfl ?_
        refine Lex.pass rfl ?_
        refine Lex.q (v := .bool true) rfl (OpQ.y (OpY.pure rfl)) ?_
        refine Lex.done ?_
        refine Run.cond (b := true) rfl (fun _ => ?_) (fun h => nomatch h)
        refine Run.seq ?_
        have hbad : edgesOk N xs n = false := by
          simp only [edgesOk, decide_eq_false_iff_not]; intro h; have h1 := h k hlt; simp only [edgeOk] at *; omega
        refine Run.region ?_
        refine Run.q (v := .bool false) rfl (OpQ.y (OpY.pure rfl)) ?_
        refine Run.done ?_
        refine Run.ret ?_
        refine ⟨.bool false, [], Out.one rfl rfl, (Some'.weak (.nil _)), ?_⟩
        show _ = _; simp_all
      · refine Lex.q (v := .bool false) rfl (OpQ.y (OpY.moveB rfl h17)) ?_
        have p17 := h17; try simp only [bs] at p17
        refine Lex.q (v := .pointer (some ⟨b1, 0, none⟩)) rfl (OpQ.y (OpY.fieldAddr Tfo_77_0 rfl rfl)) ?_
        refine Lex.q (v := .int .i64 (ix xs (k * 2))) rfl (OpQ.y (OpY.load1 Tone_3 rfl (Cells.blk (.head _) ⟨rfl, trivial⟩))) ?_
        refine Lex.q (v := .pointer (some ⟨b1, 1, none⟩)) rfl (OpQ.y (OpY.fieldAddr Tfo_77_1 rfl rfl)) ?_
        refine Lex.q (v := .int .i64 (ix xs (k * 2 + 1))) rfl (OpQ.y (OpY.load1 Tone_3 rfl (Cells.blk (.head _) ⟨rfl, trivial⟩))) ?_
        refine Lex.q (v := .bool (decide ((ix xs (k * 2)) ≥ (ix xs (k * 2 + 1))))) rfl (OpQ.y (OpY.pure rfl)) ?_
        refine Lex.q (v := .bool (decide ((ix xs (k * 2)) ≥ (ix xs (k * 2 + 1))))) rfl (OpQ.y (OpY.pure rfl)) ?_
        rcases Bool.eq_false_or_eq_true (decide ((ix xs (k * 2)) ≥ (ix xs (k * 2 + 1)))) with h24 | h24
        · refine Lex.q (v := .bool true) rfl (OpQ.y (OpY.moveB rfl h24)) ?_
          have p24 := h24; try simp only [bs] at p24
          refine Lex.pass rfl ?_
          refine Lex.pass rfl ?_
          refine Lex.pass rfl ?_
          refine Lex.pass rfl ?_
          refine Lex.q (v := .bool true) rfl (OpQ.y (OpY.pure rfl)) ?_
          refine Lex.q (v := .bool true) rfl (OpQ.y (OpY.pure rfl)) ?_
          refine Lex.pass rfl ?_
          refine Lex.pass rfl ?_
          refine Lex.pass rfl ?_
          refine Lex.pass rfl ?_
          refine Lex.pass rfl ?_
          refine Lex.pass rfl ?_
          refine Lex.pass rfl ?_
          refine Lex.pass rfl ?_
          refine Lex.pass rfl ?_
          refine Lex.pass rfl ?_
          refine Lex.pass rfl ?_
          refine Lex.pass rfl ?_
          refine Lex.pass rfl ?_
          refine Lex.pass rfl ?_
          refine Lex.pass rfl ?_
          refine Lex.pass rfl ?_
          refine Lex.pass rfl ?_
          refine Lex.pass rfl ?_
          refine Lex.pass rfl ?_
          refine Lex.pass rfl ?_
          refine Lex.pass rfl ?_
          refine Lex.pass rfl ?_
          refine Lex.pass rfl ?_
          refine Lex.pass rfl ?_
          refine Lex.pass rfl ?_
          refine Lex.pass rfl ?_
          refine Lex.pass rfl ?_
          refine Lex.pass rfl ?_
          refine Lex.pass rfl ?_
          refine Lex.pass rfl ?_
          refine Lex.pass rfl ?_
          refine Lex.pass rfl ?_
          refine Lex.pass rfl ?_
          refine Lex.pass rfl ?_
          refine Lex.pass rfl ?_
          refine Lex.q (v := .bool true) rfl (OpQ.y (OpY.pure rfl)) ?_
          refine Lex.done ?_
          refine Run.cond (b := true) rfl (fun _ => ?_) (fun h => nomatch h)
          refine Run.seq ?_
          have hbad : edgesOk N xs n = false := by
            simp only [edgesOk, decide_eq_false_iff_not]; intro h; have h1 := h k hlt; simp only [edgeOk] at *; omega
          refine Run.region ?_
          refine Run.q (v := .bool false) rfl (OpQ.y (OpY.pure rfl)) ?_
          refine Run.done ?_
          refine Run.ret ?_
          refine ⟨.bool false, [], Out.one rfl rfl, (Some'.weak (.nil _)), ?_⟩
          show _ = _; simp_all
        · refine Lex.q (v := .bool false) rfl (OpQ.y (OpY.moveB rfl h24)) ?_
          have p24 := h24; try simp only [bs] at p24
          refine Lex.q (v := .pointer (some ⟨b1, 1, none⟩)) rfl (OpQ.y (OpY.fieldAddr Tfo_77_1 rfl rfl)) ?_
          refine Lex.q (v := .int .i64 (ix xs (k * 2 + 1))) rfl (OpQ.y (OpY.load1 Tone_3 rfl (Cells.blk (.head _) ⟨rfl, trivial⟩))) ?_
          refine Lex.q (v := .int .i64 N) rfl (OpQ.y (OpY.pure rfl)) ?_
          refine Lex.q (v := .bool (decide ((ix xs (k * 2 + 1)) ≥ N))) rfl (OpQ.y (OpY.pure rfl)) ?_
          refine Lex.q (v := .bool (decide ((ix xs (k * 2 + 1)) ≥ N))) rfl (OpQ.y (OpY.pure rfl)) ?_
          rcases Bool.eq_false_or_eq_true (decide ((ix xs (k * 2 + 1)) ≥ N)) with h30 | h30
          · refine Lex.q (v := .bool true) rfl (OpQ.y (OpY.moveB rfl h30)) ?_
            have p30 := h30; try simp only [bs] at p30
            refine Lex.pass rfl ?_
            refine Lex.pass rfl ?_
            refine Lex.pass rfl ?_
            refine Lex.pass rfl ?_
            refine Lex.pass rfl ?_
            refine Lex.pass rfl ?_
            refine Lex.pass rfl ?_
            refine Lex.pass rfl ?_
            refine Lex.pass rfl ?_
            refine Lex.pass rfl ?_
            refine Lex.pass rfl ?_
            refine Lex.pass rfl ?_
            refine Lex.pass rfl ?_
            refine Lex.pass rfl ?_
            refine Lex.pass rfl ?_
            refine Lex.pass rfl ?_
            refine Lex.pass rfl ?_
            refine Lex.pass rfl ?_
            refine Lex.pass rfl ?_
            refine Lex.pass rfl ?_
            refine Lex.pass rfl ?_
            refine Lex.pass rfl ?_
            refine Lex.pass rfl ?_
            refine Lex.pass rfl ?_
            refine Lex.pass rfl ?_
            refine Lex.pass rfl ?_
            refine Lex.pass rfl ?_
            refine Lex.pass rfl ?_
            refine Lex.pass rfl ?_
            refine Lex.pass rfl ?_
            refine Lex.pass rfl ?_
            refine Lex.pass rfl ?_
            refine Lex.pass rfl ?_
            refine Lex.pass rfl ?_
            refine Lex.pass rfl ?_
            refine Lex.q (v := .bool true) rfl (OpQ.y (OpY.pure rfl)) ?_
            refine Lex.done ?_
            refine Run.cond (b := true) rfl (fun _ => ?_) (fun h => nomatch h)
            refine Run.seq ?_
            have hbad : edgesOk N xs n = false := by
              simp only [edgesOk, decide_eq_false_iff_not]; intro h; have h1 := h k hlt; simp only [edgeOk] at *; omega
            refine Run.region ?_
            refine Run.q (v := .bool false) rfl (OpQ.y (OpY.pure rfl)) ?_
            refine Run.done ?_
            refine Run.ret ?_
            refine ⟨.bool false, [], Out.one rfl rfl, (Some'.weak (.nil _)), ?_⟩
            show _ = _; simp_all
          · refine Lex.q (v := .bool false) rfl (OpQ.y (OpY.moveB rfl h30)) ?_
            have p30 := h30; try simp only [bs] at p30
            refine Lex.q (v := .int .i64 (((k : Nat) : Int))) rfl (OpQ.y (OpY.pure rfl)) ?_
            refine Lex.q (v := .bool (decide ((((k : Nat) : Int)) > 0))) rfl (OpQ.y (OpY.pure rfl)) ?_
            rcases Bool.eq_false_or_eq_true (decide ((((k : Nat) : Int)) > 0)) with h33 | h33
            · have hk0 : 0 < k := by simp at h33; omega
              refine Lex.q (v := .bool true) rfl (OpQ.y (OpY.moveB rfl h33)) ?_
              have p33 := h33; try simp only [bs] at p33
              refine Lex.q (v := .slice (some ⟨b, o, none⟩) n c) rfl (OpQ.y (OpY.pure rfl)) ?_
              refine Lex.q (v := .int .i64 (((k : Nat) : Int))) rfl (OpQ.y (OpY.pure rfl)) ?_
              refine Lex.q (v := .int .i64 ((((k : Nat) : Int)) - 1)) rfl (OpQ.y (OpY.sub rfl rfl rfl (by omega) (by omega))) ?_
              refine Lex.q (v := .pointer (some ⟨b, o + (k - 1) * 2, none⟩)) rfl (OpQ.y (OpY.index (kk := k - 1) Tsl_33 rfl rfl (by omega) (by omega) (by first | rfl | omega))) ?_
              refine Lex.q (v := .pointer (some ⟨b, o + (k - 1) * 2, none⟩)) rfl (OpQ.y (OpY.fieldAddr Tfo_77_0 rfl rfl)) ?_
              refine Lex.q (v := .int .i64 (ix xs ((k - 1) * 2))) rfl (OpQ.y (OpY.load1 Tone_3 rfl (Cells.arg (k := (k - 1) * 2) ha rfl (by omega) (pre1 (by omega))))) ?_
              refine Lex.q (v := .pointer (some ⟨b1, 0, none⟩)) rfl (OpQ.y (OpY.fieldAddr Tfo_77_0 rfl rfl)) ?_
              refine Lex.q (v := .int .i64 (ix xs (k * 2))) rfl (OpQ.y (OpY.load1 Tone_3 rfl (Cells.blk (.head _) ⟨rfl, trivial⟩))) ?_
              refine Lex.q (v := .bool (decide ((ix xs ((k - 1) * 2)) > (ix xs (k * 2))))) rfl (OpQ.y (OpY.pure rfl)) ?_
              rcases Bool.eq_false_or_eq_true (decide ((ix xs ((k - 1) * 2)) > (ix xs (k * 2)))) with h43 | h43
              · refine Lex.q (v := .bool true) rfl (OpQ.y (OpY.moveB rfl h43)) ?_
                have p43 := h43; try simp only [bs] at p43
                refine Lex.pass rfl ?_
                refine Lex.pass rfl ?_
                refine Lex.pass rfl ?_
                refine Lex.pass rfl ?_
                refine Lex.pass rfl ?_
                refine Lex.pass rfl ?_
                refine Lex.pass rfl ?_
                refine Lex.pass rfl ?_
                refine Lex.pass rfl ?_
                refine Lex.pass rfl ?_
                refine Lex.pass rfl ?_
                refine Lex.pass rfl ?_
                refine Lex.pass rfl ?_
                refine Lex.pass rfl ?_
                refine Lex.pass rfl ?_
                refine Lex.pass rfl ?_
                refine Lex.pass rfl ?_
                refine Lex.pass rfl ?_
                refine Lex.pass rfl ?_
                refine Lex.pass rfl ?_
                refine Lex.q (v := .bool true) rfl (OpQ.y (OpY.pure rfl)) ?_
                refine Lex.q (v := .bool true) rfl (OpQ.y (OpY.pure rfl)) ?_
                refine Lex.q (v := .bool true) rfl (OpQ.y (OpY.pure rfl)) ?_
                refine Lex.done ?_
                refine Run.cond (b := true) rfl (fun _ => ?_) (fun h => nomatch h)
                refine Run.seq ?_
                have hbad : edgesOk N xs n = false := by
                  simp only [edgesOk, decide_eq_false_iff_not]; intro h; have h1 := h k hlt; simp only [edgeOk] at *; omega
                refine Run.region ?_
                refine Run.q (v := .bool false) rfl (OpQ.y (OpY.pure rfl)) ?_
                refine Run.done ?_
                refine Run.ret ?_
                refine ⟨.bool false, [], Out.one rfl rfl, (Some'.weak (.nil _)), ?_⟩
                show _ = _; simp_all
              · refine Lex.q (v := .bool false) rfl (OpQ.y (OpY.moveB rfl h43)) ?_
                have p43 := h43; try simp only [bs] at p43
                refine Lex.q (v := .slice (some ⟨b, o, none⟩) n c) rfl (OpQ.y (OpY.pure rfl)) ?_
                refine Lex.q (v := .int .i64 (((k : Nat) : Int))) rfl (OpQ.y (OpY.pure rfl)) ?_
                refine Lex.q (v := .int .i64 ((((k : Nat) : Int)) - 1)) rfl (OpQ.y (OpY.sub rfl rfl rfl (by omega) (by omega))) ?_
                refine Lex.q (v := .pointer (some ⟨b, o + (k - 1) * 2, none⟩)) rfl (OpQ.y (OpY.index (kk := k - 1) Tsl_33 rfl rfl (by omega) (by omega) (by first | rfl | omega))) ?_
                refine Lex.q (v := .pointer (some ⟨b, o + (k - 1) * 2, none⟩)) rfl (OpQ.y (OpY.fieldAddr Tfo_77_0 rfl rfl)) ?_
                refine Lex.q (v := .int .i64 (ix xs ((k - 1) * 2))) rfl (OpQ.y (OpY.load1 Tone_3 rfl (Cells.arg (k := (k - 1) * 2) ha rfl (by omega) (pre1 (by omega))))) ?_
                refine Lex.q (v := .pointer (some ⟨b1, 0, none⟩)) rfl (OpQ.y (OpY.fieldAddr Tfo_77_0 rfl rfl)) ?_
                refine Lex.q (v := .int .i64 (ix xs (k * 2))) rfl (OpQ.y (OpY.load1 Tone_3 rfl (Cells.blk (.head _) ⟨rfl, trivial⟩))) ?_
                refine Lex.q (v := .bool ((ix xs ((k - 1) * 2)) == (ix xs (k * 2)))) rfl (OpQ.y (OpY.pure rfl)) ?_
                rcases Bool.eq_false_or_eq_true ((ix xs ((k - 1) * 2)) == (ix xs (k * 2))) with h53 | h53
                · refine Lex.q (v := .bool true) rfl (OpQ.y (OpY.moveB rfl h53)) ?_
                  have p53 := h53; try simp only [bs] at p53
                  refine Lex.q (v := .slice (some ⟨b, o, none⟩) n c) rfl (OpQ.y (OpY.pure rfl)) ?_
                  refine Lex.q (v := .int .i64 (((k : Nat) : Int))) rfl (OpQ.y (OpY.pure rfl)) ?_
                  refine Lex.q (v := .int .i64 ((((k : Nat) : Int)) - 1)) rfl (OpQ.y (OpY.sub rfl rfl rfl (by omega) (by omega))) ?_
                  refine Lex.q (v := .pointer (some ⟨b, o + (k - 1) * 2, none⟩)) rfl (OpQ.y (OpY.index (kk := k - 1) Tsl_33 rfl rfl (by omega) (by omega) (by first | rfl | omega))) ?_
                  refine Lex.q (v := .pointer (some ⟨b, o + (k - 1) * 2 + 1, none⟩)) rfl (OpQ.y (OpY.fieldAddr Tfo_77_1 rfl rfl)) ?_
                  refine Lex.q (v := .int .i64 (ix xs ((k - 1) * 2 + 1))) rfl (OpQ.y (OpY.load1 Tone_3 rfl (Cells.arg (k := (k - 1) * 2 + 1) ha rfl (by omega) (pre1 (by omega))))) ?_
                  refine Lex.q (v := .pointer (some ⟨b1, 1, none⟩)) rfl (OpQ.y (OpY.fieldAddr Tfo_77_1 rfl rfl)) ?_
                  refine Lex.q (v := .int .i64 (ix xs (k * 2 + 1))) rfl (OpQ.y (OpY.load1 Tone_3 rfl (Cells.blk (.head _) ⟨rfl, trivial⟩))) ?_
                  refine Lex.q (v := .bool (decide ((ix xs ((k - 1) * 2 + 1)) ≥ (ix xs (k * 2 + 1))))) rfl (OpQ.y (OpY.pure rfl)) ?_
                  refine Lex.q (v := .bool (decide ((ix xs ((k - 1) * 2 + 1)) ≥ (ix xs (k * 2 + 1))))) rfl (OpQ.y (OpY.pure rfl)) ?_
                  refine Lex.q (v := .bool (decide ((ix xs ((k - 1) * 2 + 1)) ≥ (ix xs (k * 2 + 1))))) rfl (OpQ.y (OpY.pure rfl)) ?_
                  refine Lex.q (v := .bool (decide ((ix xs ((k - 1) * 2 + 1)) ≥ (ix xs (k * 2 + 1))))) rfl (OpQ.y (OpY.pure rfl)) ?_
                  refine Lex.q (v := .bool (decide ((ix xs ((k - 1) * 2 + 1)) ≥ (ix xs (k * 2 + 1))))) rfl (OpQ.y (OpY.pure rfl)) ?_
                  refine Lex.done ?_
                  refine Run.cond (b := decide ((ix xs ((k - 1) * 2 + 1)) ≥ (ix xs (k * 2 + 1)))) rfl (fun h66 => ?_) (fun h66 => ?_)
                  · have p66 := h66; try simp only [bs] at p66
                    refine Run.seq ?_
                    have hbad : edgesOk N xs n = false := by
                      simp only [edgesOk, decide_eq_false_iff_not]; intro h; have h1 := h k hlt; simp only [edgeOk] at *; omega
                    refine Run.region ?_
                    refine Run.q (v := .bool false) rfl (OpQ.y (OpY.pure rfl)) ?_
                    refine Run.done ?_
                    refine Run.ret ?_
                    refine ⟨.bool false, [], Out.one rfl rfl, (Some'.weak (.nil _)), ?_⟩
                    show _ = _; simp_all
                  · have p66 := h66; try simp only [bs] at p66
                    refine Run.skip ?_
                    refine Run.blockEnd ?_
                    have hgood : edgeOk N xs k := by
                      simp only [edgeOk] at *; omega
                    refine Run.region ?_
                    refine Run.q (v := .int .i64 ((((k : Nat) : Int)) + 1)) rfl (OpQ.y (OpY.add rfl rfl rfl (by omega) (by omega))) ?_
                    refine Run.q (v := .int .i64 ((((k : Nat) : Int)) + 1)) rfl (OpQ.y (OpY.pure rfl)) ?_
                    refine Run.done ?_
                    refine Run.goal ⟨(by repeat (first | exact Same.refl _ _ | refine Same.put rfl ?_ | refine Same.over rfl rfl ?_)), k + 1, ?_, ?_, ?_, ?_⟩
                    · refine ⟨by omega, fun i hi => ?_⟩
                      rcases Nat.lt_succ_iff_lt_or_eq.1 hi with h | h
                      · exact hinv.2 i h
                      · rw [h]; exact hgood
                    · omega
                    · exact ⟨(by first | rfl | (congr 1; omega) | simp), trivial⟩
                    · exact (Some'.weak (.nil _))
                · refine Lex.q (v := .bool false) rfl (OpQ.y (OpY.moveB rfl h53)) ?_
                  have p53 := h53; try simp only [bs] at p53
                  refine Lex.pass rfl ?_
                  refine Lex.pass rfl ?_
                  refine Lex.pass rfl ?_
                  refine Lex.pass rfl ?_
                  refine Lex.pass rfl ?_
                  refine Lex.pass rfl ?_
                  refine Lex.pass rfl ?_
                  refine Lex.pass rfl ?_
                  refine Lex.pass rfl ?_
                  refine Lex.q (v := .bool false) rfl (OpQ.y (OpY.pure rfl)) ?_
                  refine Lex.q (v := .bool false) rfl (OpQ.y (OpY.pure rfl)) ?_
                  refine Lex.q (v := .bool false) rfl (OpQ.y (OpY.pure rfl)) ?_
                  refine Lex.q (v := .bool false) rfl (OpQ.y (OpY.pure rfl)) ?_
                  refine Lex.done ?_
                  refine Run.cond (b := false) rfl (fun h => nomatch h) (fun _ => ?_)
                  refine Run.skip ?_
                  refine Run.blockEnd ?_
                  have hgood : edgeOk N xs k := by
                    simp only [edgeOk] at *; omega
                  refine Run.region ?_
                  refine Run.q (v := .int .i64 ((((k : Nat) : Int)) + 1)) rfl (OpQ.y (OpY.add rfl rfl rfl (by omega) (by omega))) ?_
                  refine Run.q (v := .int .i64 ((((k : Nat) : Int)) + 1)) rfl (OpQ.y (OpY.pure rfl)) ?_
                  refine Run.done ?_
                  refine Run.goal ⟨(by repeat (first | exact Same.refl _ _ | refine Same.put rfl ?_ | refine Same.over rfl rfl ?_)), k + 1, ?_, ?_, ?_, ?_⟩
                  · refine ⟨by omega, fun i hi => ?_⟩
                    rcases Nat.lt_succ_iff_lt_or_eq.1 hi with h | h
                    · exact hinv.2 i h
                    · rw [h]; exact hgood
                  · omega
                  · exact ⟨(by first | rfl | (congr 1; omega) | simp), trivial⟩
                  · exact (Some'.weak (.nil _))
            · refine Lex.q (v := .bool false) rfl (OpQ.y (OpY.moveB rfl h33)) ?_
              have p33 := h33; try simp only [bs] at p33
              refine Lex.pass rfl ?_
              refine Lex.pass rfl ?_
              refine Lex.pass rfl ?_
              refine Lex.pass rfl ?_
              refine Lex.pass rfl ?_
              refine Lex.pass rfl ?_
              refine Lex.pass rfl ?_
              refine Lex.pass rfl ?_
              refine Lex.pass rfl ?_
              refine Lex.pass rfl ?_
              refine Lex.pass rfl ?_
              refine Lex.pass rfl ?_
              refine Lex.pass rfl ?_
              refine Lex.pass rfl ?_
              refine Lex.pass rfl ?_
              refine Lex.pass rfl ?_
              refine Lex.pass rfl ?_
              refine Lex.pass rfl ?_
              refine Lex.pass rfl ?_
              refine Lex.pass rfl ?_
              refine Lex.pass rfl ?_
              refine Lex.pass rfl ?_
              refine Lex.pass rfl ?_
              refine Lex.pass rfl ?_
              refine Lex.pass rfl ?_
              refine Lex.pass rfl ?_
              refine Lex.pass rfl ?_
              refine Lex.pass rfl ?_
              refine Lex.pass rfl ?_
              refine Lex.pass rfl ?_
              refine Lex.pass rfl ?_
              refine Lex.q (v := .bool false) rfl (OpQ.y (OpY.pure rfl)) ?_
              refine Lex.q (v := .bool false) rfl (OpQ.y (OpY.pure rfl)) ?_
              refine Lex.done ?_
              refine Run.cond (b := false) rfl (fun h => nomatch h) (fun _ => ?_)
              refine Run.skip ?_
              refine Run.blockEnd ?_
              have hgood : edgeOk N xs k := by
                simp only [edgeOk] at *; omega
              refine Run.region ?_
              refine Run.q (v := .int .i64 ((((k : Nat) : Int)) + 1)) rfl (OpQ.y (OpY.add rfl rfl rfl (by omega) (by omega))) ?_
              refine Run.q (v := .int .i64 ((((k : Nat) : Int)) + 1)) rfl (OpQ.y (OpY.pure rfl)) ?_
              refine Run.done ?_
              refine Run.goal ⟨(by repeat (first | exact Same.refl _ _ | refine Same.put rfl ?_ | refine Same.over rfl rfl ?_)), k + 1, ?_, ?_, ?_, ?_⟩
              · refine ⟨by omega, fun i hi => ?_⟩
                rcases Nat.lt_succ_iff_lt_or_eq.1 hi with h | h
                · exact hinv.2 i h
                · rw [h]; exact hgood
              · omega
              · exact ⟨(by first | rfl | (congr 1; omega) | simp), trivial⟩
              · exact (Some'.weak (.nil _))
    · have p10 := h10; try simp only [bs] at p10
      have hkn : k = n := by simp at h10; omega
      have hall : edgesOk N xs n = true := by simp only [edgesOk, decide_eq_true_eq]; rw [← hkn]; exact hinv.2
      refine Run.exit rfl ?_
      refine Run.seq ?_
      refine Run.region ?_
      refine Run.q (v := .bool true) rfl (OpQ.y (OpY.pure rfl)) ?_
      refine Run.done ?_
      refine Run.ret ?_
      refine ⟨.bool true, [], Out.one rfl rfl, (Some'.weak (.nil _)), ?_⟩
      show _ = _; simp_all

set_option maxHeartbeats 1000000 in
set_option maxRecDepth 20000 in
theorem IsValidCouplingGraph_spec {N : Int} {va : Value} {n : Nat} {xs : List Int} {w : World} (ha : Sl w va 2 n (ints xs)) : Calls Try.prog 86 #[.agg #[.int .i64 N, va]] w (Post No w fun v _ => v = .bool (cgOk N xs n)) := by
  refine enter (n := 13) (args := [.agg #[.int .i64 N, va]]) Try.func86 rfl rfl (St.empty _ _) ?_
  refine Run.seq ?_
  refine Run.region ?_
  refine Run.step rfl (OpStep.box (us := [.int .i64 N, va]) rfl fun b1 => ?_)
  refine Run.q (v := .bool false) rfl (OpQ.y (OpY.pure rfl)) ?_
  refine Run.done ?_
  refine Run.seq ?_
  refine Run.region ?_
  refine Run.q (v := .pointer (some ⟨b1, 0, none⟩)) rfl (OpQ.y (OpY.fieldAddr Tfo_35_0 rfl rfl)) ?_
  refine Run.q (v := .int .i64 N) rfl (OpQ.y (OpY.load1 Tone_3 rfl (Cells.blk (.head _) ⟨rfl, trivial⟩))) ?_
  refine Run.q (v := .bool (within N 1 8)) rfl (OpQ.call (vs := [.int .i64 N, .int .i64 1, .int .i64 8]) (caps := []) Tcall_73 rfl rfl (fun w hs => within_spec _ _ _ w)) ?_
  rcases Bool.eq_false_or_eq_true (within N 1 8) with h6 | h6
  · refine Run.q (v := .bool true) rfl (OpQ.y (OpY.moveB rfl h6)) ?_
    have p6 := h6; try simp only [bs] at p6
    refine Run.q (v := .pointer (some ⟨b1, 0, none⟩)) rfl (OpQ.y (OpY.fieldAddr Tfo_35_0 rfl rfl)) ?_
    refine Run.q (v := .int .i64 N) rfl (OpQ.y (OpY.load1 Tone_3 rfl (Cells.blk (.head _) ⟨rfl, trivial⟩))) ?_
    refine Run.q (v := .pointer (some ⟨b1, 1, none⟩)) rfl (OpQ.y (OpY.fieldAddr Tfo_35_1 rfl rfl)) ?_
    refine Run.q (v := va) rfl (OpQ.y (OpY.load1 Tone_33 rfl (Cells.blk (.head _) ⟨rfl, trivial⟩))) ?_
    refine Run.q (v := .bool (edgesOk N xs n)) rfl (OpQ.call (vs := [.int .i64 N, va]) (caps := []) Tcall_94 rfl rfl (fun w hs => areEdges_spec (hs.sl ha))) ?_
    refine Run.q (v := .bool (edgesOk N xs n)) rfl (OpQ.y (OpY.pure rfl)) ?_
    refine Run.q (v := .bool (edgesOk N xs n)) rfl (OpQ.y (OpY.pure rfl)) ?_
    refine Run.done ?_
    refine Run.ret ?_
    refine ⟨.bool (edgesOk N xs n), [], Out.one rfl rfl, (Some'.weak (.nil _)), ?_⟩
    show _ = _; simp_all [cgOk]
  · refine Run.q (v := .bool false) rfl (OpQ.y (OpY.moveB rfl h6)) ?_
    have p6 := h6; try simp only [bs] at p6
    refine Run.pass rfl ?_
    refine Run.pass rfl ?_
    refine Run.pass rfl ?_
    refine Run.pass rfl ?_
    refine Run.pass rfl ?_
    refine Run.q (v := .bool false) rfl (OpQ.y (OpY.pure rfl)) ?_
    refine Run.q (v := .bool false) rfl (OpQ.y (OpY.pure rfl)) ?_
    refine Run.done ?_
    refine Run.ret ?_
    refine ⟨.bool false, [], Out.one rfl rfl, (Some'.weak (.nil _)), ?_⟩
    show _ = _; simp_all [cgOk]

set_option maxHeartbeats 1000000 in
set_option maxRecDepth 20000 in
theorem l22Valid_spec {N : Int} {va : Value} {n : Nat} {xs : List Int} {w : World} (hN : In64 N) (ha : Sl w va 2 n (ints xs)) (hw : ∀ x ∈ xs, In64 x) : Calls Try.prog 80 #[.agg #[.int .i64 N, va]] w (Post No w fun v _ => v = .bool (cgOk N xs n)) := by
  have hxl := ha.len
  have hn := ha.le
  obtain ⟨A, c, rfl, _, _⟩ := ha.form0
  have hdN := dec_cases N
  refine enter (n := 71) (args := [.agg #[.int .i64 N, .slice A n c]]) Try.func80 rfl rfl (St.empty _ _) ?_
  refine Run.seq ?_
  refine Run.region ?_
  refine Run.step rfl (OpStep.box (us := [.int .i64 N, .slice A n c]) rfl fun b1 => ?_)
  refine Run.q (v := .bool false) rfl (OpQ.y (OpY.pure rfl)) ?_
  refine Run.done ?_
  refine Run.seq ?_
  refine Run.seq ?_
  refine Run.region ?_
  refine Run.q (v := .pointer (some ⟨b1, 1, none⟩)) rfl (OpQ.y (OpY.fieldAddr Tfo_35_1 rfl rfl)) ?_
  refine Run.q (v := .slice A n c) rfl (OpQ.y (OpY.load1 Tone_33 rfl (Cells.blk (.head _) ⟨rfl, trivial⟩))) ?_
  refine Run.q (v := .int .i64 (((n : Nat) : Int))) rfl (OpQ.y (OpY.len Tsl_33 rfl)) ?_
  refine Run.q (v := .int .i64 0) rfl (OpQ.y (OpY.pure rfl)) ?_
  refine Run.done ?_
  refine Run.block ?_
  refine Run.loop (ι := Nat) ([2, 3, 4, 8, 9, 10, 11, 12, 13, 14, 15, 16, 17, 18, 19, 20, 21, 22, 23, 24, 25, 26, 27, 28, 29, 30, 31, 32, 33, 34, 35, 36, 37, 38, 39, 40, 41, 42, 43, 44, 45, 46, 47, 48, 49, 50, 51, 52, 53, 54] ++ [55, 56, 57, 58, 59, 60, 61, 62, 63, 64, 65, 66, 67]) (fun k => [(8, .int .i64 (((k : Nat) : Int)))]) (fun k => [.blk b1 35 [.int .i64 N, .slice A n c]]) (fun k => k ≤ n ∧ ∀ i, i < k → edgeOk (dec N + 1) xs i) (fun k => n - k) 0 ?_ ?_ ?_ ?_
  · exact ⟨Nat.zero_le _, fun i hi => by omega⟩
  · exact ⟨rfl, trivial⟩
  · exact (Some'.weak (.take (.nil _)))
  · rintro k fr hinv
    show Run _ _ (over _ _ [(8, .int .i64 (((k : Nat) : Int)))] fr) [.blk b1 35 [.int .i64 N, .slice A n c]]
    try dsimp only at hinv
    refine Run.seq ?_
    refine Run.region ?_
    refine Run.q (v := .bool (decide ((((k : Nat) : Int)) < (((n : Nat) : Int))))) rfl (OpQ.y (OpY.pure rfl)) ?_
    refine Run.done ?_
    refine Run.seq ?_
    refine Run.cond (b := decide ((((k : Nat) : Int)) < (((n : Nat) : Int)))) rfl (fun h9 => ?_) (fun h9 => ?_)
    · have p9 := h9; try simp only [bs] at p9
      have hlt : k < n := by simp at h9; omega
      obtain ⟨b, o, rfl⟩ := ha.opn (by omega)
      have hb1 := hw _ (ix_mem (show k * 2 + 1 < xs.length by omega))
      have hdB := dec_cases (ix xs (k * 2 + 1))
      refine Run.skip ?_
      refine Run.seq ?_
      refine Run.block ?_
      refine Run.seq ?_
      refine Run.region ?_
      refine Run.q (v := .int .i64 (((k : Nat) : Int))) rfl (OpQ.y (OpY.pure rfl)) ?_
      refine Run.q (v := .pointer (some ⟨b, o + k * 2, none⟩)) rfl (OpQ.y (OpY.index (kk := k) Tsl_33 rfl rfl (by omega) (by omega) (by first | rfl | omega))) ?_
      refine Run.q (v := .agg #[.int .i64 (ix xs (k * 2)), .int .i64 (ix xs (k * 2 + 1))]) rfl (OpQ.y (OpY.loadN (cs := [.int .i64 (ix xs (k * 2)), .int .i64 (ix xs (k * 2 + 1))]) Tagg_77 rfl (Cells.arg (k := k * 2) ha rfl (by omega) (pre2 (by omega))))) ?_
      refine Run.step rfl (OpStep.alloc (zs := [.int .i64 0, .int .i64 0]) Tzero_77 fun b2 => ?_)
      refine Run.q (v := .int .i64 (((k : Nat) : Int))) rfl (OpQ.y (OpY.pure rfl)) ?_
      refine Run.step rfl (OpStep.storeAll (us := [.int .i64 (ix xs (k * 2)), .int .i64 (ix xs (k * 2 + 1))]) Tsize_77 rfl rfl rfl (.here _) rfl ?_)
      refine Run.done ?_
      refine Run.seq ?_
      refine Run.seq ?_
      refine Run.region ?_
      refine Run.q (v := .pointer (some ⟨b2, 0, none⟩)) rfl (OpQ.y (OpY.fieldAddr Tfo_77_0 rfl rfl)) ?_
      refine Run.q (v := .int .i64 (ix xs (k * 2))) rfl (OpQ.y (OpY.load1 Tone_3 rfl (Cells.blk (.head _) ⟨rfl, trivial⟩))) ?_
      refine Run.q (v := .pointer (some ⟨b2, 1, none⟩)) rfl (OpQ.y (OpY.fieldAddr Tfo_77_1 rfl rfl)) ?_
      refine Run.q (v := .int .i64 (ix xs (k * 2 + 1))) rfl (OpQ.y (OpY.load1 Tone_3 rfl (Cells.blk (.head _) ⟨rfl, trivial⟩))) ?_
      refine Run.q (v := .int .i64 (dec (ix xs (k * 2 + 1)))) rfl (OpQ.y (OpY.subW rfl rfl (wrap_dec hb1))) ?_
      refine Run.q (v := .bool (within (ix xs (k * 2)) 0 (dec (ix xs (k * 2 + 1))))) rfl (OpQ.call (vs := [.int .i64 (ix xs (k * 2)), .int .i64 0, .int .i64 (dec (ix xs (k * 2 + 1)))]) (caps := []) Tcall_61 rfl rfl (fun w hs => l1In_spec _ _ _ w)) ?_
      refine Run.q (v := .bool (!(within (ix xs (k * 2)) 0 (dec (ix xs (k * 2 + 1)))))) rfl (OpQ.y (OpY.pure rfl)) ?_
      rcases Bool.eq_false_or_eq_true (!(within (ix xs (k * 2)) 0 (dec (ix xs (k * 2 + 1))))) with h20 | h20
      · refine Run.q (v := .bool true) rfl (OpQ.y (OpY.moveB rfl h20)) ?_
        have p20 := h20; try simp only [bs] at p20
        refine Run.pass rfl ?_
        refine Run.pass rfl ?_
        refine Run.pass rfl ?_
        refine Run.pass rfl ?_
        refine Run.pass rfl ?_
        refine Run.pass rfl ?_
        refine Run.pass rfl ?_
        refine Run.q (v := .bool true) rfl (OpQ.y (OpY.pure rfl)) ?_
        refine Run.done ?_
        refine Run.cond (b := true) rfl (fun _ => ?_) (fun h => nomatch h)
        refine Run.seq ?_
        have hbad : edgesOk (dec N + 1) xs n = false := by
          simp only [edgesOk, decide_eq_false_iff_not]; intro h; have h1 := h k hlt; simp only [edgeOk, within, Bool.and_eq_false_iff, Bool.and_eq_true, decide_eq_true_eq, decide_eq_false_iff_not, Bool.not_eq_true', Bool.not_eq_false'] at *; omega
        refine Run.region ?_
        refine Run.q (v := .bool false) rfl (OpQ.y (OpY.pure rfl)) ?_
        refine Run.done ?_
        refine Run.ret ?_
        refine ⟨.bool false, [], Out.one rfl rfl, (Some'.weak (.nil _)), ?_⟩
        show _ = _
        rcases Bool.eq_false_or_eq_true (within N 1 8) with hw8 | hw8
        · have hdd : dec N + 1 = N := by simp only [within_iff] at hw8; omega
          first | rw [hdd] at hbad | rw [hdd] at hall
          simp_all [cgOk]
        · simp_all [cgOk]
      · refine Run.q (v := .bool false) rfl (OpQ.y (OpY.moveB rfl h20)) ?_
        have p20 := h20; try simp only [bs] at p20
        refine Run.q (v := .pointer (some ⟨b2, 1, none⟩)) rfl (OpQ.y (OpY.fieldAddr Tfo_77_1 rfl rfl)) ?_
        refine Run.q (v := .int .i64 (ix xs (k * 2 + 1))) rfl (OpQ.y (OpY.load1 Tone_3 rfl (Cells.blk (.head _) ⟨rfl, trivial⟩))) ?_
        refine Run.q (v := .pointer (some ⟨b1, 0, none⟩)) rfl (OpQ.y (OpY.fieldAddr Tfo_35_0 rfl rfl)) ?_
        refine Run.q (v := .int .i64 N) rfl (OpQ.y (OpY.load1 Tone_3 rfl (Cells.blk (.tail _ (List.Mem.head _)) ⟨rfl, trivial⟩))) ?_
        refine Run.q (v := .int .i64 (dec N)) rfl (OpQ.y (OpY.subW rfl rfl (wrap_dec hN))) ?_
        refine Run.q (v := .bool (within (ix xs (k * 2 + 1)) 0 (dec N))) rfl (OpQ.call (vs := [.int .i64 (ix xs (k * 2 + 1)), .int .i64 0, .int .i64 (dec N)]) (caps := []) Tcall_61 rfl rfl (fun w hs => l1In_spec _ _ _ w)) ?_
        refine Run.q (v := .bool (!(within (ix xs (k * 2 + 1)) 0 (dec N)))) rfl (OpQ.y (OpY.pure rfl)) ?_
        refine Run.q (v := .bool (!(within (ix xs (k * 2 + 1)) 0 (dec N)))) rfl (OpQ.y (OpY.pure rfl)) ?_
        refine Run.done ?_
        refine Run.cond (b := !(within (ix xs (k * 2 + 1)) 0 (dec N))) rfl (fun h28 => ?_) (fun h28 => ?_)
        · have p28 := h28; try simp only [bs] at p28
          refine Run.seq ?_
          have hbad : edgesOk (dec N + 1) xs n = false := by
            simp only [edgesOk, decide_eq_false_iff_not]; intro h; have h1 := h k hlt; simp only [edgeOk, within, Bool.and_eq_false_iff, Bool.and_eq_true, decide_eq_true_eq, decide_eq_false_iff_not, Bool.not_eq_true', Bool.not_eq_false'] at *; omega
          refine Run.region ?_
          refine Run.q (v := .bool false) rfl (OpQ.y (OpY.pure rfl)) ?_
          refine Run.done ?_
          refine Run.ret ?_
          refine ⟨.bool false, [], Out.one rfl rfl, (Some'.weak (.nil _)), ?_⟩
          show _ = _
          rcases Bool.eq_false_or_eq_true (within N 1 8) with hw8 | hw8
          · have hdd : dec N + 1 = N := by simp only [within_iff] at hw8; omega
            first | rw [hdd] at hbad | rw [hdd] at hall
            simp_all [cgOk]
          · simp_all [cgOk]
        · have p28 := h28; try simp only [bs] at p28
          refine Run.skip ?_
          refine Run.seq ?_
          refine Run.draws (by kernel_rfl) (by kernel_rfl) ?_
          refine Lex.q (v := .int .i64 (((k : Nat) : Int))) rfl (OpQ.y (OpY.pure rfl)) ?_
          refine Lex.q (v := .bool (decide ((((k : Nat) : Int)) > 0))) rfl (OpQ.y (OpY.pure rfl)) ?_
          rcases Bool.eq_false_or_eq_true (decide ((((k : Nat) : Int)) > 0)) with h31 | h31
          · have hk0 : 0 < k := by simp at h31; omega
            refine Lex.q (v := .bool true) rfl (OpQ.y (OpY.moveB rfl h31)) ?_
            have p31 := h31; try simp only [bs] at p31
            refine Lex.q (v := .pointer (some ⟨b1, 1, none⟩)) rfl (OpQ.y (OpY.fieldAddr Tfo_35_1 rfl rfl)) ?_
            refine Lex.q (v := .slice (some ⟨b, o, none⟩) n c) rfl (OpQ.y (OpY.load1 Tone_33 rfl (Cells.blk (.tail _ (List.Mem.head _)) ⟨rfl, trivial⟩))) ?_
            refine Lex.q (v := .int .i64 (((k : Nat) : Int))) rfl (OpQ.y (OpY.pure rfl)) ?_
            refine Lex.q (v := .int .i64 ((((k : Nat) : Int)) - 1)) rfl (OpQ.y (OpY.sub rfl rfl rfl (by omega) (by omega))) ?_
            refine Lex.q (v := .pointer (some ⟨b, o + (k - 1) * 2, none⟩)) rfl (OpQ.y (OpY.index (kk := k - 1) Tsl_33 rfl rfl (by omega) (by omega) (by first | rfl | omega))) ?_
            refine Lex.q (v := .pointer (some ⟨b, o + (k - 1) * 2, none⟩)) rfl (OpQ.y (OpY.fieldAddr Tfo_77_0 rfl rfl)) ?_
            refine Lex.q (v := .int .i64 (ix xs ((k - 1) * 2))) rfl (OpQ.y (OpY.load1 Tone_3 rfl (Cells.arg (k := (k - 1) * 2) ha rfl (by omega) (pre1 (by omega))))) ?_
            refine Lex.q (v := .pointer (some ⟨b2, 0, none⟩)) rfl (OpQ.y (OpY.fieldAddr Tfo_77_0 rfl rfl)) ?_
            refine Lex.q (v := .int .i64 (ix xs (k * 2))) rfl (OpQ.y (OpY.load1 Tone_3 rfl (Cells.blk (.head _) ⟨rfl, trivial⟩))) ?_
            refine Lex.q (v := .bool (decide ((ix xs ((k - 1) * 2)) > (ix xs (k * 2))))) rfl (OpQ.y (OpY.pure rfl)) ?_
            rcases Bool.eq_false_or_eq_true (decide ((ix xs ((k - 1) * 2)) > (ix xs (k * 2)))) with h42 | h42
            · refine Lex.q (v := .bool true) rfl (OpQ.y (OpY.moveB rfl h42)) ?_
              have p42 := h42; try simp only [bs] at p42
              refine Lex.pass rfl ?_
              refine Lex.pass rfl ?_
              refine Lex.pass rfl ?_
              refine Lex.pass rfl ?_
              refine Lex.pass rfl ?_
              refine Lex.pass rfl ?_
              refine Lex.pass rfl ?_
              refine Lex.pass rfl ?_
              refine Lex.pass rfl ?_
              refine Lex.pass rfl ?_
              refine Lex.pass rfl ?_
              refine Lex.pass rfl ?_
              refine Lex.pass rfl ?_
              refine Lex.pass rfl ?_
              refine Lex.pass rfl ?_
              refine Lex.pass rfl ?_
              refine Lex.pass rfl ?_
              refine Lex.pass rfl ?_
              refine Lex.pass rfl ?_
              refine Lex.pass rfl ?_
              refine Lex.pass rfl ?_
              refine Lex.pass rfl ?_
              refine Lex.q (v := .bool true) rfl (OpQ.y (OpY.pure rfl)) ?_
              refine Lex.q (v := .bool true) rfl (OpQ.y (OpY.pure rfl)) ?_
              refine Lex.done ?_
              refine Run.cond (b := true) rfl (fun _ => ?_) (fun h => nomatch h)
              refine Run.seq ?_
              have hbad : edgesOk (dec N + 1) xs n = false := by
                simp only [edgesOk, decide_eq_false_iff_not]; intro h; have h1 := h k hlt; simp only [edgeOk] at *; omega
              refine Run.region ?_
              refine Run.q (v := .bool false) rfl (OpQ.y (OpY.pure rfl)) ?_
              refine Run.done ?_
              refine Run.ret ?_
              refine ⟨.bool false, [], Out.one rfl rfl, (Some'.weak (.nil _)), ?_⟩
              show _ = _
              rcases Bool.eq_false_or_eq_true (within N 1 8) with hw8 | hw8
              · have hdd : dec N + 1 = N := by simp only [within_iff] at hw8; omega
                first | rw [hdd] at hbad | rw [hdd] at hall
                simp_all [cgOk]
              · simp_all [cgOk]
            · refine Lex.q (v := .bool false) rfl (OpQ.y (OpY.moveB rfl h42)) ?_
              have p42 := h42; try simp only [bs] at p42
              refine Lex.q (v := .pointer (some ⟨b1, 1, none⟩)) rfl (OpQ.y (OpY.fieldAddr Tfo_35_1 rfl rfl)) ?_
              refine Lex.q (v := .slice (some ⟨b, o, none⟩) n c) rfl (OpQ.y (OpY.load1 Tone_33 rfl (Cells.blk (.tail _ (List.Mem.head _)) ⟨rfl, trivial⟩))) ?_
              refine Lex.q (v := .int .i64 (((k : Nat) : Int))) rfl (OpQ.y (OpY.pure rfl)) ?_
              refine Lex.q (v := .int .i64 ((((k : Nat) : Int)) - 1)) rfl (OpQ.y (OpY.sub rfl rfl rfl (by omega) (by omega))) ?_
              refine Lex.q (v := .pointer (some ⟨b, o + (k - 1) * 2, none⟩)) rfl (OpQ.y (OpY.index (kk := k - 1) Tsl_33 rfl rfl (by omega) (by omega) (by first | rfl | omega))) ?_
              refine Lex.q (v := .pointer (some ⟨b, o + (k - 1) * 2, none⟩)) rfl (OpQ.y (OpY.fieldAddr Tfo_77_0 rfl rfl)) ?_
              refine Lex.q (v := .int .i64 (ix xs ((k - 1) * 2))) rfl (OpQ.y (OpY.load1 Tone_3 rfl (Cells.arg (k := (k - 1) * 2) ha rfl (by omega) (pre1 (by omega))))) ?_
              refine Lex.q (v := .pointer (some ⟨b2, 0, none⟩)) rfl (OpQ.y (OpY.fieldAddr Tfo_77_0 rfl rfl)) ?_
              refine Lex.q (v := .int .i64 (ix xs (k * 2))) rfl (OpQ.y (OpY.load1 Tone_3 rfl (Cells.blk (.head _) ⟨rfl, trivial⟩))) ?_
              refine Lex.q (v := .bool ((ix xs ((k - 1) * 2)) == (ix xs (k * 2)))) rfl (OpQ.y (OpY.pure rfl)) ?_
              rcases Bool.eq_false_or_eq_true ((ix xs ((k - 1) * 2)) == (ix xs (k * 2))) with h53 | h53
              · refine Lex.q (v := .bool true) rfl (OpQ.y (OpY.moveB rfl h53)) ?_
                have p53 := h53; try simp only [bs] at p53
                refine Lex.q (v := .pointer (some ⟨b1, 1, none⟩)) rfl (OpQ.y (OpY.fieldAddr Tfo_35_1 rfl rfl)) ?_
                refine Lex.q (v := .slice (some ⟨b, o, none⟩) n c) rfl (OpQ.y (OpY.load1 Tone_33 rfl (Cells.blk (.tail _ (List.Mem.head _)) ⟨rfl, trivial⟩))) ?_
                refine Lex.q (v := .int .i64 (((k : Nat) : Int))) rfl (OpQ.y (OpY.pure rfl)) ?_
                refine Lex.q (v := .int .i64 ((((k : Nat) : Int)) - 1)) rfl (OpQ.y (OpY.sub rfl rfl rfl (by omega) (by omega))) ?_
                refine Lex.q (v := .pointer (some ⟨b, o + (k - 1) * 2, none⟩)) rfl (OpQ.y (OpY.index (kk := k - 1) Tsl_33 rfl rfl (by omega) (by omega) (by first | rfl | omega))) ?_
                refine Lex.q (v := .pointer (some ⟨b, o + (k - 1) * 2 + 1, none⟩)) rfl (OpQ.y (OpY.fieldAddr Tfo_77_1 rfl rfl)) ?_
                refine Lex.q (v := .int .i64 (ix xs ((k - 1) * 2 + 1))) rfl (OpQ.y (OpY.load1 Tone_3 rfl (Cells.arg (k := (k - 1) * 2 + 1) ha rfl (by omega) (pre1 (by omega))))) ?_
                refine Lex.q (v := .pointer (some ⟨b2, 1, none⟩)) rfl (OpQ.y (OpY.fieldAddr Tfo_77_1 rfl rfl)) ?_
                refine Lex.q (v := .int .i64 (ix xs (k * 2 + 1))) rfl (OpQ.y (OpY.load1 Tone_3 rfl (Cells.blk (.head _) ⟨rfl, trivial⟩))) ?_
                refine Lex.q (v := .bool (decide ((ix xs ((k - 1) * 2 + 1)) ≥ (ix xs (k * 2 + 1))))) rfl (OpQ.y (OpY.pure rfl)) ?_
                refine Lex.q (v := .bool (decide ((ix xs ((k - 1) * 2 + 1)) ≥ (ix xs (k * 2 + 1))))) rfl (OpQ.y (OpY.pure rfl)) ?_
                refine Lex.q (v := .bool (decide ((ix xs ((k - 1) * 2 + 1)) ≥ (ix xs (k * 2 + 1))))) rfl (OpQ.y (OpY.pure rfl)) ?_
                refine Lex.q (v := .bool (decide ((ix xs ((k - 1) * 2 + 1)) ≥ (ix xs (k * 2 + 1))))) rfl (OpQ.y (OpY.pure rfl)) ?_
                refine Lex.done ?_
                refine Run.cond (b := decide ((ix xs ((k - 1) * 2 + 1)) ≥ (ix xs (k * 2 + 1)))) rfl (fun h66 => ?_) (fun h66 => ?_)
                · have p66 := h66; try simp only [bs] at p66
                  refine Run.seq ?_
                  have hbad : edgesOk (dec N + 1) xs n = false := by
                    simp only [edgesOk, decide_eq_false_iff_not]; intro h; have h1 := h k hlt; simp only [edgeOk] at *; omega
                  refine Run.region ?_
                  refine Run.q (v := .bool false) rfl (OpQ.y (OpY.pure rfl)) ?_
                  refine Run.done ?_
                  refine Run.ret ?_
                  refine ⟨.bool false, [], Out.one rfl rfl, (Some'.weak (.nil _)), ?_⟩
                  show _ = _
                  rcases Bool.eq_false_or_eq_true (within N 1 8) with hw8 | hw8
                  · have hdd : dec N + 1 = N := by simp only [within_iff] at hw8; omega
                    first | rw [hdd] at hbad | rw [hdd] at hall
                    simp_all [cgOk]
                  · simp_all [cgOk]
                · have p66 := h66; try simp only [bs] at p66
                  refine Run.skip ?_
                  refine Run.blockEnd ?_
                  have hgood : edgeOk (dec N + 1) xs k := by
                    simp only [edgeOk, within, Bool.and_eq_false_iff, Bool.and_eq_true, decide_eq_true_eq, decide_eq_false_iff_not, Bool.not_eq_true', Bool.not_eq_false'] at *; omega
                  refine Run.region ?_
                  refine Run.q (v := .int .i64 ((((k : Nat) : Int)) + 1)) rfl (OpQ.y (OpY.add rfl rfl rfl (by omega) (by omega))) ?_
                  refine Run.q (v := .int .i64 ((((k : Nat) : Int)) + 1)) rfl (OpQ.y (OpY.pure rfl)) ?_
                  refine Run.done ?_
                  refine Run.goal ⟨(by repeat (first | exact Same.refl _ _ | refine Same.put rfl ?_ | refine Same.over rfl rfl ?_)), k + 1, ?_, ?_, ?_, ?_⟩
                  · refine ⟨by omega, fun i hi => ?_⟩
                    rcases Nat.lt_succ_iff_lt_or_eq.1 hi with h | h
                    · exact hinv.2 i h
                    · rw [h]; exact hgood
                  · omega
                  · exact ⟨(by first | rfl | (congr 1; omega) | simp), trivial⟩
                  · exact (Some'.weak (.skip (.takeEq (by first | rfl | simp) (.nil _))))
              · refine Lex.q (v := .bool false) rfl (OpQ.y (OpY.moveB rfl h53)) ?_
                have p53 := h53; try simp only [bs] at p53
                refine Lex.pass rfl ?_
                refine Lex.pass rfl ?_
                refine Lex.pass rfl ?_
                refine Lex.pass rfl ?_
                refine Lex.pass rfl ?_
                refine Lex.pass rfl ?_
                refine Lex.pass rfl ?_
                refine Lex.pass rfl ?_
                refine Lex.pass rfl ?_
                refine Lex.pass rfl ?_
                refine Lex.q (v := .bool false) rfl (OpQ.y (OpY.pure rfl)) ?_
                refine Lex.q (v := .bool false) rfl (OpQ.y (OpY.pure rfl)) ?_
                refine Lex.q (v := .bool false) rfl (OpQ.y (OpY.pure rfl)) ?_
                refine Lex.done ?_
                refine Run.cond (b := false) rfl (fun h => nomatch h) (fun _ => ?_)
                refine Run.skip ?_
                refine Run.blockEnd ?_
                have hgood : edgeOk (dec N + 1) xs k := by
                  simp only [edgeOk, within, Bool.and_eq_false_iff, Bool.and_eq_true, decide_eq_true_eq, decide_eq_false_iff_not, Bool.not_eq_true', Bool.not_eq_false'] at *; omega
                refine Run.region ?_
                refine Run.q (v := .int .i64 ((((k : Nat) : Int)) + 1)) rfl (OpQ.y (OpY.add rfl rfl rfl (by omega) (by omega))) ?_
                refine Run.q (v := .int .i64 ((((k : Nat) : Int)) + 1)) rfl (OpQ.y (OpY.pure rfl)) ?_
                refine Run.done ?_
                refine Run.goal ⟨(by repeat (first | exact Same.refl _ _ | refine Same.put rfl ?_ | refine Same.over rfl rfl ?_)), k + 1, ?_, ?_, ?_, ?_⟩
                · refine ⟨by omega, fun i hi => ?_⟩
                  rcases Nat.lt_succ_iff_lt_or_eq.1 hi with h | h
                  · exact hinv.2 i h
                  · rw [h]; exact hgood
                · omega
                · exact ⟨(by first | rfl | (congr 1; omega) | simp), trivial⟩
                · exact (Some'.weak (.skip (.takeEq (by first | rfl | simp) (.nil _))))
          · refine Lex.q (v := .bool false) rfl (OpQ.y (OpY.moveB rfl h31)) ?_
            have p31 := h31; try simp only [bs] at p31
            refine Lex.pass rfl ?_
            refine Lex.pass rfl ?_
            refine Lex.pass rfl ?_
            refine Lex.pass rfl ?_
            refine Lex.pass rfl ?_
            refine Lex.pass rfl ?_
            refine Lex.pass rfl ?_
            refine Lex.pass rfl ?_
            refine Lex.pass rfl ?_
            refine Lex.pass rfl ?_
            refine Lex.pass rfl ?_
            refine Lex.pass rfl ?_
            refine Lex.pass rfl ?_
            refine Lex.pass rfl ?_
            refine Lex.pass rfl ?_
            refine Lex.pass rfl ?_
            refine Lex.pass rfl ?_
            refine Lex.pass rfl ?_
            refine Lex.pass rfl ?_
            refine Lex.pass rfl ?_
            refine Lex.pass rfl ?_
            refine Lex.pass rfl ?_
            refine Lex.pass rfl ?_
            refine Lex.pass rfl ?_
            refine Lex.pass rfl ?_
            refine Lex.pass rfl ?_
            refine Lex.pass rfl ?_
            refine Lex.pass rfl ?_
            refine Lex.pass rfl ?_
            refine Lex.pass rfl ?_
            refine Lex.pass rfl ?_
            refine Lex.pass rfl ?_
            refine Lex.pass rfl ?_
            refine Lex.pass rfl ?_
            refine Lex.q (v := .bool false) rfl (OpQ.y (OpY.pure rfl)) ?_
            refine Lex.done ?_
            refine Run.cond (b := false) rfl (fun h => nomatch h) (fun _ => ?_)
            refine Run.skip ?_
            refine Run.blockEnd ?_
            have hgood : edgeOk (dec N + 1) xs k := by
              simp only [edgeOk, within, Bool.and_eq_false_iff, Bool.and_eq_true, decide_eq_true_eq, decide_eq_false_iff_not, Bool.not_eq_true', Bool.not_eq_false'] at *; omega
            refine Run.region ?_
            refine Run.q (v := .int .i64 ((((k : Nat) : Int)) + 1)) rfl (OpQ.y (OpY.add rfl rfl rfl (by omega) (by omega))) ?_
            refine Run.q (v := .int .i64 ((((k : Nat) : Int)) + 1)) rfl (OpQ.y (OpY.pure rfl)) ?_
            refine Run.done ?_
            refine Run.goal ⟨(by repeat (first | exact Same.refl _ _ | refine Same.put rfl ?_ | refine Same.over rfl rfl ?_)), k + 1, ?_, ?_, ?_, ?_⟩
            · refine ⟨by omega, fun i hi => ?_⟩
              rcases Nat.lt_succ_iff_lt_or_eq.1 hi with h | h
              · exact hinv.2 i h
              · rw [h]; exact hgood
            · omega
            · exact ⟨(by first | rfl | (congr 1; omega) | simp), trivial⟩
            · exact (Some'.weak (.skip (.takeEq (by first | rfl | simp) (.nil _))))
    · have p9 := h9; try simp only [bs] at p9
      have hkn : k = n := by simp at h9; omega
      have hall : edgesOk (dec N + 1) xs n = true := by simp only [edgesOk, decide_eq_true_eq]; rw [← hkn]; exact hinv.2
      refine Run.exit rfl ?_
      refine Run.seq ?_
      refine Run.region ?_
      refine Run.q (v := .pointer (some ⟨b1, 0, none⟩)) rfl (OpQ.y (OpY.fieldAddr Tfo_35_0 rfl rfl)) ?_
      refine Run.q (v := .int .i64 N) rfl (OpQ.y (OpY.load1 Tone_3 rfl (Cells.blk (.head _) ⟨rfl, trivial⟩))) ?_
      refine Run.q (v := .bool (within N 1 8)) rfl (OpQ.call (vs := [.int .i64 N, .int .i64 1, .int .i64 8]) (caps := []) Tcall_61 rfl rfl (fun w hs => l1In_spec _ _ _ w)) ?_
      refine Run.q (v := .bool (within N 1 8)) rfl (OpQ.y (OpY.pure rfl)) ?_
      refine Run.done ?_
      refine Run.ret ?_
      refine ⟨.bool (within N 1 8), [], Out.one rfl rfl, (Some'.weak (.nil _)), ?_⟩
      show _ = _
      rcases Bool.eq_false_or_eq_true (within N 1 8) with hw8 | hw8
      · have hdd : dec N + 1 = N := by simp only [within_iff] at hw8; omega
        first | rw [hdd] at hbad | rw [hdd] at hall
        simp_all [cgOk]
      · simp_all [cgOk]

end Go.Proofs.Ytekikmdjldincaa
