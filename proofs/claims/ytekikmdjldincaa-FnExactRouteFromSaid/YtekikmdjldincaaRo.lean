/- Walks: the laws' own functions on routes. -/
import Derived.Test.YtekikmdjldincaaInts
import Derived.Test.YtekikmdjldincaaW1
import Derived.Test.YtekikmdjldincaaProg
set_option linter.unusedSimpArgs false
set_option linter.unusedVariables false
namespace Go.Proofs.Ytekikmdjldincaa
open Go Go.RowKit
namespace RoT
theorem Tagg_101 : aggOf Try.prog 101 = some 3 := by kernel_rfl
theorem Tcall_15 : callable Try.prog 15 = true := by kernel_rfl
theorem Tcall_21 : callable Try.prog 21 = true := by kernel_rfl
theorem Tcall_37 : callable Try.prog 37 = true := by kernel_rfl
theorem Tcall_40 : callable Try.prog 40 = true := by kernel_rfl
theorem Tcall_41 : callable Try.prog 41 = true := by kernel_rfl
theorem Tcall_42 : callable Try.prog 42 = true := by kernel_rfl
theorem Tcall_68 : callable Try.prog 68 = true := by kernel_rfl
theorem Tfo_101_0 : fieldOff Try.prog 101 0 = some 0 := by kernel_rfl
theorem Tfo_101_1 : fieldOff Try.prog 101 1 = some 1 := by kernel_rfl
theorem Tfo_101_2 : fieldOff Try.prog 101 2 = some 2 := by kernel_rfl
theorem Tfo_48_0 : fieldOff Try.prog 48 0 = some 0 := by kernel_rfl
theorem Tfo_48_1 : fieldOff Try.prog 48 1 = some 1 := by kernel_rfl
theorem Tone_28 : oneOf Try.prog 28 = true := by kernel_rfl
theorem Tone_3 : oneOf Try.prog 3 = true := by kernel_rfl
theorem Tone_46 : oneOf Try.prog 46 = true := by kernel_rfl
theorem Tsize_3 : (Try.prog.info? 3).map (·.size) = some 1 := by kernel_rfl
theorem Tsl_46 : sliceOf Try.prog 46 = some (101, 3, 24, [.int .i64 0, .int .i64 0, .int .i64 0]) := by kernel_rfl
end RoT
open RoT
set_option maxHeartbeats 1000000 in
set_option maxRecDepth 20000 in
theorem eqRouteStep_spec (x0 x1 x2 y0 y1 y2 : Int) (w : World) : Calls Try.prog 68 #[.agg #[.int .i64 x0, .int .i64 x1, .int .i64 x2], .agg #[.int .i64 y0, .int .i64 y1, .int .i64 y2]] w (Post No w fun v _ => v = .bool (decide ([x0, x1, x2] = [y0, y1, y2]))) := by
  refine enter (n := 20) (args := [.agg #[.int .i64 x0, .int .i64 x1, .int .i64 x2], .agg #[.int .i64 y0, .int .i64 y1, .int .i64 y2]]) Try.func68 rfl rfl (St.empty _ _) ?_
  refine Run.seq ?_
  refine Run.region ?_
  refine Run.step rfl (OpStep.box (us := [.int .i64 x0, .int .i64 x1, .int .i64 x2]) rfl fun b1 => ?_)
  refine Run.step rfl (OpStep.box (us := [.int .i64 y0, .int .i64 y1, .int .i64 y2]) rfl fun b2 => ?_)
  refine Run.q (v := .bool false) rfl (OpQ.y (OpY.pure rfl)) ?_
  refine Run.done ?_
  refine Run.seq ?_
  refine Run.seq ?_
  refine Run.region ?_
  refine Run.q (v := .pointer (some ⟨b1, 0, none⟩)) rfl (OpQ.y (OpY.fieldAddr Tfo_101_0 rfl rfl)) ?_
  refine Run.q (v := .int .i64 x0) rfl (OpQ.y (OpY.load1 Tone_3 rfl (Cells.blk (.tail _ (List.Mem.head _)) ⟨rfl, trivial⟩))) ?_
  refine Run.q (v := .pointer (some ⟨b2, 0, none⟩)) rfl (OpQ.y (OpY.fieldAddr Tfo_101_0 rfl rfl)) ?_
  refine Run.q (v := .int .i64 y0) rfl (OpQ.y (OpY.load1 Tone_3 rfl (Cells.blk (.head _) ⟨rfl, trivial⟩))) ?_
  refine Run.q (v := .bool (x0 != y0)) rfl (OpQ.y (OpY.pure rfl)) ?_
  refine Run.done ?_
  refine Run.cond (b := x0 != y0) rfl (fun h9 => ?_) (fun h9 => ?_)
  · have p9 := h9; try simp only [bs] at p9
    refine Run.seq ?_
    refine Run.region ?_
    refine Run.q (v := .bool false) rfl (OpQ.y (OpY.pure rfl)) ?_
    refine Run.done ?_
    refine Run.ret ?_
    refine ⟨.bool false, [], Out.one rfl rfl, (Some'.weak (.nil _)), ?_⟩
    show _ = _; simp_all
  · have p9 := h9; try simp only [bs] at p9
    refine Run.skip ?_
    refine Run.seq ?_
    refine Run.seq ?_
    refine Run.region ?_
    refine Run.q (v := .pointer (some ⟨b1, 1, none⟩)) rfl (OpQ.y (OpY.fieldAddr Tfo_101_1 rfl rfl)) ?_
    refine Run.q (v := .int .i64 x1) rfl (OpQ.y (OpY.load1 Tone_3 rfl (Cells.blk (.tail _ (List.Mem.head _)) ⟨rfl, trivial⟩))) ?_
    refine Run.q (v := .pointer (some ⟨b2, 1, none⟩)) rfl (OpQ.y (OpY.fieldAddr Tfo_101_1 rfl rfl)) ?_
    refine Run.q (v := .int .i64 y1) rfl (OpQ.y (OpY.load1 Tone_3 rfl (Cells.blk (.head _) ⟨rfl, trivial⟩))) ?_
    refine Run.q (v := .bool (x1 != y1)) rfl (OpQ.y (OpY.pure rfl)) ?_
    refine Run.done ?_
    refine Run.cond (b := x1 != y1) rfl (fun h14 => ?_) (fun h14 => ?_)
    · have p14 := h14; try simp only [bs] at p14
      refine Run.seq ?_
      refine Run.region ?_
      refine Run.q (v := .bool false) rfl (OpQ.y (OpY.pure rfl)) ?_
      refine Run.done ?_
      refine Run.ret ?_
      refine ⟨.bool false, [], Out.one rfl rfl, (Some'.weak (.nil _)), ?_⟩
      show _ = _; simp_all
    · have p14 := h14; try simp only [bs] at p14
      refine Run.skip ?_
      refine Run.seq ?_
      refine Run.seq ?_
      refine Run.region ?_
      refine Run.q (v := .pointer (some ⟨b1, 2, none⟩)) rfl (OpQ.y (OpY.fieldAddr Tfo_101_2 rfl rfl)) ?_
      refine Run.q (v := .int .i64 x2) rfl (OpQ.y (OpY.load1 Tone_3 rfl (Cells.blk (.tail _ (List.Mem.head _)) ⟨rfl, trivial⟩))) ?_
      refine Run.q (v := .pointer (some ⟨b2, 2, none⟩)) rfl (OpQ.y (OpY.fieldAddr Tfo_101_2 rfl rfl)) ?_
      refine Run.q (v := .int .i64 y2) rfl (OpQ.y (OpY.load1 Tone_3 rfl (Cells.blk (.head _) ⟨rfl, trivial⟩))) ?_
      refine Run.q (v := .bool (x2 != y2)) rfl (OpQ.y (OpY.pure rfl)) ?_
      refine Run.done ?_
      refine Run.cond (b := x2 != y2) rfl (fun h19 => ?_) (fun h19 => ?_)
      · have p19 := h19; try simp only [bs] at p19
        refine Run.seq ?_
        refine Run.region ?_
        refine Run.q (v := .bool false) rfl (OpQ.y (OpY.pure rfl)) ?_
        refine Run.done ?_
        refine Run.ret ?_
        refine ⟨.bool false, [], Out.one rfl rfl, (Some'.weak (.nil _)), ?_⟩
        show _ = _; simp_all
      · have p19 := h19; try simp only [bs] at p19
        refine Run.skip ?_
        refine Run.seq ?_
        refine Run.region ?_
        refine Run.q (v := .bool true) rfl (OpQ.y (OpY.pure rfl)) ?_
        refine Run.done ?_
        refine Run.ret ?_
        refine ⟨.bool true, [], Out.one rfl rfl, (Some'.weak (.nil _)), ?_⟩
        show _ = _; simp_all

set_option maxHeartbeats 1000000 in
set_option maxRecDepth 20000 in
theorem eqRouteStepS_spec {va vb : Value} {n m : Nat} {xs ys : List Int} {w : World} (ha : Sl w va 3 n (ints xs)) (hb : Sl w vb 3 m (ints ys)) :
    Calls Try.prog 37 #[va, vb] w (Post No w fun v _ => v = .bool (decide (xs = ys))) := by
  have hxl := ha.len
  have hyl := hb.len
  have hn := ha.le
  obtain ⟨A, c, rfl, _, _⟩ := ha.form0
  obtain ⟨B, d, rfl, _, _⟩ := hb.form0
  refine enter (n := 27) (args := [.slice A n c, .slice B m d]) Try.func37 rfl rfl (St.empty _ _) ?_
  refine Run.seq ?_
  refine Run.region ?_
  refine Run.q (v := .bool false) rfl (OpQ.y (OpY.pure rfl)) ?_
  refine Run.done ?_
  refine Run.seq ?_
  refine Run.seq ?_
  refine Run.region ?_
  refine Run.q (v := .slice A n c) rfl (OpQ.y (OpY.pure rfl)) ?_
  refine Run.q (v := .int .i64 (((n : Nat) : Int))) rfl (OpQ.y (OpY.len Tsl_46 rfl)) ?_
  refine Run.q (v := .slice B m d) rfl (OpQ.y (OpY.pure rfl)) ?_
  refine Run.q (v := .int .i64 (((m : Nat) : Int))) rfl (OpQ.y (OpY.len Tsl_46 rfl)) ?_
  refine Run.q (v := .bool ((((n : Nat) : Int)) != (((m : Nat) : Int)))) rfl (OpQ.y (OpY.pure rfl)) ?_
  refine Run.done ?_
  refine Run.cond (b := (((n : Nat) : Int)) != (((m : Nat) : Int))) rfl (fun h10 => ?_) (fun h10 => ?_)
  · have p10 := h10; try simp only [bs] at p10
    have hne : ¬ xs = ys := by intro e; subst e; simp at h10; omega
    refine Run.seq ?_
    refine Run.region ?_
    refine Run.q (v := .bool false) rfl (OpQ.y (OpY.pure rfl)) ?_
    refine Run.done ?_
    refine Run.ret ?_
    refine ⟨.bool false, [], Out.one rfl rfl, (Some'.weak (.nil _)), ?_⟩
    show _ = _; simp_all
  · have p10 := h10; try simp only [bs] at p10
    have hnm : m = n := by simp at h10; omega
    have hyl2 : ys.length = n * 3 := by rw [hyl, hnm]
    refine Run.skip ?_
    refine Run.seq ?_
    refine Run.seq ?_
    refine Run.region ?_
    refine Run.q (v := .int .i64 0) rfl (OpQ.y (OpY.pure rfl)) ?_
    refine Run.done ?_
    refine Run.block ?_
    refine Run.loop (ι := Nat) [4, 5, 11, 12, 13, 14, 15, 16, 17, 18, 19, 20, 21, 22, 23, 24, 25, 26] (fun k => [(5, .int .i64 (((k : Nat) : Int)))]) (fun k => []) (fun k => k ≤ n ∧ ∀ j, j < k * 3 → ix xs j = ix ys j) (fun k => n - k) 0 ?_ ?_ ?_ ?_
    · exact ⟨Nat.zero_le _, fun j hj => by omega⟩
    · exact ⟨rfl, trivial⟩
    · exact (Some'.weak (.nil _))
    · rintro k fr hinv
      show Run _ _ (over _ _ [(5, .int .i64 (((k : Nat) : Int)))] fr) []
      try dsimp only at hinv
      refine Run.seq ?_
      refine Run.seq ?_
      refine Run.region ?_
      refine Run.q (v := .int .i64 (((k : Nat) : Int))) rfl (OpQ.y (OpY.pure rfl)) ?_
      refine Run.q (v := .slice A n c) rfl (OpQ.y (OpY.pure rfl)) ?_
      refine Run.q (v := .int .i64 (((n : Nat) : Int))) rfl (OpQ.y (OpY.len Tsl_46 rfl)) ?_
      refine Run.q (v := .bool (decide ((((k : Nat) : Int)) < (((n : Nat) : Int))))) rfl (OpQ.y (OpY.pure rfl)) ?_
      refine Run.done ?_
      refine Run.cond (b := decide ((((k : Nat) : Int)) < (((n : Nat) : Int)))) rfl (fun h14 => ?_) (fun h14 => ?_)
      · have p14 := h14; try simp only [bs] at p14
        have hlt : k < n := by simp at h14; omega
        obtain ⟨b, o, rfl⟩ := ha.opn (by omega)
        obtain ⟨b2, o2, rfl⟩ := hb.opn (by omega)
        refine Run.skip ?_
        refine Run.seq ?_
        refine Run.block ?_
        refine Run.seq ?_
        refine Run.draws (by kernel_rfl) (by kernel_rfl) ?_
        refine Lex.q (v := .slice (some ⟨b, o, none⟩) n c) rfl (OpQ.y (OpY.pure rfl)) ?_
        refine Lex.q (v := .int .i64 (((k : Nat) : Int))) rfl (OpQ.y (OpY.pure rfl)) ?_
        refine Lex.q (v := .pointer (some ⟨b, o + k * 3, none⟩)) rfl (OpQ.y (OpY.index (kk := k) Tsl_46 rfl rfl (by omega) (by omega) (by first | rfl | omega))) ?_
        refine Lex.q (v := .agg #[.int .i64 (ix xs (k * 3)), .int .i64 (ix xs (k * 3 + 1)), .int .i64 (ix xs (k * 3 + 2))]) rfl (OpQ.y (OpY.loadN (cs := [.int .i64 (ix xs (k * 3)), .int .i64 (ix xs (k * 3 + 1)), .int .i64 (ix xs (k * 3 + 2))]) Tagg_101 rfl (Cells.arg (k := k * 3) ha rfl (by omega) (pre3 (by omega))))) ?_
        refine Lex.q (v := .slice (some ⟨b2, o2, none⟩) m d) rfl (OpQ.y (OpY.pure rfl)) ?_
        refine Lex.q (v := .int .i64 (((k : Nat) : Int))) rfl (OpQ.y (OpY.pure rfl)) ?_
        refine Lex.q (v := .pointer (some ⟨b2, o2 + k * 3, none⟩)) rfl (OpQ.y (OpY.index (kk := k) Tsl_46 rfl rfl (by omega) (by omega) (by first | rfl | omega))) ?_
        refine Lex.q (v := .agg #[.int .i64 (ix ys (k * 3)), .int .i64 (ix ys (k * 3 + 1)), .int .i64 (ix ys (k * 3 + 2))]) rfl (OpQ.y (OpY.loadN (cs := [.int .i64 (ix ys (k * 3)), .int .i64 (ix ys (k * 3 + 1)), .int .i64 (ix ys (k * 3 + 2))]) Tagg_101 rfl (Cells.arg (k := k * 3) hb rfl (by omega) (pre3 (by omega))))) ?_
        refine Lex.q (v := .bool (decide ([ix xs (k * 3), ix xs (k * 3 + 1), ix xs (k * 3 + 2)] = [ix ys (k * 3), ix ys (k * 3 + 1), ix ys (k * 3 + 2)]))) rfl (OpQ.call (vs := [.agg #[.int .i64 (ix xs (k * 3)), .int .i64 (ix xs (k * 3 + 1)), .int .i64 (ix xs (k * 3 + 2))], .agg #[.int .i64 (ix ys (k * 3)), .int .i64 (ix ys (k * 3 + 1)), .int .i64 (ix ys (k * 3 + 2))]]) (caps := []) Tcall_68 rfl rfl (fun w hs => eqRouteStep_spec _ _ _ _ _ _ w)) ?_
        refine Lex.q (v := .bool (!(decide ([ix xs (k * 3), ix xs (k * 3 + 1), ix xs (k * 3 + 2)] = [ix ys (k * 3), ix ys (k * 3 + 1), ix ys (k * 3 + 2)])))) rfl (OpQ.y (OpY.pure rfl)) ?_
        refine Lex.done ?_
        refine Run.cond (b := !(decide ([ix xs (k * 3), ix xs (k * 3 + 1), ix xs (k * 3 + 2)] = [ix ys (k * 3), ix ys (k * 3 + 1), ix ys (k * 3 + 2)]))) rfl (fun h26 => ?_) (fun h26 => ?_)
        · have p26 := h26; try simp only [bs] at p26
          have hne : ¬ xs = ys := by intro e; subst e; simp at h26
          refine Run.seq ?_
          refine Run.region ?_
          refine Run.q (v := .bool false) rfl (OpQ.y (OpY.pure rfl)) ?_
          refine Run.done ?_
          refine Run.ret ?_
          refine ⟨.bool false, [], Out.one rfl rfl, (Some'.weak (.nil _)), ?_⟩
          show _ = _; simp_all
        · have p26 := h26; try simp only [bs] at p26
          simp at h26
          refine Run.skip ?_
          refine Run.blockEnd ?_
          refine Run.region ?_
          refine Run.q (v := .int .i64 (((k : Nat) : Int))) rfl (OpQ.y (OpY.pure rfl)) ?_
          refine Run.q (v := .int .i64 ((((k : Nat) : Int)) + 1)) rfl (OpQ.y (OpY.add rfl rfl rfl (by omega) (by omega))) ?_
          refine Run.q (v := .int .i64 ((((k : Nat) : Int)) + 1)) rfl (OpQ.y (OpY.pure rfl)) ?_
          refine Run.done ?_
          refine Run.goal ⟨(by repeat (first | exact Same.refl _ _ | refine Same.put rfl ?_ | refine Same.over rfl rfl ?_)), k + 1, ?_, ?_, ?_, ?_⟩
          · refine ⟨by omega, fun j hj => ?_⟩
            by_cases h : j < k * 3
            · exact hinv.2 j h
            · rcases (by omega : j = k * 3 ∨ j = k * 3 + 1 ∨ j = k * 3 + 2) with rfl | rfl | rfl <;> simp [h26]
          · omega
          · exact ⟨(by first | rfl | (congr 1; omega) | simp), trivial⟩
          · exact (Some'.weak (.nil _))
      · have p14 := h14; try simp only [bs] at p14
        have hkn : k = n := by simp at h14; omega
        have heq : xs = ys := list_ext_ix (by omega) fun j hj => hinv.2 j (by omega)
        refine Run.exit rfl ?_
        refine Run.seq ?_
        refine Run.region ?_
        refine Run.q (v := .bool true) rfl (OpQ.y (OpY.pure rfl)) ?_
        refine Run.done ?_
        refine Run.ret ?_
        refine ⟨.bool true, [], Out.one rfl rfl, (Some'.weak (.nil _)), ?_⟩
        show _ = _; simp_all


theorem eqRouteStepS_true {va vb : Value} {n m : Nat} {xs ys : List Int} {w : World} (ha : Sl w va 3 n (ints xs)) (hb : Sl w vb 3 m (ints ys)) (he : xs = ys) :
    Calls Try.prog 37 #[va, vb] w (Post No w fun v _ => v = .bool true) :=
  (eqRouteStepS_spec ha hb).mono fun _ _ ⟨v, H, h1, h2, h3⟩ => ⟨v, H, h1, h2, by simpa [he] using h3⟩

set_option maxHeartbeats 1000000 in
set_option maxRecDepth 20000 in
theorem markRouteStepS_spec {va : Value} {n : Nat} {xs : List Int} {k : Int} {w : World} (ha : (Res.own va 101 3 n (ints xs)).holds w) (h0 : 0 ≤ k) (hk : k + n * 3 < 4611686018427387904) :
    Calls Try.prog 40 #[va, .int .i64 k] w (Post (Of [.own va 101 3 n (ints xs)]) w fun v H => v = .int .i64 (k + n * 3) ∧ H = [.own va 101 3 n (ints (mks k (n * 3)))]) := by
  have hxl : xs.length = n * 3 := by simpa using ha.1
  have hsl := (St.start1 ha).slOwn (.head _)
  have hn := hsl.le
  obtain ⟨A, c0, rfl, _, _⟩ := hsl.form0
  refine enter (n := 34) (args := [.slice A n c0, .int .i64 k]) Try.func40 rfl rfl (St.start1 ha) ?_
  refine Run.seq ?_
  refine Run.region ?_
  refine Run.q (v := .int .i64 0) rfl (OpQ.y (OpY.pure rfl)) ?_
  refine Run.done ?_
  refine Run.seq ?_
  refine Run.seq ?_
  refine Run.region ?_
  refine Run.q (v := .int .i64 0) rfl (OpQ.y (OpY.pure rfl)) ?_
  refine Run.done ?_
  refine Run.block ?_
  refine Run.loop (ι := Nat) [1, 5, 6, 7, 8, 9, 10, 11, 12, 13, 14, 15, 16, 17, 18, 19, 20, 21, 22, 23, 24, 25, 26, 27, 28, 29, 30, 31, 32] (fun i => [(1, .int .i64 (k + ((i * 3 : Nat) : Int))), (5, .int .i64 (((i : Nat) : Int)))]) (fun i => [.own (.slice A n c0) 101 3 n (ints (marked k (i * 3) xs))]) (fun i => i ≤ n) (fun i => n - i) 0 ?_ ?_ ?_ ?_
  · exact Nat.zero_le _
  · exact ⟨(by show Value.int .i64 k = Value.int .i64 _; simp), rfl, trivial⟩
  · exact (Some'.weak (.takeEq (by simp only [Nat.zero_mul, marked_zero]) (.nil _)))
  · rintro i fr hinv
    show Run _ _ (over _ _ [(1, .int .i64 (k + ((i * 3 : Nat) : Int))), (5, .int .i64 (((i : Nat) : Int)))] fr) [.own (.slice A n c0) 101 3 n (ints (marked k (i * 3) xs))]
    try dsimp only at hinv
    refine Run.seq ?_
    refine Run.seq ?_
    refine Run.region ?_
    refine Run.q (v := .int .i64 (((i : Nat) : Int))) rfl (OpQ.y (OpY.pure rfl)) ?_
    refine Run.q (v := .slice A n c0) rfl (OpQ.y (OpY.pure rfl)) ?_
    refine Run.q (v := .int .i64 (((n : Nat) : Int))) rfl (OpQ.y (OpY.len Tsl_46 rfl)) ?_
    refine Run.q (v := .bool (decide ((((i : Nat) : Int)) < (((n : Nat) : Int))))) rfl (OpQ.y (OpY.pure rfl)) ?_
    refine Run.done ?_
    refine Run.cond (b := decide ((((i : Nat) : Int)) < (((n : Nat) : Int)))) rfl (fun h9 => ?_) (fun h9 => ?_)
    · have p9 := h9; try simp only [bs] at p9
      have hlt : i < n := by simp at h9; omega
      refine Run.openOwn (.head _) (by omega) (fun g c hvg hcapg _ => ?_) (fun _ _ _ => ⟨nofun, nofun, nofun⟩)
      injection hvg with hAg _ hcg; subst hAg; subst hcg
      refine Run.skip ?_
      refine Run.seq ?_
      refine Run.block ?_
      refine Run.seq ?_
      refine Run.region ?_
      refine Run.q (v := .slice (some ⟨g, 0, none⟩) n c0) rfl (OpQ.y (OpY.pure rfl)) ?_
      refine Run.q (v := .int .i64 (((i : Nat) : Int))) rfl (OpQ.y (OpY.pure rfl)) ?_
      refine Run.q (v := .int .i64 (k + ((i * 3 : Nat) : Int))) rfl (OpQ.y (OpY.pure rfl)) ?_
      refine Run.q (v := .pointer (some ⟨g, i * 3, none⟩)) rfl (OpQ.y (OpY.index (kk := i) Tsl_46 rfl rfl (by omega) (by omega) (by first | rfl | omega))) ?_
      refine Run.q (v := .pointer (some ⟨g, i * 3, none⟩)) rfl (OpQ.y (OpY.fieldAddr Tfo_101_0 rfl rfl)) ?_
      refine Run.step rfl (OpStep.storeOwnInt (o := i * 3) (a := k + ((i * 3 : Nat) : Int)) Tsize_3 rfl rfl (.here _) (by omega) ?_)
      refine Run.done ?_
      refine Run.seq ?_
      refine Run.region ?_
      refine Run.q (v := .int .i64 (k + ((i * 3 : Nat) : Int))) rfl (OpQ.y (OpY.pure rfl)) ?_
      refine Run.q (v := .int .i64 ((k + ((i * 3 : Nat) : Int)) + 1)) rfl (OpQ.y (OpY.add rfl rfl rfl (by omega) (by omega))) ?_
      refine Run.q (v := .int .i64 ((k + ((i * 3 : Nat) : Int)) + 1)) rfl (OpQ.y (OpY.pure rfl)) ?_
      refine Run.done ?_
      refine Run.seq ?_
      refine Run.region ?_
      refine Run.q (v := .slice (some ⟨g, 0, none⟩) n c0) rfl (OpQ.y (OpY.pure rfl)) ?_
      refine Run.q (v := .int .i64 (((i : Nat) : Int))) rfl (OpQ.y (OpY.pure rfl)) ?_
      refine Run.q (v := .int .i64 ((k + ((i * 3 : Nat) : Int)) + 1)) rfl (OpQ.y (OpY.pure rfl)) ?_
      refine Run.q (v := .pointer (some ⟨g, i * 3, none⟩)) rfl (OpQ.y (OpY.index (kk := i) Tsl_46 rfl rfl (by omega) (by omega) (by first | rfl | omega))) ?_
      refine Run.q (v := .pointer (some ⟨g, i * 3 + 1, none⟩)) rfl (OpQ.y (OpY.fieldAddr Tfo_101_1 rfl rfl)) ?_
      refine Run.step rfl (OpStep.storeOwnInt (o := i * 3 + 1) (a := (k + ((i * 3 : Nat) : Int)) + 1) Tsize_3 rfl rfl (.here _) (by omega) ?_)
      refine Run.done ?_
      refine Run.seq ?_
      refine Run.region ?_
      refine Run.q (v := .int .i64 ((k + ((i * 3 : Nat) : Int)) + 1)) rfl (OpQ.y (OpY.pure rfl)) ?_
      refine Run.q (v := .int .i64 (((k + ((i * 3 : Nat) : Int)) + 1) + 1)) rfl (OpQ.y (OpY.add rfl rfl rfl (by omega) (by omega))) ?_
      refine Run.q (v := .int .i64 (((k + ((i * 3 : Nat) : Int)) + 1) + 1)) rfl (OpQ.y (OpY.pure rfl)) ?_
      refine Run.done ?_
      refine Run.seq ?_
      refine Run.region ?_
      refine Run.q (v := .slice (some ⟨g, 0, none⟩) n c0) rfl (OpQ.y (OpY.pure rfl)) ?_
      refine Run.q (v := .int .i64 (((i : Nat) : Int))) rfl (OpQ.y (OpY.pure rfl)) ?_
      refine Run.q (v := .int .i64 (((k + ((i * 3 : Nat) : Int)) + 1) + 1)) rfl (OpQ.y (OpY.pure rfl)) ?_
      refine Run.q (v := .pointer (some ⟨g, i * 3, none⟩)) rfl (OpQ.y (OpY.index (kk := i) Tsl_46 rfl rfl (by omega) (by omega) (by first | rfl | omega))) ?_
      refine Run.q (v := .pointer (some ⟨g, i * 3 + 2, none⟩)) rfl (OpQ.y (OpY.fieldAddr Tfo_101_2 rfl rfl)) ?_
      refine Run.step rfl (OpStep.storeOwnInt (o := i * 3 + 2) (a := ((k + ((i * 3 : Nat) : Int)) + 1) + 1) Tsize_3 rfl rfl (.here _) (by omega) ?_)
      refine Run.done ?_
      refine Run.region ?_
      refine Run.q (v := .int .i64 (((k + ((i * 3 : Nat) : Int)) + 1) + 1)) rfl (OpQ.y (OpY.pure rfl)) ?_
      refine Run.q (v := .int .i64 ((((k + ((i * 3 : Nat) : Int)) + 1) + 1) + 1)) rfl (OpQ.y (OpY.add rfl rfl rfl (by omega) (by omega))) ?_
      refine Run.q (v := .int .i64 ((((k + ((i * 3 : Nat) : Int)) + 1) + 1) + 1)) rfl (OpQ.y (OpY.pure rfl)) ?_
      refine Run.done ?_
      refine Run.blockEnd ?_
      refine Run.region ?_
      refine Run.q (v := .int .i64 (((i : Nat) : Int))) rfl (OpQ.y (OpY.pure rfl)) ?_
      refine Run.q (v := .int .i64 ((((i : Nat) : Int)) + 1)) rfl (OpQ.y (OpY.add rfl rfl rfl (by omega) (by omega))) ?_
      refine Run.q (v := .int .i64 ((((i : Nat) : Int)) + 1)) rfl (OpQ.y (OpY.pure rfl)) ?_
      refine Run.done ?_
      refine Run.goal ⟨(by repeat (first | exact Same.refl _ _ | refine Same.put rfl ?_ | refine Same.over rfl rfl ?_)), i + 1, ?_, ?_, ?_, ?_⟩
      · omega
      · omega
      · exact ⟨(by show Value.int _ _ = Value.int _ _; congr 1; omega), rfl, trivial⟩
      · exact (Some'.weak (.takeEq (congrArg (fun z => Res.own _ _ _ _ (ints z)) (marked_set3 (by omega) (by omega) (by omega) (by omega))) (.nil _)))
    · have p9 := h9; try simp only [bs] at p9
      have hkn : i = n := by simp at h9; omega
      refine Run.exit rfl ?_
      refine Run.seq ?_
      refine Run.region ?_
      refine Run.q (v := .int .i64 (k + ((i * 3 : Nat) : Int))) rfl (OpQ.y (OpY.pure rfl)) ?_
      refine Run.q (v := .int .i64 (k + ((i * 3 : Nat) : Int))) rfl (OpQ.y (OpY.pure rfl)) ?_
      refine Run.done ?_
      refine Run.ret ?_
      refine ⟨.int .i64 (k + ((i * 3 : Nat) : Int)), [.own (.slice A n c0) 101 3 n (ints (mks k (n * 3)))], Out.one rfl rfl, (Some'.weak (.takeEq (by subst hkn; rw [marked_all hxl]) (.nil _))), ?_⟩
      exact ⟨by subst hkn; simp, rfl⟩

set_option maxHeartbeats 1000000 in
set_option maxRecDepth 20000 in
theorem heldRouteStepS_spec {va : Value} {n : Nat} {xs : List Int} {k : Int} {w : World} (ha : Sl w va 3 n (ints xs)) (h0 : 0 ≤ k) (hk : k + n * 3 < 4611686018427387904) :
    Calls Try.prog 42 #[va, .int .i64 k] w (Post No w fun v _ => v = .int .i64 (if xs = mks k (n * 3) then k + n * 3 else -1)) := by
  have hxl := ha.len
  have hn := ha.le
  obtain ⟨A, c, rfl, _, _⟩ := ha.form0
  refine enter (n := 40) (args := [.slice A n c, .int .i64 k]) Try.func42 rfl rfl (St.empty _ _) ?_
  refine Run.seq ?_
  refine Run.region ?_
  refine Run.q (v := .int .i64 0) rfl (OpQ.y (OpY.pure rfl)) ?_
  refine Run.done ?_
  refine Run.seq ?_
  refine Run.seq ?_
  refine Run.region ?_
  refine Run.q (v := .int .i64 0) rfl (OpQ.y (OpY.pure rfl)) ?_
  refine Run.done ?_
  refine Run.block ?_
  refine Run.loop (ι := Nat) [1, 4, 5, 6, 7, 8, 9, 10, 11, 12, 13, 14, 15, 16, 17, 18, 19, 20, 21, 22, 23, 24, 25, 26, 27, 28, 29, 30, 31, 32, 33, 34, 35, 36, 37, 38] (fun i => [(1, .int .i64 (k + ((i * 3 : Nat) : Int))), (5, .int .i64 (((i : Nat) : Int)))]) (fun i => []) (fun i => i ≤ n ∧ ∀ j, j < i * 3 → ix xs j = k + j) (fun i => n - i) 0 ?_ ?_ ?_ ?_
  · exact ⟨Nat.zero_le _, fun j hj => by omega⟩
  · exact ⟨(by show Value.int .i64 k = Value.int .i64 _; simp), rfl, trivial⟩
  · exact (Some'.weak (.nil _))
  · rintro i fr hinv
    show Run _ _ (over _ _ [(1, .int .i64 (k + ((i * 3 : Nat) : Int))), (5, .int .i64 (((i : Nat) : Int)))] fr) []
    try dsimp only at hinv
    refine Run.seq ?_
    refine Run.seq ?_
    refine Run.region ?_
    refine Run.q (v := .int .i64 (((i : Nat) : Int))) rfl (OpQ.y (OpY.pure rfl)) ?_
    refine Run.q (v := .slice A n c) rfl (OpQ.y (OpY.pure rfl)) ?_
    refine Run.q (v := .int .i64 (((n : Nat) : Int))) rfl (OpQ.y (OpY.len Tsl_46 rfl)) ?_
    refine Run.q (v := .bool (decide ((((i : Nat) : Int)) < (((n : Nat) : Int))))) rfl (OpQ.y (OpY.pure rfl)) ?_
    refine Run.done ?_
    refine Run.cond (b := decide ((((i : Nat) : Int)) < (((n : Nat) : Int)))) rfl (fun h9 => ?_) (fun h9 => ?_)
    · have p9 := h9; try simp only [bs] at p9
      have hlt : i < n := by simp at h9; omega
      obtain ⟨b, o, rfl⟩ := ha.opn (by omega)
      refine Run.skip ?_
      refine Run.seq ?_
      refine Run.block ?_
      refine Run.seq ?_
      refine Run.seq ?_
      refine Run.region ?_
      refine Run.q (v := .slice (some ⟨b, o, none⟩) n c) rfl (OpQ.y (OpY.pure rfl)) ?_
      refine Run.q (v := .int .i64 (((i : Nat) : Int))) rfl (OpQ.y (OpY.pure rfl)) ?_
      refine Run.q (v := .pointer (some ⟨b, o + i * 3, none⟩)) rfl (OpQ.y (OpY.index (kk := i) Tsl_46 rfl rfl (by omega) (by omega) (by first | rfl | omega))) ?_
      refine Run.q (v := .pointer (some ⟨b, o + i * 3, none⟩)) rfl (OpQ.y (OpY.fieldAddr Tfo_101_0 rfl rfl)) ?_
      refine Run.q (v := .int .i64 (ix xs (i * 3))) rfl (OpQ.y (OpY.load1 Tone_3 rfl (Cells.arg (k := i * 3) ha rfl (by omega) (pre1 (by omega))))) ?_
      refine Run.q (v := .int .i64 (k + ((i * 3 : Nat) : Int))) rfl (OpQ.y (OpY.pure rfl)) ?_
      refine Run.q (v := .bool ((ix xs (i * 3)) != (k + ((i * 3 : Nat) : Int)))) rfl (OpQ.y (OpY.pure rfl)) ?_
      refine Run.done ?_
      refine Run.cond (b := (ix xs (i * 3)) != (k + ((i * 3 : Nat) : Int))) rfl (fun h18 => ?_) (fun h18 => ?_)
      · have p18 := h18; try simp only [bs] at p18
        have hne : ¬ xs = mks k (n * 3) := by
          intro e; subst e
          have e1 := ix_mks (k := k) (m := n * 3) (j := i * 3) (by omega)
          rw [e1, bne_iff_ne] at h18; apply h18; omega
        refine Run.seq ?_
        refine Run.region ?_
        refine Run.q (v := .int .i64 (-1)) rfl (OpQ.y (OpY.pure rfl)) ?_
        refine Run.done ?_
        refine Run.ret ?_
        refine ⟨.int .i64 (-1), [], Out.one rfl rfl, (Some'.weak (.nil _)), ?_⟩
        show _ = _; first | (rw [if_pos heq]; congr 1; omega) | rw [if_neg hne]
      · have p18 := h18; try simp only [bs] at p18
        refine Run.skip ?_
        refine Run.seq ?_
        refine Run.region ?_
        refine Run.q (v := .int .i64 (k + ((i * 3 : Nat) : Int))) rfl (OpQ.y (OpY.pure rfl)) ?_
        refine Run.q (v := .int .i64 ((k + ((i * 3 : Nat) : Int)) + 1)) rfl (OpQ.y (OpY.add rfl rfl rfl (by omega) (by omega))) ?_
        refine Run.q (v := .int .i64 ((k + ((i * 3 : Nat) : Int)) + 1)) rfl (OpQ.y (OpY.pure rfl)) ?_
        refine Run.done ?_
        refine Run.seq ?_
        refine Run.seq ?_
        refine Run.region ?_
        refine Run.q (v := .slice (some ⟨b, o, none⟩) n c) rfl (OpQ.y (OpY.pure rfl)) ?_
        refine Run.q (v := .int .i64 (((i : Nat) : Int))) rfl (OpQ.y (OpY.pure rfl)) ?_
        refine Run.q (v := .pointer (some ⟨b, o + i * 3, none⟩)) rfl (OpQ.y (OpY.index (kk := i) Tsl_46 rfl rfl (by omega) (by omega) (by first | rfl | omega))) ?_
        refine Run.q (v := .pointer (some ⟨b, o + i * 3 + 1, none⟩)) rfl (OpQ.y (OpY.fieldAddr Tfo_101_1 rfl rfl)) ?_
        refine Run.q (v := .int .i64 (ix xs (i * 3 + 1))) rfl (OpQ.y (OpY.load1 Tone_3 rfl (Cells.arg (k := i * 3 + 1) ha rfl (by omega) (pre1 (by omega))))) ?_
        refine Run.q (v := .int .i64 ((k + ((i * 3 : Nat) : Int)) + 1)) rfl (OpQ.y (OpY.pure rfl)) ?_
        refine Run.q (v := .bool ((ix xs (i * 3 + 1)) != ((k + ((i * 3 : Nat) : Int)) + 1))) rfl (OpQ.y (OpY.pure rfl)) ?_
        refine Run.done ?_
        refine Run.cond (b := (ix xs (i * 3 + 1)) != ((k + ((i * 3 : Nat) : Int)) + 1)) rfl (fun h27 => ?_) (fun h27 => ?_)
        · have p27 := h27; try simp only [bs] at p27
          have hne : ¬ xs = mks k (n * 3) := by
            intro e; subst e
            have e1 := ix_mks (k := k) (m := n * 3) (j := i * 3 + 1) (by omega)
            rw [e1, bne_iff_ne] at h27; apply h27; omega
          refine Run.seq ?_
          refine Run.region ?_
          refine Run.q (v := .int .i64 (-1)) rfl (OpQ.y (OpY.pure rfl)) ?_
          refine Run.done ?_
          refine Run.ret ?_
          refine ⟨.int .i64 (-1), [], Out.one rfl rfl, (Some'.weak (.nil _)), ?_⟩
          show _ = _; first | (rw [if_pos heq]; congr 1; omega) | rw [if_neg hne]
        · have p27 := h27; try simp only [bs] at p27
          refine Run.skip ?_
          refine Run.seq ?_
          refine Run.region ?_
          refine Run.q (v := .int .i64 ((k + ((i * 3 : Nat) : Int)) + 1)) rfl (OpQ.y (OpY.pure rfl)) ?_
          refine Run.q (v := .int .i64 (((k + ((i * 3 : Nat) : Int)) + 1) + 1)) rfl (OpQ.y (OpY.add rfl rfl rfl (by omega) (by omega))) ?_
          refine Run.q (v := .int .i64 (((k + ((i * 3 : Nat) : Int)) + 1) + 1)) rfl (OpQ.y (OpY.pure rfl)) ?_
          refine Run.done ?_
          refine Run.seq ?_
          refine Run.seq ?_
          refine Run.region ?_
          refine Run.q (v := .slice (some ⟨b, o, none⟩) n c) rfl (OpQ.y (OpY.pure rfl)) ?_
          refine Run.q (v := .int .i64 (((i : Nat) : Int))) rfl (OpQ.y (OpY.pure rfl)) ?_
          refine Run.q (v := .pointer (some ⟨b, o + i * 3, none⟩)) rfl (OpQ.y (OpY.index (kk := i) Tsl_46 rfl rfl (by omega) (by omega) (by first | rfl | omega))) ?_
          refine Run.q (v := .pointer (some ⟨b, o + i * 3 + 2, none⟩)) rfl (OpQ.y (OpY.fieldAddr Tfo_101_2 rfl rfl)) ?_
          refine Run.q (v := .int .i64 (ix xs (i * 3 + 2))) rfl (OpQ.y (OpY.load1 Tone_3 rfl (Cells.arg (k := i * 3 + 2) ha rfl (by omega) (pre1 (by omega))))) ?_
          refine Run.q (v := .int .i64 (((k + ((i * 3 : Nat) : Int)) + 1) + 1)) rfl (OpQ.y (OpY.pure rfl)) ?_
          refine Run.q (v := .bool ((ix xs (i * 3 + 2)) != (((k + ((i * 3 : Nat) : Int)) + 1) + 1))) rfl (OpQ.y (OpY.pure rfl)) ?_
          refine Run.done ?_
          refine Run.cond (b := (ix xs (i * 3 + 2)) != (((k + ((i * 3 : Nat) : Int)) + 1) + 1)) rfl (fun h36 => ?_) (fun h36 => ?_)
          · have p36 := h36; try simp only [bs] at p36
            have hne : ¬ xs = mks k (n * 3) := by
              intro e; subst e
              have e1 := ix_mks (k := k) (m := n * 3) (j := i * 3 + 2) (by omega)
              rw [e1, bne_iff_ne] at h36; apply h36; omega
            refine Run.seq ?_
            refine Run.region ?_
            refine Run.q (v := .int .i64 (-1)) rfl (OpQ.y (OpY.pure rfl)) ?_
            refine Run.done ?_
            refine Run.ret ?_
            refine ⟨.int .i64 (-1), [], Out.one rfl rfl, (Some'.weak (.nil _)), ?_⟩
            show _ = _; first | (rw [if_pos heq]; congr 1; omega) | rw [if_neg hne]
          · have p36 := h36; try simp only [bs] at p36
            refine Run.skip ?_
            refine Run.region ?_
            refine Run.q (v := .int .i64 (((k + ((i * 3 : Nat) : Int)) + 1) + 1)) rfl (OpQ.y (OpY.pure rfl)) ?_
            refine Run.q (v := .int .i64 ((((k + ((i * 3 : Nat) : Int)) + 1) + 1) + 1)) rfl (OpQ.y (OpY.add rfl rfl rfl (by omega) (by omega))) ?_
            refine Run.q (v := .int .i64 ((((k + ((i * 3 : Nat) : Int)) + 1) + 1) + 1)) rfl (OpQ.y (OpY.pure rfl)) ?_
            refine Run.done ?_
            refine Run.blockEnd ?_
            refine Run.region ?_
            refine Run.q (v := .int .i64 (((i : Nat) : Int))) rfl (OpQ.y (OpY.pure rfl)) ?_
            refine Run.q (v := .int .i64 ((((i : Nat) : Int)) + 1)) rfl (OpQ.y (OpY.add rfl rfl rfl (by omega) (by omega))) ?_
            refine Run.q (v := .int .i64 ((((i : Nat) : Int)) + 1)) rfl (OpQ.y (OpY.pure rfl)) ?_
            refine Run.done ?_
            refine Run.goal ⟨(by repeat (first | exact Same.refl _ _ | refine Same.put rfl ?_ | refine Same.over rfl rfl ?_)), i + 1, ?_, ?_, ?_, ?_⟩
            · refine ⟨by omega, fun j hj => ?_⟩
              by_cases h : j < i * 3
              · exact hinv.2 j h
              · simp only [bne_eq_false_iff_eq] at h18 h27 h36
                rcases (by omega : j = i * 3 ∨ j = i * 3 + 1 ∨ j = i * 3 + 2) with rfl | rfl | rfl <;> omega
            · omega
            · exact ⟨(by show Value.int _ _ = Value.int _ _; congr 1; omega), rfl, trivial⟩
            · exact (Some'.weak (.nil _))
    · have p9 := h9; try simp only [bs] at p9
      have hkn : i = n := by simp at h9; omega
      have heq : xs = mks k (n * 3) := eq_mks hxl fun j hj => hinv.2 j (by omega)
      refine Run.exit rfl ?_
      refine Run.seq ?_
      refine Run.region ?_
      refine Run.q (v := .int .i64 (k + ((i * 3 : Nat) : Int))) rfl (OpQ.y (OpY.pure rfl)) ?_
      refine Run.q (v := .int .i64 (k + ((i * 3 : Nat) : Int))) rfl (OpQ.y (OpY.pure rfl)) ?_
      refine Run.done ?_
      refine Run.ret ?_
      refine ⟨.int .i64 (k + ((i * 3 : Nat) : Int)), [], Out.one rfl rfl, (Some'.weak (.nil _)), ?_⟩
      show _ = _; first | (rw [if_pos heq]; congr 1; omega) | rw [if_neg hne]


theorem heldRouteStepS_true {va : Value} {n : Nat} {xs : List Int} {k : Int} {w : World} (ha : Sl w va 3 n (ints xs)) (h0 : 0 ≤ k) (hk : k + n * 3 < 4611686018427387904) (he : xs = mks k (n * 3)) :
    Calls Try.prog 42 #[va, .int .i64 k] w (Post No w fun v _ => v = .int .i64 (k + n * 3)) :=
  (heldRouteStepS_spec ha h0 hk).mono fun _ _ ⟨v, H, h1, h2, h3⟩ => ⟨v, H, h1, h2, by simpa [he] using h3⟩

set_option maxHeartbeats 1000000 in
set_option maxRecDepth 20000 in
theorem eqRoute_true {vStart : Value} {nStart : Nat} {xsStart : List Int} {vSteps : Value} {nSteps : Nat} {xsSteps : List Int} {qvStart : Value} {qvSteps : Value} {w : World} (hStart : Sl w vStart 1 nStart (ints xsStart)) (hSteps : Sl w vSteps 3 nSteps (ints xsSteps)) (qhStart : Sl w qvStart 1 nStart (ints xsStart)) (qhSteps : Sl w qvSteps 3 nSteps (ints xsSteps)) : Calls Try.prog 18 #[.agg #[vStart, vSteps], .agg #[qvStart, qvSteps]] w (Post No w fun v _ => v = .bool true) := by
  refine enter (n := 17) (args := [.agg #[vStart, vSteps], .agg #[qvStart, qvSteps]]) Try.func18 rfl rfl (St.empty _ _) ?_
  refine Run.seq ?_
  refine Run.region ?_
  refine Run.step rfl (OpStep.box (us := [vStart, vSteps]) rfl fun b1 => ?_)
  refine Run.step rfl (OpStep.box (us := [qvStart, qvSteps]) rfl fun b2 => ?_)
  refine Run.q (v := .bool false) rfl (OpQ.y (OpY.pure rfl)) ?_
  refine Run.done ?_
  refine Run.seq ?_
  refine Run.seq ?_
  refine Run.region ?_
  refine Run.q (v := .pointer (some ⟨b1, 0, none⟩)) rfl (OpQ.y (OpY.fieldAddr Tfo_48_0 rfl rfl)) ?_
  refine Run.q (v := vStart) rfl (OpQ.y (OpY.load1 Tone_28 rfl (Cells.blk (.tail _ (List.Mem.head _)) ⟨rfl, trivial⟩))) ?_
  refine Run.q (v := .pointer (some ⟨b2, 0, none⟩)) rfl (OpQ.y (OpY.fieldAddr Tfo_48_0 rfl rfl)) ?_
  refine Run.q (v := qvStart) rfl (OpQ.y (OpY.load1 Tone_28 rfl (Cells.blk (.head _) ⟨rfl, trivial⟩))) ?_
  refine Run.q (v := .bool true) rfl (OpQ.call (vs := [vStart, qvStart]) (caps := []) Tcall_15 rfl rfl (fun w hs => eqIntS_true (hs.sl hStart) (hs.sl qhStart) rfl)) ?_
  refine Run.q (v := .bool false) rfl (OpQ.y (OpY.pure rfl)) ?_
  refine Run.done ?_
  refine Run.cond (b := false) rfl (fun h => nomatch h) (fun _ => ?_)
  refine Run.skip ?_
  refine Run.seq ?_
  refine Run.seq ?_
  refine Run.region ?_
  refine Run.q (v := .pointer (some ⟨b1, 1, none⟩)) rfl (OpQ.y (OpY.fieldAddr Tfo_48_1 rfl rfl)) ?_
  refine Run.q (v := vSteps) rfl (OpQ.y (OpY.load1 Tone_46 rfl (Cells.blk (.tail _ (List.Mem.head _)) ⟨rfl, trivial⟩))) ?_
  refine Run.q (v := .pointer (some ⟨b2, 1, none⟩)) rfl (OpQ.y (OpY.fieldAddr Tfo_48_1 rfl rfl)) ?_
  refine Run.q (v := qvSteps) rfl (OpQ.y (OpY.load1 Tone_46 rfl (Cells.blk (.head _) ⟨rfl, trivial⟩))) ?_
  refine Run.q (v := .bool true) rfl (OpQ.call (vs := [vSteps, qvSteps]) (caps := []) Tcall_37 rfl rfl (fun w hs => eqRouteStepS_true (hs.sl hSteps) (hs.sl qhSteps) rfl)) ?_
  refine Run.q (v := .bool false) rfl (OpQ.y (OpY.pure rfl)) ?_
  refine Run.done ?_
  refine Run.cond (b := false) rfl (fun h => nomatch h) (fun _ => ?_)
  refine Run.skip ?_
  refine Run.seq ?_
  refine Run.region ?_
  refine Run.q (v := .bool true) rfl (OpQ.y (OpY.pure rfl)) ?_
  refine Run.done ?_
  refine Run.ret ?_
  refine ⟨.bool true, [], Out.one rfl rfl, (Some'.weak (.nil _)), ?_⟩
  rfl

set_option maxHeartbeats 1000000 in
set_option maxRecDepth 20000 in
theorem markRoute_spec {vStart : Value} {nStart : Nat} {xsStart : List Int} {vSteps : Value} {nSteps : Nat} {xsSteps : List Int} {k : Int} {w : World} (hst : St (Of [.own vStart 3 1 nStart (ints xsStart), .own vSteps 101 3 nSteps (ints xsSteps)]) w w [.own vStart 3 1 nStart (ints xsStart), .own vSteps 101 3 nSteps (ints xsSteps)]) (h0 : 0 ≤ k) (hk : k + ((nStart : Nat) : Int) * 1 + ((nSteps : Nat) : Int) * 3 < 4611686018427387904) :
    Calls Try.prog 22 #[.agg #[vStart, vSteps], .int .i64 k] w (Post (Of [.own vStart 3 1 nStart (ints xsStart), .own vSteps 101 3 nSteps (ints xsSteps)]) w fun v H => v = .int .i64 (k + ((nStart : Nat) : Int) * 1 + ((nSteps : Nat) : Int) * 3) ∧ H = [.own vSteps 101 3 nSteps (ints (mks (k + ((nStart : Nat) : Int) * 1) (nSteps * 3))), .own vStart 3 1 nStart (ints (mks (k) (nStart * 1)))]) := by
  refine enter (n := 14) (args := [.agg #[vStart, vSteps], .int .i64 k]) Try.func22 rfl rfl (hst) ?_
  refine Run.seq ?_
  refine Run.region ?_
  refine Run.step rfl (OpStep.box (us := [vStart, vSteps]) rfl fun b1 => ?_)
  refine Run.q (v := .int .i64 0) rfl (OpQ.y (OpY.pure rfl)) ?_
  refine Run.done ?_
  refine Run.seq ?_
  refine Run.region ?_
  refine Run.q (v := .pointer (some ⟨b1, 0, none⟩)) rfl (OpQ.y (OpY.fieldAddr Tfo_48_0 rfl rfl)) ?_
  refine Run.q (v := vStart) rfl (OpQ.y (OpY.load1 Tone_28 rfl (Cells.blk (.head _) ⟨rfl, trivial⟩))) ?_
  refine Run.q (v := .int .i64 k) rfl (OpQ.y (OpY.pure rfl)) ?_
  refine Run.step rfl (OpStep.callM (H1 := [.own vStart 3 1 nStart (ints xsStart)]) (H2 := [.blk b1 48 [vStart, vSteps], .own vSteps 101 3 nSteps (ints xsSteps)]) (vs := [vStart, .int .i64 k]) (caps := []) Tcall_21 rfl rfl (Weak.selF [1]) (fun w hs => markIntS_spec (hs.holds _ (.head _)) (by omega) (by omega)) ?_)
  rintro _ _ ⟨rfl, rfl⟩
  show Run _ _ (putF _ _ _ (.int .i64 (k + ((nStart : Nat) : Int) * 1))) [.own vStart 3 1 nStart (ints (mks k (nStart * 1))), .blk b1 48 [vStart, vSteps], .own vSteps 101 3 nSteps (ints xsSteps)]
  refine Run.q (v := .int .i64 (k + ((nStart : Nat) : Int) * 1)) rfl (OpQ.y (OpY.pure rfl)) ?_
  refine Run.done ?_
  refine Run.seq ?_
  refine Run.region ?_
  refine Run.q (v := .pointer (some ⟨b1, 1, none⟩)) rfl (OpQ.y (OpY.fieldAddr Tfo_48_1 rfl rfl)) ?_
  refine Run.q (v := vSteps) rfl (OpQ.y (OpY.load1 Tone_46 rfl (Cells.blk (.tail _ (List.Mem.head _)) ⟨rfl, trivial⟩))) ?_
  refine Run.q (v := .int .i64 (k + ((nStart : Nat) : Int) * 1)) rfl (OpQ.y (OpY.pure rfl)) ?_
  refine Run.step rfl (OpStep.callM (H1 := [.own vSteps 101 3 nSteps (ints xsSteps)]) (H2 := [.own vStart 3 1 nStart (ints (mks k (nStart * 1))), .blk b1 48 [vStart, vSteps]]) (vs := [vSteps, .int .i64 (k + ((nStart : Nat) : Int) * 1)]) (caps := []) Tcall_40 rfl rfl (Weak.selF [2]) (fun w hs => markRouteStepS_spec (hs.holds _ (.head _)) (by omega) (by omega)) ?_)
  rintro _ _ ⟨rfl, rfl⟩
  show Run _ _ (putF _ _ _ (.int .i64 (k + ((nStart : Nat) : Int) * 1 + ((nSteps : Nat) : Int) * 3))) [.own vSteps 101 3 nSteps (ints (mks (k + ((nStart : Nat) : Int) * 1) (nSteps * 3))), .own vStart 3 1 nStart (ints (mks k (nStart * 1))), .blk b1 48 [vStart, vSteps]]
  refine Run.q (v := .int .i64 (k + ((nStart : Nat) : Int) * 1 + ((nSteps : Nat) : Int) * 3)) rfl (OpQ.y (OpY.pure rfl)) ?_
  refine Run.done ?_
  refine Run.seq ?_
  refine Run.region ?_
  refine Run.q (v := .int .i64 (k + ((nStart : Nat) : Int) * 1 + ((nSteps : Nat) : Int) * 3)) rfl (OpQ.y (OpY.pure rfl)) ?_
  refine Run.q (v := .int .i64 (k + ((nStart : Nat) : Int) * 1 + ((nSteps : Nat) : Int) * 3)) rfl (OpQ.y (OpY.pure rfl)) ?_
  refine Run.done ?_
  refine Run.ret ?_
  refine ⟨.int .i64 (k + ((nStart : Nat) : Int) * 1 + ((nSteps : Nat) : Int) * 3), [.own vSteps 101 3 nSteps (ints (mks (k + ((nStart : Nat) : Int) * 1) (nSteps * 3))), .own vStart 3 1 nStart (ints (mks (k) (nStart * 1)))], Out.one rfl rfl, (Some'.weak (.take (.takeEq (by first | rfl | simp) (.nil _)))), ?_⟩
  exact ⟨rfl, rfl⟩

set_option maxHeartbeats 1000000 in
set_option maxRecDepth 20000 in
theorem heldRoute_true {vStart : Value} {nStart : Nat} {xsStart : List Int} {vSteps : Value} {nSteps : Nat} {xsSteps : List Int} {k : Int} {w : World} (hStart : Sl w vStart 1 nStart (ints xsStart)) (hSteps : Sl w vSteps 3 nSteps (ints xsSteps)) (h0 : 0 ≤ k) (hk : k + ((nStart : Nat) : Int) * 1 + ((nSteps : Nat) : Int) * 3 < 4611686018427387904) (heStart : xsStart = mks (k) (nStart * 1)) (heSteps : xsSteps = mks (k + ((nStart : Nat) : Int) * 1) (nSteps * 3)) :
    Calls Try.prog 23 #[.agg #[vStart, vSteps], .int .i64 k] w (Post No w fun v _ => v = .int .i64 (k + ((nStart : Nat) : Int) * 1 + ((nSteps : Nat) : Int) * 3)) := by
  refine enter (n := 18) (args := [.agg #[vStart, vSteps], .int .i64 k]) Try.func23 rfl rfl (St.empty _ _) ?_
  refine Run.seq ?_
  refine Run.region ?_
  refine Run.step rfl (OpStep.box (us := [vStart, vSteps]) rfl fun b1 => ?_)
  refine Run.q (v := .int .i64 0) rfl (OpQ.y (OpY.pure rfl)) ?_
  refine Run.done ?_
  refine Run.seq ?_
  refine Run.region ?_
  refine Run.q (v := .pointer (some ⟨b1, 0, none⟩)) rfl (OpQ.y (OpY.fieldAddr Tfo_48_0 rfl rfl)) ?_
  refine Run.q (v := vStart) rfl (OpQ.y (OpY.load1 Tone_28 rfl (Cells.blk (.head _) ⟨rfl, trivial⟩))) ?_
  refine Run.q (v := .int .i64 k) rfl (OpQ.y (OpY.pure rfl)) ?_
  refine Run.q (v := .int .i64 (k + ((nStart : Nat) : Int) * 1)) rfl (OpQ.call (vs := [vStart, .int .i64 k]) (caps := []) Tcall_41 rfl rfl (fun w hs => heldIntS_true (hs.sl hStart) (by omega) (by omega) heStart)) ?_
  refine Run.q (v := .int .i64 (k + ((nStart : Nat) : Int) * 1)) rfl (OpQ.y (OpY.pure rfl)) ?_
  refine Run.done ?_
  refine Run.seq ?_
  refine Run.seq ?_
  refine Run.region ?_
  refine Run.q (v := .int .i64 (k + ((nStart : Nat) : Int) * 1)) rfl (OpQ.y (OpY.pure rfl)) ?_
  refine Run.q (v := .bool (decide ((k + ((nStart : Nat) : Int) * 1) < 0))) rfl (OpQ.y (OpY.pure rfl)) ?_
  refine Run.done ?_
  refine Run.cond (b := decide ((k + ((nStart : Nat) : Int) * 1) < 0)) rfl (fun h10 => ?_) (fun h10 => ?_)
  · have p10 := h10; try simp only [bs] at p10
    exact absurd h10 (by simp <;> omega) --DONE
  · have p10 := h10; try simp only [bs] at p10
    refine Run.skip ?_
    refine Run.seq ?_
    refine Run.region ?_
    refine Run.q (v := .pointer (some ⟨b1, 1, none⟩)) rfl (OpQ.y (OpY.fieldAddr Tfo_48_1 rfl rfl)) ?_
    refine Run.q (v := vSteps) rfl (OpQ.y (OpY.load1 Tone_46 rfl (Cells.blk (.head _) ⟨rfl, trivial⟩))) ?_
    refine Run.q (v := .int .i64 (k + ((nStart : Nat) : Int) * 1)) rfl (OpQ.y (OpY.pure rfl)) ?_
    refine Run.q (v := .int .i64 (k + ((nStart : Nat) : Int) * 1 + ((nSteps : Nat) : Int) * 3)) rfl (OpQ.call (vs := [vSteps, .int .i64 (k + ((nStart : Nat) : Int) * 1)]) (caps := []) Tcall_42 rfl rfl (fun w hs => heldRouteStepS_true (hs.sl hSteps) (by omega) (by omega) heSteps)) ?_
    refine Run.q (v := .int .i64 (k + ((nStart : Nat) : Int) * 1 + ((nSteps : Nat) : Int) * 3)) rfl (OpQ.y (OpY.pure rfl)) ?_
    refine Run.done ?_
    refine Run.seq ?_
    refine Run.seq ?_
    refine Run.region ?_
    refine Run.q (v := .int .i64 (k + ((nStart : Nat) : Int) * 1 + ((nSteps : Nat) : Int) * 3)) rfl (OpQ.y (OpY.pure rfl)) ?_
    refine Run.q (v := .bool (decide ((k + ((nStart : Nat) : Int) * 1 + ((nSteps : Nat) : Int) * 3) < 0))) rfl (OpQ.y (OpY.pure rfl)) ?_
    refine Run.done ?_
    refine Run.cond (b := decide ((k + ((nStart : Nat) : Int) * 1 + ((nSteps : Nat) : Int) * 3) < 0)) rfl (fun h16 => ?_) (fun h16 => ?_)
    · have p16 := h16; try simp only [bs] at p16
      exact absurd h16 (by simp <;> omega) --DONE
    · have p16 := h16; try simp only [bs] at p16
      refine Run.skip ?_
      refine Run.seq ?_
      refine Run.region ?_
      refine Run.q (v := .int .i64 (k + ((nStart : Nat) : Int) * 1 + ((nSteps : Nat) : Int) * 3)) rfl (OpQ.y (OpY.pure rfl)) ?_
      refine Run.q (v := .int .i64 (k + ((nStart : Nat) : Int) * 1 + ((nSteps : Nat) : Int) * 3)) rfl (OpQ.y (OpY.pure rfl)) ?_
      refine Run.done ?_
      refine Run.ret ?_
      refine ⟨.int .i64 (k + ((nStart : Nat) : Int) * 1 + ((nSteps : Nat) : Int) * 3), [], Out.one rfl rfl, (Some'.weak (.nil _)), ?_⟩
      rfl

end Go.Proofs.Ytekikmdjldincaa
