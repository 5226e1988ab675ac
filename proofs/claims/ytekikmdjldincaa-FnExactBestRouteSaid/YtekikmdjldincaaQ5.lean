/- Walks: searches in slices, placements, neighbours in a coupling graph. -/
import Derived.Test.YtekikmdjldincaaQ4
import Derived.Test.YtekikmdjldincaaQ3
import Derived.Test.YtekikmdjldincaaProg
import Derived.Test.YtekikmdjldincaaQ2
set_option linter.unusedSimpArgs false
set_option linter.unusedVariables false
namespace Go.Proofs.Ytekikmdjldincaa
open Go Go.RowKit
namespace Cg3T
theorem Tagg_77 : aggOf Try.prog 77 = some 2 := by kernel_rfl
theorem Tcall_101 : callable Try.prog 101 = true := by kernel_rfl
theorem Tcall_104 : callable Try.prog 104 = true := by kernel_rfl
theorem Tcall_61 : callable Try.prog 61 = true := by kernel_rfl
theorem Tcall_62 : callable Try.prog 62 = true := by kernel_rfl
theorem Tcall_72 : callable Try.prog 72 = true := by kernel_rfl
theorem Tcall_73 : callable Try.prog 73 = true := by kernel_rfl
theorem Tcall_88 : callable Try.prog 88 = true := by kernel_rfl
theorem Tfo_35_0 : fieldOff Try.prog 35 0 = some 0 := by kernel_rfl
theorem Tfo_35_1 : fieldOff Try.prog 35 1 = some 1 := by kernel_rfl
theorem Tfo_77_0 : fieldOff Try.prog 77 0 = some 0 := by kernel_rfl
theorem Tfo_77_1 : fieldOff Try.prog 77 1 = some 1 := by kernel_rfl
theorem Tns_77_2 : numStruct Try.prog 77 2 = true := by kernel_rfl
theorem Tone_3 : oneOf Try.prog 3 = true := by kernel_rfl
theorem Tone_33 : oneOf Try.prog 33 = true := by kernel_rfl
theorem Tsize_77 : (Try.prog.info? 77).map (·.size) = some 2 := by kernel_rfl
theorem Tsl_28 : sliceOf Try.prog 28 = some (3, 1, 8, [.int .i64 0]) := by kernel_rfl
theorem Tsl_33 : sliceOf Try.prog 33 = some (77, 2, 16, [.int .i64 0, .int .i64 0]) := by kernel_rfl
theorem Tzero_77 : zeroOf Try.prog 77 = some [.int .i64 0, .int .i64 0] := by kernel_rfl
end Cg3T
open Cg3T
set_option maxHeartbeats 1000000 in
set_option maxRecDepth 20000 in
theorem l1Has_spec {va : Value} {n : Nat} {xs : List Int} {x : Int} {w : World} (ha : Sl w va 1 n (ints xs)) : Calls Try.prog 62 #[va, .int .i64 x] w (Post No w fun v _ => v = .bool (hasI xs x n)) := by
  have hxl := ha.len
  have hn := ha.le
  obtain ⟨A, c, rfl, _, _⟩ := ha.form0
  refine enter (n := 17) (args := [.slice A n c, .int .i64 x]) Try.func62 rfl rfl (St.empty _ _) ?_
  refine Run.seq ?_
  refine Run.region ?_
  refine Run.q (v := .bool false) rfl (OpQ.y (OpY.pure rfl)) ?_
  refine Run.done ?_
  refine Run.seq ?_
  refine Run.seq ?_
  refine Run.region ?_
  refine Run.q (v := .slice A n c) rfl (OpQ.y (OpY.pure rfl)) ?_
  refine Run.q (v := .int .i64 (((n : Nat) : Int))) rfl (OpQ.y (OpY.len Tsl_28 rfl)) ?_
  refine Run.q (v := .int .i64 0) rfl (OpQ.y (OpY.pure rfl)) ?_
  refine Run.done ?_
  refine Run.block ?_
  refine Run.loop (ι := Nat) [4, 6, 9, 10, 11, 12, 13, 14, 15, 16] (fun k => [(9, .int .i64 (((k : Nat) : Int)))]) (fun k => []) (fun k => k ≤ n ∧ (∀ i, i < k → decide (ix xs i = x) = false)) (fun k => n - k) 0 ?_ ?_ ?_ ?_
  · exact ⟨Nat.zero_le _, by first | trivial | (intro i hi; omega)⟩
  · exact ⟨rfl, trivial⟩
  · exact (Some'.weak (.nil _))
  · rintro k fr hinv
    show Run _ _ (over _ _ [(9, .int .i64 (((k : Nat) : Int)))] fr) []
    try dsimp only at hinv
    refine Run.seq ?_
    refine Run.region ?_
    refine Run.q (v := .bool (decide ((((k : Nat) : Int)) < (((n : Nat) : Int))))) rfl (OpQ.y (OpY.pure rfl)) ?_
    refine Run.done ?_
    refine Run.seq ?_
    refine Run.cond (b := decide ((((k : Nat) : Int)) < (((n : Nat) : Int)))) rfl (fun h10 => ?_) (fun h10 => ?_)
    · have p10 := h10; try simp only [bs] at p10
      have hltk : k < n := by omega
      obtain ⟨b, o, rfl⟩ := ha.opn (by omega)
      refine Run.skip ?_
      refine Run.seq ?_
      refine Run.block ?_
      refine Run.seq ?_
      refine Run.region ?_
      refine Run.q (v := .pointer (some ⟨b, o + k, none⟩)) rfl (OpQ.y (OpY.index (kk := k) Tsl_28 rfl rfl (by omega) (by omega) (by first | rfl | omega))) ?_
      refine Run.q (v := .int .i64 (ix xs (k))) rfl (OpQ.y (OpY.load1 Tone_3 rfl (Cells.arg (k := k) ha rfl (by omega) (pre1 (by omega))))) ?_
      refine Run.q (v := .int .i64 (ix xs (k))) rfl (OpQ.y (OpY.pure rfl)) ?_
      refine Run.done ?_
      refine Run.seq ?_
      refine Run.region ?_
      refine Run.q (v := .int .i64 (ix xs (k))) rfl (OpQ.y (OpY.pure rfl)) ?_
      refine Run.q (v := .int .i64 x) rfl (OpQ.y (OpY.pure rfl)) ?_
      refine Run.q (v := .bool ((ix xs (k)) == x)) rfl (OpQ.y (OpY.pure rfl)) ?_
      refine Run.done ?_
      refine Run.cond (b := (ix xs (k)) == x) rfl (fun h15 => ?_) (fun h15 => ?_)
      · have p15 := h15; try simp only [bs] at p15
        refine Run.seq ?_
        have hres : hasI xs x n = true := anyI_true hltk (by simpa using p15)
        refine Run.region ?_
        refine Run.q (v := .bool true) rfl (OpQ.y (OpY.pure rfl)) ?_
        refine Run.done ?_
        refine Run.ret ?_
        refine ⟨.bool true, [], Out.one rfl rfl, (Some'.weak (.nil _)), ?_⟩
        show _ = _; rw [hres]
      · have p15 := h15; try simp only [bs] at p15
        refine Run.skip ?_
        refine Run.blockEnd ?_
        have hgood : decide (ix xs k = x) = false := by simpa using p15
        refine Run.region ?_
        refine Run.q (v := .int .i64 ((((k : Nat) : Int)) + 1)) rfl (OpQ.y (OpY.add rfl rfl rfl (by omega) (by omega))) ?_
        refine Run.q (v := .int .i64 ((((k : Nat) : Int)) + 1)) rfl (OpQ.y (OpY.pure rfl)) ?_
        refine Run.done ?_
        refine Run.goal ⟨(by repeat (first | exact Same.refl _ _ | refine Same.put rfl ?_ | refine Same.over rfl rfl ?_)), k + 1, ?_, ?_, ?_, ?_⟩
        · refine ⟨by omega, ?_⟩
          intro i hi
          rcases Nat.lt_succ_iff_lt_or_eq.1 hi with h | h
          · exact hinv.2 i h
          · rw [h]; exact hgood
        · omega
        · exact ⟨(by first | rfl | (congr 1; omega) | simp), trivial⟩
        · exact (Some'.weak (.nil _))
    · have p10 := h10; try simp only [bs] at p10
      have hknk : k = n := by omega
      have hres : hasI xs x n = false := by rw [← hknk]; exact anyI_false hinv.2
      refine Run.exit rfl ?_
      refine Run.seq ?_
      refine Run.region ?_
      refine Run.q (v := .bool false) rfl (OpQ.y (OpY.pure rfl)) ?_
      refine Run.done ?_
      refine Run.ret ?_
      refine ⟨.bool false, [], Out.one rfl rfl, (Some'.weak (.nil _)), ?_⟩
      show _ = _; rw [hres]

set_option maxHeartbeats 1000000 in
set_option maxRecDepth 20000 in
theorem IndexInt_spec {va : Value} {n : Nat} {xs : List Int} {x : Int} {w : World} (ha : Sl w va 1 n (ints xs)) : Calls Try.prog 88 #[va, .int .i64 x] w (Post No w fun v _ => v = .int .i64 (findI (fun i => decide (ix xs i = x)) n)) := by
  have hxl := ha.len
  have hn := ha.le
  obtain ⟨A, c, rfl, _, _⟩ := ha.form0
  refine enter (n := 19) (args := [.slice A n c, .int .i64 x]) Try.func88 rfl rfl (St.empty _ _) ?_
  refine Run.seq ?_
  refine Run.region ?_
  refine Run.q (v := .int .i64 0) rfl (OpQ.y (OpY.pure rfl)) ?_
  refine Run.done ?_
  refine Run.seq ?_
  refine Run.seq ?_
  refine Run.region ?_
  refine Run.q (v := .slice A n c) rfl (OpQ.y (OpY.pure rfl)) ?_
  refine Run.q (v := .int .i64 (((n : Nat) : Int))) rfl (OpQ.y (OpY.len Tsl_28 rfl)) ?_
  refine Run.q (v := .int .i64 0) rfl (OpQ.y (OpY.pure rfl)) ?_
  refine Run.done ?_
  refine Run.block ?_
  refine Run.loop (ι := Nat) [4, 5, 8, 9, 10, 11, 12, 13, 14, 15, 16, 17, 18] (fun k => [(8, .int .i64 (((k : Nat) : Int)))]) (fun k => []) (fun k => k ≤ n ∧ (∀ i, i < k → decide (ix xs i = x) = false)) (fun k => n - k) 0 ?_ ?_ ?_ ?_
  · exact ⟨Nat.zero_le _, by first | trivial | (intro i hi; omega)⟩
  · exact ⟨rfl, trivial⟩
  · exact (Some'.weak (.nil _))
  · rintro k fr hinv
    show Run _ _ (over _ _ [(8, .int .i64 (((k : Nat) : Int)))] fr) []
    try dsimp only at hinv
    refine Run.seq ?_
    refine Run.region ?_
    refine Run.q (v := .bool (decide ((((k : Nat) : Int)) < (((n : Nat) : Int))))) rfl (OpQ.y (OpY.pure rfl)) ?_
    refine Run.done ?_
    refine Run.seq ?_
    refine Run.cond (b := decide ((((k : Nat) : Int)) < (((n : Nat) : Int)))) rfl (fun h9 => ?_) (fun h9 => ?_)
    · have p9 := h9; try simp only [bs] at p9
      have hltk : k < n := by omega
      obtain ⟨b, o, rfl⟩ := ha.opn (by omega)
      refine Run.skip ?_
      refine Run.seq ?_
      refine Run.block ?_
      refine Run.seq ?_
      refine Run.region ?_
      refine Run.q (v := .int .i64 (((k : Nat) : Int))) rfl (OpQ.y (OpY.pure rfl)) ?_
      refine Run.q (v := .int .i64 (((k : Nat) : Int))) rfl (OpQ.y (OpY.pure rfl)) ?_
      refine Run.done ?_
      refine Run.seq ?_
      refine Run.region ?_
      refine Run.q (v := .int .i64 x) rfl (OpQ.y (OpY.pure rfl)) ?_
      refine Run.q (v := .slice (some ⟨b, o, none⟩) n c) rfl (OpQ.y (OpY.pure rfl)) ?_
      refine Run.q (v := .int .i64 (((k : Nat) : Int))) rfl (OpQ.y (OpY.pure rfl)) ?_
      refine Run.q (v := .pointer (some ⟨b, o + k, none⟩)) rfl (OpQ.y (OpY.index (kk := k) Tsl_28 rfl rfl (by omega) (by omega) (by first | rfl | omega))) ?_
      refine Run.q (v := .int .i64 (ix xs (k))) rfl (OpQ.y (OpY.load1 Tone_3 rfl (Cells.arg (k := k) ha rfl (by omega) (pre1 (by omega))))) ?_
      refine Run.q (v := .bool (x == (ix xs (k)))) rfl (OpQ.y (OpY.pure rfl)) ?_
      refine Run.done ?_
      refine Run.cond (b := x == (ix xs (k))) rfl (fun h16 => ?_) (fun h16 => ?_)
      · have p16 := h16; try simp only [bs] at p16
        refine Run.seq ?_
        have hres : findI (fun i => decide (ix xs i = x)) n = k := findI_hit hinv.2 (by simp; omega) hltk
        refine Run.region ?_
        refine Run.q (v := .int .i64 (((k : Nat) : Int))) rfl (OpQ.y (OpY.pure rfl)) ?_
        refine Run.q (v := .int .i64 (((k : Nat) : Int))) rfl (OpQ.y (OpY.pure rfl)) ?_
        refine Run.done ?_
        refine Run.ret ?_
        refine ⟨.int .i64 (((k : Nat) : Int)), [], Out.one rfl rfl, (Some'.weak (.nil _)), ?_⟩
        show _ = _; rw [hres]
      · have p16 := h16; try simp only [bs] at p16
        refine Run.skip ?_
        refine Run.blockEnd ?_
        have hgood : decide (ix xs k = x) = false := by simp; omega
        refine Run.region ?_
        refine Run.q (v := .int .i64 ((((k : Nat) : Int)) + 1)) rfl (OpQ.y (OpY.add rfl rfl rfl (by omega) (by omega))) ?_
        refine Run.q (v := .int .i64 ((((k : Nat) : Int)) + 1)) rfl (OpQ.y (OpY.pure rfl)) ?_
        refine Run.done ?_
        refine Run.goal ⟨(by repeat (first | exact Same.refl _ _ | refine Same.put rfl ?_ | refine Same.over rfl rfl ?_)), k + 1, ?_, ?_, ?_, ?_⟩
        · refine ⟨by omega, ?_⟩
          intro i hi
          rcases Nat.lt_succ_iff_lt_or_eq.1 hi with h | h
          · exact hinv.2 i h
          · rw [h]; exact hgood
        · omega
        · exact ⟨(by first | rfl | (congr 1; omega) | simp), trivial⟩
        · exact (Some'.weak (.nil _))
    · have p9 := h9; try simp only [bs] at p9
      have hknk : k = n := by omega
      have hres : findI (fun i => decide (ix xs i = x)) n = -1 := by rw [← hknk]; exact findI_none hinv.2
      refine Run.exit rfl ?_
      refine Run.seq ?_
      refine Run.region ?_
      refine Run.q (v := .int .i64 (-1)) rfl (OpQ.y (OpY.pure rfl)) ?_
      refine Run.done ?_
      refine Run.ret ?_
      refine ⟨.int .i64 (-1), [], Out.one rfl rfl, (Some'.weak (.nil _)), ?_⟩
      show _ = _; rw [hres]

set_option maxHeartbeats 1000000 in
set_option maxRecDepth 20000 in
theorem ContainsInt_spec {va : Value} {n : Nat} {xs : List Int} {x : Int} {w : World} (ha : Sl w va 1 n (ints xs)) : Calls Try.prog 72 #[va, .int .i64 x] w (Post No w fun v _ => v = .bool (hasI xs x n)) := by
  refine enter (n := 9) (args := [va, .int .i64 x]) Try.func72 rfl rfl (St.empty _ _) ?_
  refine Run.seq ?_
  refine Run.region ?_
  refine Run.q (v := .bool false) rfl (OpQ.y (OpY.pure rfl)) ?_
  refine Run.done ?_
  refine Run.seq ?_
  refine Run.region ?_
  refine Run.q (v := va) rfl (OpQ.y (OpY.pure rfl)) ?_
  refine Run.q (v := .int .i64 x) rfl (OpQ.y (OpY.pure rfl)) ?_
  refine Run.q (v := .int .i64 (findI (fun i => decide (ix xs i = x)) n)) rfl (OpQ.call (vs := [va, .int .i64 x]) (caps := []) Tcall_88 rfl rfl (fun w hs => IndexInt_spec (hs.sl ha))) ?_
  refine Run.q (v := .bool (decide ((findI (fun i => decide (ix xs i = x)) n) ≥ 0))) rfl (OpQ.y (OpY.pure rfl)) ?_
  refine Run.q (v := .bool (decide ((findI (fun i => decide (ix xs i = x)) n) ≥ 0))) rfl (OpQ.y (OpY.pure rfl)) ?_
  refine Run.done ?_
  refine Run.ret ?_
  refine ⟨.bool (decide ((findI (fun i => decide (ix xs i = x)) n) ≥ 0)), [], Out.one rfl rfl, (Some'.weak (.nil _)), ?_⟩
  show _ = _; rw [findI_ge]; rfl


def edgeAt (xs : List Int) (a b : Int) (i : Nat) : Bool := decide (ix xs (i * 2) = a ∧ ix xs (i * 2 + 1) = b ∨ ix xs (i * 2) = b ∧ ix xs (i * 2 + 1) = a)
def joinAt (xs : List Int) (a b : Int) (i : Nat) : Bool := decide (ix xs (i * 2) = a ∧ ix xs (i * 2 + 1) = b)
/-- Two nodes are connected. -/
def adj (xs : List Int) (n : Nat) (a b : Int) : Bool := anyI (edgeAt xs a b) n
theorem adj_join {N : Int} {xs : List Int} {n : Nat} (h : edgesOk N xs n = true) {a b : Int} (hab : a ≠ b) : anyI (joinAt xs (min a b) (max a b)) n = adj xs n a b := by
  refine anyI_congr fun i hi => ?_
  have h1 := (of_decide_eq_true h) i hi
  simp only [edgeOk] at h1
  unfold joinAt edgeAt
  rw [decide_eq_decide]
  omega
theorem adj_comm (xs : List Int) (n : Nat) (a b : Int) : adj xs n a b = adj xs n b a := anyI_congr fun i _ => by
  unfold edgeAt
  rw [decide_eq_decide]
  omega
theorem cgOk_N {N : Int} {xs : List Int} {n : Nat} (h : cgOk N xs n = true) : 1 ≤ N ∧ N ≤ 8 := by
  simp only [cgOk, Bool.and_eq_true] at h; exact within_iff.1 h.1
theorem cgOk_edges {N : Int} {xs : List Int} {n : Nat} (h : cgOk N xs n = true) : edgesOk N xs n = true := by
  simp only [cgOk, Bool.and_eq_true] at h; exact h.2
def placeOk (N : Int) (xs : List Int) (m : Nat) : Bool := allI (fun i => within (ix xs i) 0 (N - 1) && !hasI xs (ix xs i) i) m
def nbL (N : Int) (xs : List Int) (n : Nat) (node : Int) : List Int := filterL (fun k => adj xs n node k) N.toNat

set_option maxHeartbeats 1000000 in
set_option maxRecDepth 20000 in
theorem l22Edge_spec {N a b : Int} {va : Value} {n : Nat} {xs : List Int} {w : World} (ha : Sl w va 2 n (ints xs)) : Calls Try.prog 93 #[.agg #[.int .i64 N, va], .int .i64 a, .int .i64 b] w (Post No w fun v _ => v = .bool (adj xs n a b)) := by
  have hxl := ha.len
  have hn := ha.le
  obtain ⟨A, cc, rfl, _, _⟩ := ha.form0
  refine enter (n := 39) (args := [.agg #[.int .i64 N, .slice A n cc], .int .i64 a, .int .i64 b]) Try.func93 rfl rfl (St.empty _ _) ?_
  refine Run.seq ?_
  refine Run.region ?_
  refine Run.step rfl (OpStep.box (us := [.int .i64 N, .slice A n cc]) rfl fun b1 => ?_)
  refine Run.q (v := .bool false) rfl (OpQ.y (OpY.pure rfl)) ?_
  refine Run.done ?_
  refine Run.seq ?_
  refine Run.seq ?_
  refine Run.region ?_
  refine Run.q (v := .pointer (some ⟨b1, 1, none⟩)) rfl (OpQ.y (OpY.fieldAddr Tfo_35_1 rfl rfl)) ?_
  refine Run.q (v := .slice A n cc) rfl (OpQ.y (OpY.load1 Tone_33 rfl (Cells.blk (.head _) ⟨rfl, trivial⟩))) ?_
  refine Run.q (v := .int .i64 (((n : Nat) : Int))) rfl (OpQ.y (OpY.len Tsl_33 rfl)) ?_
  refine Run.q (v := .int .i64 0) rfl (OpQ.y (OpY.pure rfl)) ?_
  refine Run.done ?_
  refine Run.block ?_
  refine Run.loop (ι := Nat) [6, 8, 12, 13, 14, 15, 16, 17, 18, 19, 20, 21, 22, 23, 24, 25, 26, 27, 28, 29, 30, 31, 32, 33, 34, 35, 36, 37, 38] (fun k => [(12, .int .i64 (((k : Nat) : Int)))]) (fun k => [.blk b1 35 [.int .i64 N, .slice A n cc]]) (fun k => k ≤ n ∧ (∀ i, i < k → edgeAt xs a b i = false)) (fun k => n - k) 0 ?_ ?_ ?_ ?_
  · exact ⟨Nat.zero_le _, by first | trivial | (intro i hi; omega)⟩
  · exact ⟨rfl, trivial⟩
  · exact (Some'.weak (.take (.nil _)))
  · rintro k fr hinv
    show Run _ _ (over _ _ [(12, .int .i64 (((k : Nat) : Int)))] fr) [.blk b1 35 [.int .i64 N, .slice A n cc]]
    try dsimp only at hinv
    refine Run.seq ?_
    refine Run.region ?_
    refine Run.q (v := .bool (decide ((((k : Nat) : Int)) < (((n : Nat) : Int))))) rfl (OpQ.y (OpY.pure rfl)) ?_
    refine Run.done ?_
    refine Run.seq ?_
    refine Run.cond (b := decide ((((k : Nat) : Int)) < (((n : Nat) : Int)))) rfl (fun h13 => ?_) (fun h13 => ?_)
    · have p13 := h13; try simp only [bs] at p13
      have hltk : k < n := by omega
      obtain ⟨bb, o, rfl⟩ := ha.opn (by omega)
      refine Run.skip ?_
      refine Run.seq ?_
      refine Run.block ?_
      refine Run.seq ?_
      refine Run.region ?_
      refine Run.q (v := .pointer (some ⟨bb, o + k * 2, none⟩)) rfl (OpQ.y (OpY.index (kk := k) Tsl_33 rfl rfl (by omega) (by omega) (by first | rfl | omega))) ?_
      refine Run.q (v := .agg #[.int .i64 (ix xs (k * 2)), .int .i64 (ix xs (k * 2 + 1))]) rfl (OpQ.y (OpY.loadN (cs := [.int .i64 (ix xs (k * 2)), .int .i64 (ix xs (k * 2 + 1))]) Tagg_77 rfl (Cells.arg (k := k * 2) ha rfl (by omega) (pre2 (by omega))))) ?_
      refine Run.step rfl (OpStep.alloc (zs := [.int .i64 0, .int .i64 0]) Tzero_77 fun b2 => ?_)
      refine Run.step rfl (OpStep.storeAll (us := [.int .i64 (ix xs (k * 2)), .int .i64 (ix xs (k * 2 + 1))]) Tsize_77 rfl rfl rfl (.here _) rfl ?_)
      refine Run.done ?_
      refine Run.seq ?_
      refine Run.region ?_
      refine Run.q (v := .pointer (some ⟨b2, 0, none⟩)) rfl (OpQ.y (OpY.fieldAddr Tfo_77_0 rfl rfl)) ?_
      refine Run.q (v := .int .i64 (ix xs (k * 2))) rfl (OpQ.y (OpY.load1 Tone_3 rfl (Cells.blk (.head _) ⟨rfl, trivial⟩))) ?_
      refine Run.q (v := .int .i64 a) rfl (OpQ.y (OpY.pure rfl)) ?_
      refine Run.q (v := .bool ((ix xs (k * 2)) == a)) rfl (OpQ.y (OpY.pure rfl)) ?_
      rcases Bool.eq_false_or_eq_true ((ix xs (k * 2)) == a) with h20 | h20
      · refine Run.q (v := .bool true) rfl (OpQ.y (OpY.moveB rfl h20)) ?_
        have p20 := h20; try simp only [bs] at p20
        refine Run.q (v := .pointer (some ⟨b2, 1, none⟩)) rfl (OpQ.y (OpY.fieldAddr Tfo_77_1 rfl rfl)) ?_
        refine Run.q (v := .int .i64 (ix xs (k * 2 + 1))) rfl (OpQ.y (OpY.load1 Tone_3 rfl (Cells.blk (.head _) ⟨rfl, trivial⟩))) ?_
        refine Run.q (v := .int .i64 b) rfl (OpQ.y (OpY.pure rfl)) ?_
        refine Run.q (v := .bool ((ix xs (k * 2 + 1)) == b)) rfl (OpQ.y (OpY.pure rfl)) ?_
        refine Run.q (v := .bool ((ix xs (k * 2 + 1)) == b)) rfl (OpQ.y (OpY.pure rfl)) ?_
        rcases Bool.eq_false_or_eq_true ((ix xs (k * 2 + 1)) == b) with h26 | h26
        · refine Run.q (v := .bool true) rfl (OpQ.y (OpY.moveB rfl h26)) ?_
          have p26 := h26; try simp only [bs] at p26
          refine Run.pass rfl ?_
          refine Run.pass rfl ?_
          refine Run.pass rfl ?_
          refine Run.pass rfl ?_
          refine Run.pass rfl ?_
          refine Run.pass rfl ?_
          refine Run.pass rfl ?_
          refine Run.pass rfl ?_
          refine Run.pass rfl ?_
          refine Run.pass rfl ?_
          refine Run.q (v := .bool true) rfl (OpQ.y (OpY.pure rfl)) ?_
          refine Run.done ?_
          refine Run.cond (b := true) rfl (fun _ => ?_) (fun h => nomatch h)
          refine Run.seq ?_
          have hres : adj xs n a b = true := anyI_true hltk (by simp only [edgeAt, decide_eq_true_eq]; omega)
          refine Run.region ?_
          refine Run.q (v := .bool true) rfl (OpQ.y (OpY.pure rfl)) ?_
          refine Run.done ?_
          refine Run.ret ?_
          refine ⟨.bool true, [], Out.one rfl rfl, (Some'.weak (.nil _)), ?_⟩
          show _ = _; rw [hres]
        · refine Run.q (v := .bool false) rfl (OpQ.y (OpY.moveB rfl h26)) ?_
          have p26 := h26; try simp only [bs] at p26
          refine Run.q (v := .pointer (some ⟨b2, 0, none⟩)) rfl (OpQ.y (OpY.fieldAddr Tfo_77_0 rfl rfl)) ?_
          refine Run.q (v := .int .i64 (ix xs (k * 2))) rfl (OpQ.y (OpY.load1 Tone_3 rfl (Cells.blk (.head _) ⟨rfl, trivial⟩))) ?_
          refine Run.q (v := .int .i64 b) rfl (OpQ.y (OpY.pure rfl)) ?_
          refine Run.q (v := .bool ((ix xs (k * 2)) == b)) rfl (OpQ.y (OpY.pure rfl)) ?_
          rcases Bool.eq_false_or_eq_true ((ix xs (k * 2)) == b) with h31 | h31
          · refine Run.q (v := .bool true) rfl (OpQ.y (OpY.moveB rfl h31)) ?_
            have p31 := h31; try simp only [bs] at p31
            refine Run.q (v := .pointer (some ⟨b2, 1, none⟩)) rfl (OpQ.y (OpY.fieldAddr Tfo_77_1 rfl rfl)) ?_
            refine Run.q (v := .int .i64 (ix xs (k * 2 + 1))) rfl (OpQ.y (OpY.load1 Tone_3 rfl (Cells.blk (.head _) ⟨rfl, trivial⟩))) ?_
            refine Run.q (v := .int .i64 a) rfl (OpQ.y (OpY.pure rfl)) ?_
            refine Run.q (v := .bool ((ix xs (k * 2 + 1)) == a)) rfl (OpQ.y (OpY.pure rfl)) ?_
            refine Run.q (v := .bool ((ix xs (k * 2 + 1)) == a)) rfl (OpQ.y (OpY.pure rfl)) ?_
            refine Run.q (v := .bool ((ix xs (k * 2 + 1)) == a)) rfl (OpQ.y (OpY.pure rfl)) ?_
            refine Run.done ?_
            refine Run.cond (b := (ix xs (k * 2 + 1)) == a) rfl (fun h37 => ?_) (fun h37 => ?_)
            · have p37 := h37; try simp only [bs] at p37
              refine Run.seq ?_
              have hres : adj xs n a b = true := anyI_true hltk (by simp only [edgeAt, decide_eq_true_eq]; omega)
              refine Run.region ?_
              refine Run.q (v := .bool true) rfl (OpQ.y (OpY.pure rfl)) ?_
              refine Run.done ?_
              refine Run.ret ?_
              refine ⟨.bool true, [], Out.one rfl rfl, (Some'.weak (.nil _)), ?_⟩
              show _ = _; rw [hres]
            · have p37 := h37; try simp only [bs] at p37
              refine Run.skip ?_
              refine Run.blockEnd ?_
              have hgood : edgeAt xs a b k = false := by simp only [edgeAt, decide_eq_false_iff_not]; omega
              refine Run.region ?_
              refine Run.q (v := .int .i64 ((((k : Nat) : Int)) + 1)) rfl (OpQ.y (OpY.add rfl rfl rfl (by omega) (by omega))) ?_
              refine Run.q (v := .int .i64 ((((k : Nat) : Int)) + 1)) rfl (OpQ.y (OpY.pure rfl)) ?_
              refine Run.done ?_
              refine Run.goal ⟨(by repeat (first | exact Same.refl _ _ | refine Same.put rfl ?_ | refine Same.over rfl rfl ?_)), k + 1, ?_, ?_, ?_, ?_⟩
              · refine ⟨by omega, ?_⟩
                intro i hi
                rcases Nat.lt_succ_iff_lt_or_eq.1 hi with h | h
                · exact hinv.2 i h
                · rw [h]; exact hgood
              · omega
              · exact ⟨(by first | rfl | (congr 1; omega) | simp), trivial⟩
              · exact (Some'.weak (.skip (.takeEq (by first | rfl | simp) (.nil _))))
          · refine Run.q (v := .bool false) rfl (OpQ.y (OpY.moveB rfl h31)) ?_
            have p31 := h31; try simp only [bs] at p31
            refine Run.pass rfl ?_
            refine Run.pass rfl ?_
            refine Run.pass rfl ?_
            refine Run.pass rfl ?_
            refine Run.q (v := .bool false) rfl (OpQ.y (OpY.pure rfl)) ?_
            refine Run.q (v := .bool false) rfl (OpQ.y (OpY.pure rfl)) ?_
            refine Run.done ?_
            refine Run.cond (b := false) rfl (fun h => nomatch h) (fun _ => ?_)
            refine Run.skip ?_
            refine Run.blockEnd ?_
            have hgood : edgeAt xs a b k = false := by simp only [edgeAt, decide_eq_false_iff_not]; omega
            refine Run.region ?_
            refine Run.q (v := .int .i64 ((((k : Nat) : Int)) + 1)) rfl (OpQ.y (OpY.add rfl rfl rfl (by omega) (by omega))) ?_
            refine Run.q (v := .int .i64 ((((k : Nat) : Int)) + 1)) rfl (OpQ.y (OpY.pure rfl)) ?_
            refine Run.done ?_
            refine Run.goal ⟨(by repeat (first | exact Same.refl _ _ | refine Same.put rfl ?_ | refine Same.over rfl rfl ?_)), k + 1, ?_, ?_, ?_, ?_⟩
            · refine ⟨by omega, ?_⟩
              intro i hi
              rcases Nat.lt_succ_iff_lt_or_eq.1 hi with h | h
              · exact hinv.2 i h
              · rw [h]; exact hgood
            · omega
            · exact ⟨(by first | rfl | (congr 1; omega) | simp), trivial⟩
            · exact (Some'.weak (.skip (.takeEq (by first | rfl | simp) (.nil _))))
      · refine Run.q (v := .bool false) rfl (OpQ.y (OpY.moveB rfl h20)) ?_
        have p20 := h20; try simp only [bs] at p20
        refine Run.pass rfl ?_
        refine Run.pass rfl ?_
        refine Run.pass rfl ?_
        refine Run.pass rfl ?_
        refine Run.q (v := .bool false) rfl (OpQ.y (OpY.pure rfl)) ?_
        refine Run.q (v := .bool false) rfl (OpQ.y (OpY.pure rfl)) ?_
        refine Run.q (v := .pointer (some ⟨b2, 0, none⟩)) rfl (OpQ.y (OpY.fieldAddr Tfo_77_0 rfl rfl)) ?_
        refine Run.q (v := .int .i64 (ix xs (k * 2))) rfl (OpQ.y (OpY.load1 Tone_3 rfl (Cells.blk (.head _) ⟨rfl, trivial⟩))) ?_
        refine Run.q (v := .int .i64 b) rfl (OpQ.y (OpY.pure rfl)) ?_
        refine Run.q (v := .bool ((ix xs (k * 2)) == b)) rfl (OpQ.y (OpY.pure rfl)) ?_
        rcases Bool.eq_false_or_eq_true ((ix xs (k * 2)) == b) with h31 | h31
        · refine Run.q (v := .bool true) rfl (OpQ.y (OpY.moveB rfl h31)) ?_
          have p31 := h31; try simp only [bs] at p31
          refine Run.q (v := .pointer (some ⟨b2, 1, none⟩)) rfl (OpQ.y (OpY.fieldAddr Tfo_77_1 rfl rfl)) ?_
          refine Run.q (v := .int .i64 (ix xs (k * 2 + 1))) rfl (OpQ.y (OpY.load1 Tone_3 rfl (Cells.blk (.head _) ⟨rfl, trivial⟩))) ?_
          refine Run.q (v := .int .i64 a) rfl (OpQ.y (OpY.pure rfl)) ?_
          refine Run.q (v := .bool ((ix xs (k * 2 + 1)) == a)) rfl (OpQ.y (OpY.pure rfl)) ?_
          refine Run.q (v := .bool ((ix xs (k * 2 + 1)) == a)) rfl (OpQ.y (OpY.pure rfl)) ?_
          refine Run.q (v := .bool ((ix xs (k * 2 + 1)) == a)) rfl (OpQ.y (OpY.pure rfl)) ?_
          refine Run.done ?_
          refine Run.cond (b := (ix xs (k * 2 + 1)) == a) rfl (fun h37 => ?_) (fun h37 => ?_)
          · have p37 := h37; try simp only [bs] at p37
            refine Run.seq ?_
            have hres : adj xs n a b = true := anyI_true hltk (by simp only [edgeAt, decide_eq_true_eq]; omega)
            refine Run.region ?_
            refine Run.q (v := .bool true) rfl (OpQ.y (OpY.pure rfl)) ?_
            refine Run.done ?_
            refine Run.ret ?_
            refine ⟨.bool true, [], Out.one rfl rfl, (Some'.weak (.nil _)), ?_⟩
            show _ = _; rw [hres]
          · have p37 := h37; try simp only [bs] at p37
            refine Run.skip ?_
            refine Run.blockEnd ?_
            have hgood : edgeAt xs a b k = false := by simp only [edgeAt, decide_eq_false_iff_not]; omega
            refine Run.region ?_
            refine Run.q (v := .int .i64 ((((k : Nat) : Int)) + 1)) rfl (OpQ.y (OpY.add rfl rfl rfl (by omega) (by omega))) ?_
            refine Run.q (v := .int .i64 ((((k : Nat) : Int)) + 1)) rfl (OpQ.y (OpY.pure rfl)) ?_
            refine Run.done ?_
            refine Run.goal ⟨(by repeat (first | exact Same.refl _ _ | refine Same.put rfl ?_ | refine Same.over rfl rfl ?_)), k + 1, ?_, ?_, ?_, ?_⟩
            · refine ⟨by omega, ?_⟩
              intro i hi
              rcases Nat.lt_succ_iff_lt_or_eq.1 hi with h | h
              · exact hinv.2 i h
              · rw [h]; exact hgood
            · omega
            · exact ⟨(by first | rfl | (congr 1; omega) | simp), trivial⟩
            · exact (Some'.weak (.skip (.takeEq (by first | rfl | simp) (.nil _))))
        · refine Run.q (v := .bool false) rfl (OpQ.y (OpY.moveB rfl h31)) ?_
          have p31 := h31; try simp only [bs] at p31
          refine Run.pass rfl ?_
          refine Run.pass rfl ?_
          refine Run.pass rfl ?_
          refine Run.pass rfl ?_
          refine Run.q (v := .bool false) rfl (OpQ.y (OpY.pure rfl)) ?_
          refine Run.q (v := .bool false) rfl (OpQ.y (OpY.pure rfl)) ?_
          refine Run.done ?_
          refine Run.cond (b := false) rfl (fun h => nomatch h) (fun _ => ?_)
          refine Run.skip ?_
          refine Run.blockEnd ?_
          have hgood : edgeAt xs a b k = false := by simp only [edgeAt, decide_eq_false_iff_not]; omega
          refine Run.region ?_
          refine Run.q (v := .int .i64 ((((k : Nat) : Int)) + 1)) rfl (OpQ.y (OpY.add rfl rfl rfl (by omega) (by omega))) ?_
          refine Run.q (v := .int .i64 ((((k : Nat) : Int)) + 1)) rfl (OpQ.y (OpY.pure rfl)) ?_
          refine Run.done ?_
          refine Run.goal ⟨(by repeat (first | exact Same.refl _ _ | refine Same.put rfl ?_ | refine Same.over rfl rfl ?_)), k + 1, ?_, ?_, ?_, ?_⟩
          · refine ⟨by omega, ?_⟩
            intro i hi
            rcases Nat.lt_succ_iff_lt_or_eq.1 hi with h | h
            · exact hinv.2 i h
            · rw [h]; exact hgood
          · omega
          · exact ⟨(by first | rfl | (congr 1; omega) | simp), trivial⟩
          · exact (Some'.weak (.skip (.takeEq (by first | rfl | simp) (.nil _))))
    · have p13 := h13; try simp only [bs] at p13
      have hknk : k = n := by omega
      have hres : adj xs n a b = false := by rw [← hknk]; exact anyI_false hinv.2
      refine Run.exit rfl ?_
      refine Run.seq ?_
      refine Run.region ?_
      refine Run.q (v := .bool false) rfl (OpQ.y (OpY.pure rfl)) ?_
      refine Run.done ?_
      refine Run.ret ?_
      refine ⟨.bool false, [], Out.one rfl rfl, (Some'.weak (.nil _)), ?_⟩
      show _ = _; rw [hres]

set_option maxHeartbeats 1000000 in
set_option maxRecDepth 20000 in
theorem IndexEdge_spec {a b : Int} {va : Value} {n : Nat} {xs : List Int} {w : World} (ha : Sl w va 2 n (ints xs)) : Calls Try.prog 104 #[va, .agg #[.int .i64 a, .int .i64 b]] w (Post No w fun v _ => v = .int .i64 (findI (joinAt xs a b) n)) := by
  have hxl := ha.len
  have hn := ha.le
  obtain ⟨A, cc, rfl, _, _⟩ := ha.form0
  refine enter (n := 19) (args := [.slice A n cc, .agg #[.int .i64 a, .int .i64 b]]) Try.func104 rfl rfl (St.empty _ _) ?_
  refine Run.seq ?_
  refine Run.region ?_
  refine Run.step rfl (OpStep.box (us := [.int .i64 a, .int .i64 b]) rfl fun b1 => ?_)
  refine Run.q (v := .int .i64 0) rfl (OpQ.y (OpY.pure rfl)) ?_
  refine Run.done ?_
  refine Run.seq ?_
  refine Run.seq ?_
  refine Run.region ?_
  refine Run.q (v := .slice A n cc) rfl (OpQ.y (OpY.pure rfl)) ?_
  refine Run.q (v := .int .i64 (((n : Nat) : Int))) rfl (OpQ.y (OpY.len Tsl_33 rfl)) ?_
  refine Run.q (v := .int .i64 0) rfl (OpQ.y (OpY.pure rfl)) ?_
  refine Run.done ?_
  refine Run.block ?_
  refine Run.loop (ι := Nat) [4, 5, 8, 9, 10, 11, 12, 13, 14, 15, 16, 17, 18] (fun k => [(8, .int .i64 (((k : Nat) : Int)))]) (fun k => [.blk b1 77 [.int .i64 a, .int .i64 b]]) (fun k => k ≤ n ∧ (∀ i, i < k → joinAt xs a b i = false)) (fun k => n - k) 0 ?_ ?_ ?_ ?_
  · exact ⟨Nat.zero_le _, by first | trivial | (intro i hi; omega)⟩
  · exact ⟨rfl, trivial⟩
  · exact (Some'.weak (.take (.nil _)))
  · rintro k fr hinv
    show Run _ _ (over _ _ [(8, .int .i64 (((k : Nat) : Int)))] fr) [.blk b1 77 [.int .i64 a, .int .i64 b]]
    try dsimp only at hinv
    refine Run.seq ?_
    refine Run.region ?_
    refine Run.q (v := .bool (decide ((((k : Nat) : Int)) < (((n : Nat) : Int))))) rfl (OpQ.y (OpY.pure rfl)) ?_
    refine Run.done ?_
    refine Run.seq ?_
    refine Run.cond (b := decide ((((k : Nat) : Int)) < (((n : Nat) : Int)))) rfl (fun h9 => ?_) (fun h9 => ?_)
    · have p9 := h9; try simp only [bs] at p9
      have hltk : k < n := by omega
      obtain ⟨bb, o, rfl⟩ := ha.opn (by omega)
      refine Run.skip ?_
      refine Run.seq ?_
      refine Run.block ?_
      refine Run.seq ?_
      refine Run.region ?_
      refine Run.q (v := .int .i64 (((k : Nat) : Int))) rfl (OpQ.y (OpY.pure rfl)) ?_
      refine Run.q (v := .int .i64 (((k : Nat) : Int))) rfl (OpQ.y (OpY.pure rfl)) ?_
      refine Run.done ?_
      refine Run.seq ?_
      refine Run.draws (by kernel_rfl) (by kernel_rfl) ?_
      refine Lex.q (v := .agg #[.int .i64 a, .int .i64 b]) rfl (OpQ.y (OpY.loadN (cs := [.int .i64 a, .int .i64 b]) Tagg_77 rfl (Cells.blk (.head _) ⟨rfl, rfl, trivial⟩))) ?_
      refine Lex.q (v := .slice (some ⟨bb, o, none⟩) n cc) rfl (OpQ.y (OpY.pure rfl)) ?_
      refine Lex.q (v := .int .i64 (((k : Nat) : Int))) rfl (OpQ.y (OpY.pure rfl)) ?_
      refine Lex.q (v := .pointer (some ⟨bb, o + k * 2, none⟩)) rfl (OpQ.y (OpY.index (kk := k) Tsl_33 rfl rfl (by omega) (by omega) (by first | rfl | omega))) ?_
      refine Lex.q (v := .agg #[.int .i64 (ix xs (k * 2)), .int .i64 (ix xs (k * 2 + 1))]) rfl (OpQ.y (OpY.loadN (cs := [.int .i64 (ix xs (k * 2)), .int .i64 (ix xs (k * 2 + 1))]) Tagg_77 rfl (Cells.arg (k := k * 2) ha rfl (by omega) (pre2 (by omega))))) ?_
      refine Lex.q (v := .bool (decide ([a, b] = [ix xs (k * 2), ix xs (k * 2 + 1)]))) rfl (OpQ.y (OpY.eqStruct (xs := [a, b]) (ys := [ix xs (k * 2), ix xs (k * 2 + 1)]) Tns_77_2 rfl rfl rfl rfl)) ?_
      refine Lex.done ?_
      refine Run.cond (b := decide ([a, b] = [ix xs (k * 2), ix xs (k * 2 + 1)])) rfl (fun h16 => ?_) (fun h16 => ?_)
      · have p16 := h16; try simp only [bs] at p16
        refine Run.seq ?_
        have hres : findI (joinAt xs a b) n = k := findI_hit hinv.2 (by simp only [joinAt, decide_eq_true_eq]; omega) hltk
        refine Run.region ?_
        refine Run.q (v := .int .i64 (((k : Nat) : Int))) rfl (OpQ.y (OpY.pure rfl)) ?_
        refine Run.q (v := .int .i64 (((k : Nat) : Int))) rfl (OpQ.y (OpY.pure rfl)) ?_
        refine Run.done ?_
        refine Run.ret ?_
        refine ⟨.int .i64 (((k : Nat) : Int)), [], Out.one rfl rfl, (Some'.weak (.nil _)), ?_⟩
        show _ = _; rw [hres]
      · have p16 := h16; try simp only [bs] at p16
        refine Run.skip ?_
        refine Run.blockEnd ?_
        have hgood : joinAt xs a b k = false := by simp only [joinAt, decide_eq_false_iff_not]; omega
        refine Run.region ?_
        refine Run.q (v := .int .i64 ((((k : Nat) : Int)) + 1)) rfl (OpQ.y (OpY.add rfl rfl rfl (by omega) (by omega))) ?_
        refine Run.q (v := .int .i64 ((((k : Nat) : Int)) + 1)) rfl (OpQ.y (OpY.pure rfl)) ?_
        refine Run.done ?_
        refine Run.goal ⟨(by repeat (first | exact Same.refl _ _ | refine Same.put rfl ?_ | refine Same.over rfl rfl ?_)), k + 1, ?_, ?_, ?_, ?_⟩
        · refine ⟨by omega, ?_⟩
          intro i hi
          rcases Nat.lt_succ_iff_lt_or_eq.1 hi with h | h
          · exact hinv.2 i h
          · rw [h]; exact hgood
        · omega
        · exact ⟨(by first | rfl | (congr 1; omega) | simp), trivial⟩
        · exact (Some'.weak (.take (.nil _)))
    · have p9 := h9; try simp only [bs] at p9
      have hknk : k = n := by omega
      have hres : findI (joinAt xs a b) n = -1 := by rw [← hknk]; exact findI_none hinv.2
      refine Run.exit rfl ?_
      refine Run.seq ?_
      refine Run.region ?_
      refine Run.q (v := .int .i64 (-1)) rfl (OpQ.y (OpY.pure rfl)) ?_
      refine Run.done ?_
      refine Run.ret ?_
      refine ⟨.int .i64 (-1), [], Out.one rfl rfl, (Some'.weak (.nil _)), ?_⟩
      show _ = _; rw [hres]

set_option maxHeartbeats 1000000 in
set_option maxRecDepth 20000 in
theorem ContainsEdge_spec {a b : Int} {va : Value} {n : Nat} {xs : List Int} {w : World} (ha : Sl w va 2 n (ints xs)) : Calls Try.prog 101 #[va, .agg #[.int .i64 a, .int .i64 b]] w (Post No w fun v _ => v = .bool (anyI (joinAt xs a b) n)) := by
  refine enter (n := 9) (args := [va, .agg #[.int .i64 a, .int .i64 b]]) Try.func101 rfl rfl (St.empty _ _) ?_
  refine Run.seq ?_
  refine Run.region ?_
  refine Run.step rfl (OpStep.box (us := [.int .i64 a, .int .i64 b]) rfl fun b1 => ?_)
  refine Run.q (v := .bool false) rfl (OpQ.y (OpY.pure rfl)) ?_
  refine Run.done ?_
  refine Run.seq ?_
  refine Run.region ?_
  refine Run.q (v := va) rfl (OpQ.y (OpY.pure rfl)) ?_
  refine Run.q (v := .agg #[.int .i64 a, .int .i64 b]) rfl (OpQ.y (OpY.loadN (cs := [.int .i64 a, .int .i64 b]) Tagg_77 rfl (Cells.blk (.head _) ⟨rfl, rfl, trivial⟩))) ?_
  refine Run.q (v := .int .i64 (findI (joinAt xs a b) n)) rfl (OpQ.call (vs := [va, .agg #[.int .i64 a, .int .i64 b]]) (caps := []) Tcall_104 rfl rfl (fun w hs => IndexEdge_spec (hs.sl ha))) ?_
  refine Run.q (v := .bool (decide ((findI (joinAt xs a b) n) ≥ 0))) rfl (OpQ.y (OpY.pure rfl)) ?_
  refine Run.q (v := .bool (decide ((findI (joinAt xs a b) n) ≥ 0))) rfl (OpQ.y (OpY.pure rfl)) ?_
  refine Run.done ?_
  refine Run.ret ?_
  refine ⟨.bool (decide ((findI (joinAt xs a b) n) ≥ 0)), [], Out.one rfl rfl, (Some'.weak (.nil _)), ?_⟩
  show _ = _; rw [findI_ge]

set_option maxHeartbeats 1000000 in
set_option maxRecDepth 20000 in
theorem joins_spec {N a b : Int} {va : Value} {n : Nat} {xs : List Int} {w : World} (ha : Sl w va 2 n (ints xs)) : Calls Try.prog 90 #[.agg #[.int .i64 N, va], .int .i64 a, .int .i64 b] w (Post No w fun v _ => v = .bool (anyI (joinAt xs (min a b) (max a b)) n)) := by
  refine enter (n := 17) (args := [.agg #[.int .i64 N, va], .int .i64 a, .int .i64 b]) Try.func90 rfl rfl (St.empty _ _) ?_
  refine Run.seq ?_
  refine Run.region ?_
  refine Run.step rfl (OpStep.box (us := [.int .i64 N, va]) rfl fun b1 => ?_)
  refine Run.q (v := .bool false) rfl (OpQ.y (OpY.pure rfl)) ?_
  refine Run.done ?_
  refine Run.seq ?_
  refine Run.region ?_
  refine Run.q (v := .pointer (some ⟨b1, 1, none⟩)) rfl (OpQ.y (OpY.fieldAddr Tfo_35_1 rfl rfl)) ?_
  refine Run.q (v := va) rfl (OpQ.y (OpY.load1 Tone_33 rfl (Cells.blk (.head _) ⟨rfl, trivial⟩))) ?_
  refine Run.q (v := .int .i64 a) rfl (OpQ.y (OpY.pure rfl)) ?_
  refine Run.q (v := .int .i64 b) rfl (OpQ.y (OpY.pure rfl)) ?_
  refine Run.q (v := .int .i64 (min a b)) rfl (OpQ.y (OpY.min rfl rfl)) ?_
  refine Run.q (v := .int .i64 a) rfl (OpQ.y (OpY.pure rfl)) ?_
  refine Run.q (v := .int .i64 b) rfl (OpQ.y (OpY.pure rfl)) ?_
  refine Run.q (v := .int .i64 (max a b)) rfl (OpQ.y (OpY.max rfl rfl)) ?_
  refine Run.q (v := .agg #[.int .i64 (min a b), .int .i64 (max a b)]) rfl (OpQ.y (OpY.build (cs := [.int .i64 (min a b), .int .i64 (max a b)]) (by kernel_rfl))) ?_
  refine Run.q (v := .bool (anyI (joinAt xs (min a b) (max a b)) n)) rfl (OpQ.call (vs := [va, .agg #[.int .i64 (min a b), .int .i64 (max a b)]]) (caps := []) Tcall_101 rfl rfl (fun w hs => ContainsEdge_spec (hs.sl ha))) ?_
  refine Run.q (v := .bool (anyI (joinAt xs (min a b) (max a b)) n)) rfl (OpQ.y (OpY.pure rfl)) ?_
  refine Run.done ?_
  refine Run.ret ?_
  refine ⟨.bool (anyI (joinAt xs (min a b) (max a b)) n), [], Out.one rfl rfl, (Some'.weak (.nil _)), ?_⟩
  rfl

set_option maxHeartbeats 1000000 in
set_option maxRecDepth 20000 in
theorem isPlacement_spec {N q : Int} {vg va : Value} {n : Nat} {xs : List Int} {w : World} (hN : 1 ≤ N ∧ N ≤ 8) (ha : Sl w va 1 n (ints xs)) : Calls Try.prog 49 #[.agg #[.int .i64 N, vg], .int .i64 q, va] w (Post No w fun v _ => v = .bool (placeOk N xs n && decide ((n : Int) = q))) := by
  have hxl := ha.len
  have hn := ha.le
  obtain ⟨A, c, rfl, _, _⟩ := ha.form0
  refine enter (n := 34) (args := [.agg #[.int .i64 N, vg], .int .i64 q, .slice A n c]) Try.func49 rfl rfl (St.empty _ _) ?_
  refine Run.seq ?_
  refine Run.region ?_
  refine Run.step rfl (OpStep.box (us := [.int .i64 N, vg]) rfl fun b1 => ?_)
  refine Run.q (v := .bool false) rfl (OpQ.y (OpY.pure rfl)) ?_
  refine Run.done ?_
  refine Run.seq ?_
  refine Run.seq ?_
  refine Run.region ?_
  refine Run.q (v := .slice A n c) rfl (OpQ.y (OpY.pure rfl)) ?_
  refine Run.q (v := .int .i64 (((n : Nat) : Int))) rfl (OpQ.y (OpY.len Tsl_28 rfl)) ?_
  refine Run.q (v := .int .i64 0) rfl (OpQ.y (OpY.pure rfl)) ?_
  refine Run.done ?_
  refine Run.block ?_
  refine Run.loop (ι := Nat) [6, 7, 8, 11, 12, 13, 14, 15, 16, 17, 18, 19, 20, 21, 22, 23, 24, 25, 26, 27, 28, 29] (fun k => [(11, .int .i64 (((k : Nat) : Int)))]) (fun k => [.blk b1 35 [.int .i64 N, vg]]) (fun k => k ≤ n ∧ (∀ i, i < k → (within (ix xs i) 0 (N - 1) && !hasI xs (ix xs i) i) = true)) (fun k => n - k) 0 ?_ ?_ ?_ ?_
  · exact ⟨Nat.zero_le _, by first | trivial | (intro i hi; omega)⟩
  · exact ⟨rfl, trivial⟩
  · exact (Some'.weak (.take (.nil _)))
  · rintro k fr hinv
    show Run _ _ (over _ _ [(11, .int .i64 (((k : Nat) : Int)))] fr) [.blk b1 35 [.int .i64 N, vg]]
    try dsimp only at hinv
    refine Run.seq ?_
    refine Run.region ?_
    refine Run.q (v := .bool (decide ((((k : Nat) : Int)) < (((n : Nat) : Int))))) rfl (OpQ.y (OpY.pure rfl)) ?_
    refine Run.done ?_
    refine Run.seq ?_
    refine Run.cond (b := decide ((((k : Nat) : Int)) < (((n : Nat) : Int)))) rfl (fun h12 => ?_) (fun h12 => ?_)
    · have p12 := h12; try simp only [bs] at p12
      have hltk : k < n := by omega
      obtain ⟨b, o, rfl⟩ := ha.opn (by omega)
      refine Run.skip ?_
      refine Run.seq ?_
      refine Run.block ?_
      refine Run.seq ?_
      refine Run.region ?_
      refine Run.q (v := .int .i64 (((k : Nat) : Int))) rfl (OpQ.y (OpY.pure rfl)) ?_
      refine Run.q (v := .pointer (some ⟨b, o + k, none⟩)) rfl (OpQ.y (OpY.index (kk := k) Tsl_28 rfl rfl (by omega) (by omega) (by first | rfl | omega))) ?_
      refine Run.q (v := .int .i64 (ix xs (k))) rfl (OpQ.y (OpY.load1 Tone_3 rfl (Cells.arg (k := k) ha rfl (by omega) (pre1 (by omega))))) ?_
      refine Run.q (v := .int .i64 (((k : Nat) : Int))) rfl (OpQ.y (OpY.pure rfl)) ?_
      refine Run.q (v := .int .i64 (ix xs (k))) rfl (OpQ.y (OpY.pure rfl)) ?_
      refine Run.done ?_
      refine Run.seq ?_
      refine Run.region ?_
      refine Run.q (v := .int .i64 (ix xs (k))) rfl (OpQ.y (OpY.pure rfl)) ?_
      refine Run.q (v := .pointer (some ⟨b1, 0, none⟩)) rfl (OpQ.y (OpY.fieldAddr Tfo_35_0 rfl rfl)) ?_
      refine Run.q (v := .int .i64 N) rfl (OpQ.y (OpY.load1 Tone_3 rfl (Cells.blk (.head _) ⟨rfl, trivial⟩))) ?_
      refine Run.q (v := .int .i64 (N - 1)) rfl (OpQ.y (OpY.sub rfl rfl rfl (by omega) (by omega))) ?_
      refine Run.q (v := .bool (within (ix xs (k)) 0 (N - 1))) rfl (OpQ.call (vs := [.int .i64 (ix xs (k)), .int .i64 0, .int .i64 (N - 1)]) (caps := []) Tcall_73 rfl rfl (fun w hs => within_spec _ _ _ w)) ?_
      refine Run.q (v := .bool (!(within (ix xs (k)) 0 (N - 1)))) rfl (OpQ.y (OpY.pure rfl)) ?_
      rcases Bool.eq_false_or_eq_true (!(within (ix xs (k)) 0 (N - 1))) with h22 | h22
      · refine Run.q (v := .bool true) rfl (OpQ.y (OpY.moveB rfl h22)) ?_
        have p22 := h22; try simp only [bs] at p22
        refine Run.pass rfl ?_
        refine Run.pass rfl ?_
        refine Run.pass rfl ?_
        refine Run.pass rfl ?_
        refine Run.pass rfl ?_
        refine Run.q (v := .bool true) rfl (OpQ.y (OpY.pure rfl)) ?_
        refine Run.done ?_
        refine Run.cond (b := true) rfl (fun _ => ?_) (fun h => nomatch h)
        refine Run.seq ?_
        have hres : placeOk N xs n = false := by
          refine allI_false hltk ?_
          first | (rw [p22]; rfl) | (rw [hasI_take] at p28; rw [p28]; simp)
        refine Run.region ?_
        refine Run.q (v := .bool false) rfl (OpQ.y (OpY.pure rfl)) ?_
        refine Run.done ?_
        refine Run.ret ?_
        refine ⟨.bool false, [], Out.one rfl rfl, (Some'.weak (.nil _)), ?_⟩
        show _ = _; first | (rw [hres]; rfl) | (rw [hres, Bool.true_and]; rfl)
      · refine Run.q (v := .bool false) rfl (OpQ.y (OpY.moveB rfl h22)) ?_
        have p22 := h22; try simp only [bs] at p22
        refine Run.q (v := .slice (some ⟨b, o, none⟩) n c) rfl (OpQ.y (OpY.pure rfl)) ?_
        refine Run.q (v := .int .i64 (((k : Nat) : Int))) rfl (OpQ.y (OpY.pure rfl)) ?_
        refine Run.q (v := .slice (some ⟨b, o, none⟩) k c) rfl (OpQ.y (OpY.sliceHN (h := k) Tsl_28 rfl rfl rfl (by omega))) ?_
        refine Run.q (v := .int .i64 (ix xs (k))) rfl (OpQ.y (OpY.pure rfl)) ?_
        refine Run.q (v := .bool (hasI (xs.take (k * 1)) (ix xs (k)) k)) rfl (OpQ.call (vs := [.slice (some ⟨b, o, none⟩) k c, .int .i64 (ix xs (k))]) (caps := []) Tcall_72 rfl rfl (fun w hs => ContainsInt_spec ((hs.sl ha).take (by omega)))) ?_
        refine Run.q (v := .bool (hasI (xs.take (k * 1)) (ix xs (k)) k)) rfl (OpQ.y (OpY.pure rfl)) ?_
        refine Run.done ?_
        refine Run.cond (b := hasI (xs.take (k * 1)) (ix xs (k)) k) rfl (fun h28 => ?_) (fun h28 => ?_)
        · have p28 := h28; try simp only [bs] at p28
          refine Run.seq ?_
          have hres : placeOk N xs n = false := by
            refine allI_false hltk ?_
            first | (rw [p22]; rfl) | (rw [hasI_take] at p28; rw [p28]; simp)
          refine Run.region ?_
          refine Run.q (v := .bool false) rfl (OpQ.y (OpY.pure rfl)) ?_
          refine Run.done ?_
          refine Run.ret ?_
          refine ⟨.bool false, [], Out.one rfl rfl, (Some'.weak (.nil _)), ?_⟩
          show _ = _; first | (rw [hres]; rfl) | (rw [hres, Bool.true_and]; rfl)
        · have p28 := h28; try simp only [bs] at p28
          refine Run.skip ?_
          refine Run.blockEnd ?_
          have hgood : (within (ix xs k) 0 (N - 1) && !hasI xs (ix xs k) k) = true := by
            rw [hasI_take] at p28; rw [p22, p28]; rfl
          refine Run.region ?_
          refine Run.q (v := .int .i64 ((((k : Nat) : Int)) + 1)) rfl (OpQ.y (OpY.add rfl rfl rfl (by omega) (by omega))) ?_
          refine Run.q (v := .int .i64 ((((k : Nat) : Int)) + 1)) rfl (OpQ.y (OpY.pure rfl)) ?_
          refine Run.done ?_
          refine Run.goal ⟨(by repeat (first | exact Same.refl _ _ | refine Same.put rfl ?_ | refine Same.over rfl rfl ?_)), k + 1, ?_, ?_, ?_, ?_⟩
          · refine ⟨by omega, ?_⟩
            intro i hi
            rcases Nat.lt_succ_iff_lt_or_eq.1 hi with h | h
            · exact hinv.2 i h
            · rw [h]; exact hgood
          · omega
          · exact ⟨(by first | rfl | (congr 1; omega) | simp), trivial⟩
          · exact (Some'.weak (.take (.nil _)))
    · have p12 := h12; try simp only [bs] at p12
      have hknk : k = n := by omega
      have hres : placeOk N xs n = true := by rw [← hknk]; exact allI_iff.2 hinv.2
      refine Run.exit rfl ?_
      refine Run.seq ?_
      refine Run.region ?_
      refine Run.q (v := .slice A n c) rfl (OpQ.y (OpY.pure rfl)) ?_
      refine Run.q (v := .int .i64 (((n : Nat) : Int))) rfl (OpQ.y (OpY.len Tsl_28 rfl)) ?_
      refine Run.q (v := .int .i64 q) rfl (OpQ.y (OpY.pure rfl)) ?_
      refine Run.q (v := .bool ((((n : Nat) : Int)) == q)) rfl (OpQ.y (OpY.pure rfl)) ?_
      refine Run.q (v := .bool ((((n : Nat) : Int)) == q)) rfl (OpQ.y (OpY.pure rfl)) ?_
      refine Run.done ?_
      refine Run.ret ?_
      refine ⟨.bool ((((n : Nat) : Int)) == q), [], Out.one rfl rfl, (Some'.weak (.nil _)), ?_⟩
      show _ = _; first | (rw [hres]; rfl) | (rw [hres, Bool.true_and]; rfl)

end Go.Proofs.Ytekikmdjldincaa
/- Walks: the neighbours of a node. -/
set_option linter.unusedSimpArgs false
set_option linter.unusedVariables false
namespace Go.Proofs.Ytekikmdjldincaa
open Go Go.RowKit
end Go.Proofs.Ytekikmdjldincaa
/- Plain laws: distances in a graph. -/
set_option linter.unusedSimpArgs false
set_option linter.unusedVariables false
namespace Go.Proofs.Ytekikmdjldincaa
open Go Go.RowKit
/-- How many numbers below n have the property. -/
def cntP (p : Nat → Bool) : Nat → Nat
  | 0 => 0
  | n + 1 => cntP p n + (if p n then 1 else 0)
theorem cntP_le (p : Nat → Bool) : ∀ n, cntP p n ≤ n
  | 0 => Nat.le_refl _
  | n + 1 => by have := cntP_le p n; simp only [cntP]; split <;> omega
theorem cntP_mono {p q : Nat → Bool} : ∀ {n}, (∀ i, i < n → p i = true → q i = true) → cntP p n ≤ cntP q n
  | 0, _ => Nat.le_refl _
  | n + 1, h => by
    have ih := cntP_mono (n := n) fun i hi => h i (by omega)
    have h1 := h n (by omega)
    simp only [cntP]
    cases hp : p n
    · simp; omega
    · simp [h1 hp]; exact ih
theorem cntP_congr {p q : Nat → Bool} {n : Nat} (h : ∀ i, i < n → p i = q i) : cntP p n = cntP q n :=
  Nat.le_antisymm (cntP_mono fun i hi hp => by rw [← h i hi]; exact hp) (cntP_mono fun i hi hp => by rw [h i hi]; exact hp)
/-- One number more has the property. -/
theorem cntP_add {p q : Nat → Bool} {x : Nat} : ∀ {n}, x < n → (∀ i, i < n → i ≠ x → p i = q i) → p x = false → q x = true → cntP q n = cntP p n + 1
  | 0, h, _, _, _ => by omega
  | n + 1, hx, h, hp, hq => by
    simp only [cntP]
    by_cases e : x = n
    · subst e
      rw [cntP_congr (p := q) (q := p) fun i hi => (h i (by omega) (by omega)).symm]; simp [hp, hq]
    · rw [cntP_add (n := n) (by omega) (fun i hi hne => h i (by omega) hne) hp hq, h n (by omega) (by omega)]; omega

/-- The distances of all nodes from node s: 0 at s; each other one that is reached has a neighbour one step nearer; neighbours of reached nodes are reached, at most one step further; -1 elsewhere. -/
structure IsDist (A : Nat → Nat → Bool) (N s : Nat) (o : List Int) : Prop where
  len : o.length = N
  src : ix o s = 0
  low : ∀ v, v < N → -1 ≤ ix o v
  par : ∀ v, v < N → 0 ≤ ix o v → v = s ∨ ∃ u, u < N ∧ A u v = true ∧ 0 ≤ ix o u ∧ ix o v = ix o u + 1
  rel : ∀ u, u < N → ∀ v, v < N → 0 ≤ ix o u → A u v = true → 0 ≤ ix o v ∧ ix o v ≤ ix o u + 1
theorem IsDist.key {A : Nat → Nat → Bool} {N s : Nat} {o o' : List Int} (h : IsDist A N s o) (h' : IsDist A N s o') : ∀ (d : Nat) (v : Nat), v < N → ix o v = d → 0 ≤ ix o' v ∧ ix o' v ≤ d := by
  intro d
  induction d with
  | zero =>
    intro v hv e
    rcases h.par v hv (by omega) with rfl | ⟨u, hu, ha, h0, h1⟩
    · have := h'.src; omega
    · omega
  | succ d ih =>
    intro v hv e
    rcases h.par v hv (by omega) with rfl | ⟨u, hu, ha, h0, h1⟩
    · have := h'.src; omega
    · have h2 := ih u hu (by omega)
      have h3 := h'.rel u hu v hv h2.1 ha
      omega
/-! ### The reference: level by level -/
/-- The first d levels are right. -/
structure IsLev (A : Nat → Nat → Bool) (N s d : Nat) (o : List Int) : Prop where
  len : o.length = N
  src : ix o s = 0
  low : ∀ v, v < N → -1 ≤ ix o v ∧ ix o v ≤ d
  par : ∀ v, v < N → 0 ≤ ix o v → v = s ∨ ∃ u, u < N ∧ A u v = true ∧ 0 ≤ ix o u ∧ ix o v = ix o u + 1
  rel : ∀ u, u < N → ∀ v, v < N → 0 ≤ ix o u → ix o u < d → A u v = true → 0 ≤ ix o v ∧ ix o v ≤ ix o u + 1
/-- In round d, behind all pairs (u, v) with u below i, or u = i and v below k. -/
structure InRound (A : Nat → Nat → Bool) (N d i k : Nat) (o0 o : List Int) : Prop where
  len : o.length = N
  old : ∀ v, v < N → 0 ≤ ix o0 v → ix o v = ix o0 v
  new : ∀ v, v < N → ix o0 v < 0 → (ix o v = ix o0 v ∨ (ix o v = d + 1 ∧ ∃ u, u < N ∧ ix o0 u = d ∧ A u v = true))
  done : ∀ u, u < i → u < N → ∀ v, v < N → ix o0 u = d → A u v = true → 0 ≤ ix o v
  part : ∀ v, v < k → v < N → ix o0 i = d → A i v = true → 0 ≤ ix o v
theorem InRound.start {A : Nat → Nat → Bool} {N d : Nat} {o : List Int} (h : o.length = N) : InRound A N d 0 0 o o :=
  ⟨h, fun _ _ _ => rfl, fun _ _ _ => .inl rfl, fun _ h => by omega, fun _ h => by omega⟩
theorem InRound.next {A : Nat → Nat → Bool} {N d i : Nat} {o0 o : List Int} (h : InRound A N d i N o0 o) : InRound A N d (i + 1) 0 o0 o :=
  ⟨h.len, h.old, h.new, fun u hu huN v hv h0 ha => by
    by_cases e : u = i
    · subst e; exact h.part v hv hv h0 ha
    · exact h.done u (by omega) huN v hv h0 ha, fun _ h => by omega⟩
/-- Nothing is to be set. -/
theorem InRound.keep {A : Nat → Nat → Bool} {N d i k : Nat} {o0 o : List Int} (h : InRound A N d i k o0 o) (hc : ix o0 i = d → A i k = true → 0 ≤ ix o k) : InRound A N d i (k + 1) o0 o :=
  ⟨h.len, h.old, h.new, h.done, fun v hv hvN h0 ha => by
    by_cases e : v = k
    · subst e; exact hc h0 ha
    · exact h.part v (by omega) hvN h0 ha⟩
theorem InRound.set {A : Nat → Nat → Bool} {N d i k : Nat} {o0 o : List Int} (h : InRound A N d i k o0 o) (hi : i < N) (hk : k < N) (h0 : ix o0 i = d) (ha : A i k = true) (hneg : ix o k < 0) : InRound A N d i (k + 1) o0 (o.set k (d + 1)) := by
  have hx : ∀ v, v < N → ix (o.set k ((d : Int) + 1)) v = if k = v then (d : Int) + 1 else ix o v := fun v hv => ix_set (by rw [h.len]; exact hv)
  refine ⟨by simp [h.len], fun v hv h1 => ?_, fun v hv h1 => ?_, fun u hu huN v hv h1 h2 => ?_, fun v hv hvN h1 h2 => ?_⟩
  · rw [hx v hv]
    have := h.old v hv h1
    by_cases e : k = v
    · subst e; omega
    · rw [if_neg e]; exact this
  · rw [hx v hv]
    by_cases e : k = v
    · subst e; rw [if_pos rfl]; exact .inr ⟨rfl, i, hi, h0, ha⟩
    · rw [if_neg e]; exact h.new v hv h1
  · rw [hx v hv]; split
    · omega
    · exact h.done u hu huN v hv h1 h2
  · rw [hx v hvN]; split
    · omega
    · exact h.part v (by omega) hvN h1 h2
theorem IsLev.start {A : Nat → Nat → Bool} {N s : Nat} (hs : s < N) : IsLev A N s 0 ((List.replicate N (-1 : Int)).set s 0) := by
  have hx : ∀ v, v < N → ix ((List.replicate N (-1 : Int)).set s 0) v = if s = v then 0 else -1 := fun v hv => by
    rw [ix_set (by simpa using hv)]; split
    · rfl
    · simp [ix, List.getD, hv]
  refine ⟨by simp, by rw [hx s hs]; simp, fun v hv => by rw [hx v hv]; split <;> omega, fun v hv h => ?_, fun u hu v hv h1 h2 => ?_⟩
  · rw [hx v hv] at h
    by_cases e : s = v
    · exact .inl e.symm
    · rw [if_neg e] at h; omega
  · omega

/-! ### The program: a queue -/
/-- The queue q behind the nodes before at and the neighbours before position k of ns of the node at at. -/
structure InQ (A : Nat → Nat → Bool) (N s : Nat) (q : List Int) (at_ : Nat) (o : List Int) : Prop where
  slt : s < N
  len : o.length = N
  src : ix o s = 0
  low : ∀ v, v < N → -1 ≤ ix o v
  node : ∀ i, i < q.length → 0 ≤ ix q i ∧ ix q i < N
  val : ∀ i, i < q.length → 0 ≤ ix o (ix q i).toNat
  mem : ∀ v, v < N → 0 ≤ ix o v → ∃ i, i < q.length ∧ ix q i = v
  par : ∀ v, v < N → 0 ≤ ix o v → v = s ∨ ∃ u, u < N ∧ A u v = true ∧ 0 ≤ ix o u ∧ ix o v = ix o u + 1
  cnt : q.length = cntP (fun v => decide (0 ≤ ix o v)) N
  mono : ∀ i j, i ≤ j → j < q.length → ix o (ix q i).toNat ≤ ix o (ix q j).toNat
  last : at_ < q.length → ∀ i, i < q.length → ix o (ix q i).toNat ≤ ix o (ix q at_).toNat + 1
  rel : ∀ i, i < at_ → i < q.length → ∀ v, v < N → A (ix q i).toNat v = true → 0 ≤ ix o v ∧ ix o v ≤ ix o (ix q i).toNat + 1
theorem InQ.start {A : Nat → Nat → Bool} {N s : Nat} (hs : s < N) : InQ A N s [(s : Int)] 0 ((List.replicate N (-1 : Int)).set s 0) := by
  have hx : ∀ v, v < N → ix ((List.replicate N (-1 : Int)).set s 0) v = if s = v then 0 else -1 := fun v hv => by
    rw [ix_set (by simpa using hv)]; split
    · rfl
    · simp [ix, List.getD, hv]
  have h0 : ∀ i, i < [(s : Int)].length → i = 0 := fun i hi => by simp at hi; omega
  have e0 : ix [(s : Int)] 0 = s := rfl
  refine ⟨hs, by simp, by rw [hx s hs]; simp, fun v hv => by rw [hx v hv]; split <;> omega, fun i hi => ?_, fun i hi => ?_, fun v hv h => ?_, fun v hv h => ?_, ?_, fun i j hij hj => ?_, fun _ i hi => ?_, fun i hi => by omega⟩
  · rw [h0 i hi, e0]; omega
  · rw [h0 i hi, e0, Int.toNat_natCast, hx s hs]; simp
  · rw [hx v hv] at h
    by_cases e : s = v
    · exact ⟨0, by simp, by rw [e0, e]⟩
    · rw [if_neg e] at h; omega
  · rw [hx v hv] at h
    by_cases e : s = v
    · exact .inl e.symm
    · rw [if_neg e] at h; omega
  · have := cntP_add (p := fun _ => false) (q := fun v => decide (0 ≤ ix ((List.replicate N (-1 : Int)).set s 0) v)) (x := s) (n := N) hs (fun i hi hne => by rw [hx i hi, if_neg (by omega)]; simp) rfl (by rw [hx s hs]; simp)
    have h1 : ∀ n, cntP (fun _ => false) n = 0 := fun n => by induction n with
      | zero => rfl
      | succ n ih => simp [cntP, ih]
    rw [this, h1]; rfl
  · rw [h0 j hj, h0 i (by omega)]; exact Int.le_refl _
  · rw [h0 i hi]; omega
theorem InQ.size {A : Nat → Nat → Bool} {N s : Nat} {q : List Int} {at_ : Nat} {o : List Int} (h : InQ A N s q at_ o) : q.length ≤ N := by rw [h.cnt]; exact cntP_le _ _
theorem ix_append_left {xs ys : List Int} {i : Nat} (h : i < xs.length) : ix (xs ++ ys) i = ix xs i := by simp only [ix, List.getD, List.getElem?_append_left h]
theorem ix_append_one {xs : List Int} {a : Int} : ix (xs ++ [a]) xs.length = a := by simp [ix, List.getD]
/-- A new node is met. -/
theorem InQ.push {A : Nat → Nat → Bool} {N s : Nat} {q : List Int} {at_ : Nat} {o : List Int} (h : InQ A N s q at_ o) (hat : at_ < q.length) {k : Nat} (hk : k < N) (hneg : ix o k < 0) (ha : A (ix q at_).toNat k = true) :
    InQ A N s (q ++ [(k : Int)]) at_ (o.set k (ix o (ix q at_).toNat + 1)) := by
  have hx : ∀ v, v < N → ix (o.set k (ix o (ix q at_).toNat + 1)) v = if k = v then ix o (ix q at_).toNat + 1 else ix o v := fun v hv => ix_set (by rw [h.len]; exact hv)
  have hnode : ∀ i, i < q.length → (ix q i).toNat < N ∧ (ix q i).toNat ≠ k := fun i hi => by
    have h1 := h.node i hi
    have h2 := h.val i hi
    refine ⟨by omega, fun e => ?_⟩
    rw [e] at h2; omega
  have hold : ∀ i, i < q.length → ix (o.set k (ix o (ix q at_).toNat + 1)) (ix q i).toNat = ix o (ix q i).toNat := fun i hi => by
    rw [hx _ (hnode i hi).1, if_neg (Ne.symm (hnode i hi).2)]
  have hks : k ≠ s := fun e => by have := h.src; rw [e] at hneg; omega
  have hv := h.val at_ hat
  have hs : s < N := h.slt
  have hlen : (q ++ [(k : Int)]).length = q.length + 1 := by simp
  have hsplit : ∀ i, i < (q ++ [(k : Int)]).length → (i < q.length ∧ ix (q ++ [(k : Int)]) i = ix q i) ∨ (i = q.length ∧ ix (q ++ [(k : Int)]) i = k) := fun i hi => by
    rw [hlen] at hi
    by_cases e : i < q.length
    · exact .inl ⟨e, ix_append_left e⟩
    · have e2 : i = q.length := by omega
      exact .inr ⟨e2, by rw [e2]; exact ix_append_one⟩
  have hkv : ix (o.set k (ix o (ix q at_).toNat + 1)) k = ix o (ix q at_).toNat + 1 := by rw [hx k hk, if_pos rfl]
  refine ⟨hs, by simp [h.len], ?_, fun v hv => ?_, fun i hi => ?_, fun i hi => ?_, fun v hv h0 => ?_, fun v hv h0 => ?_, ?_, fun i j hij hj => ?_, fun _ i hi => ?_, fun i hi1 hi v hv hA => ?_⟩
  · rw [hx s hs, if_neg hks]; exact h.src
  · rw [hx v hv]; split
    · omega
    · exact h.low v hv
  · rcases hsplit i hi with ⟨h1, e⟩ | ⟨h1, e⟩
    · rw [e]; exact h.node i h1
    · rw [e]; omega
  · rcases hsplit i hi with ⟨h1, e⟩ | ⟨h1, e⟩
    · rw [e, hold i h1]; exact h.val i h1
    · rw [e, Int.toNat_natCast, hkv]; omega
  · by_cases e : k = v
    · exact ⟨q.length, by simp, by rw [ix_append_one, e]⟩
    · rw [hx v hv, if_neg e] at h0
      obtain ⟨i, hi, e2⟩ := h.mem v hv h0
      exact ⟨i, by rw [hlen]; omega, by rw [ix_append_left hi]; exact e2⟩
  · by_cases e : k = v
    · subst e
      refine .inr ⟨(ix q at_).toNat, (hnode at_ hat).1, ha, ?_, ?_⟩
      · rw [hold at_ hat]; exact h.val at_ hat
      · rw [hkv, hold at_ hat]
    · rw [hx v hv, if_neg e] at h0 ⊢
      rcases h.par v hv h0 with h1 | ⟨u, hu, hA, h2, h3⟩
      · exact .inl h1
      · have hne : k ≠ u := fun e => by rw [e] at hneg; omega
        exact .inr ⟨u, hu, hA, by rw [hx u hu, if_neg hne]; exact h2, by rw [hx u hu, if_neg hne]; exact h3⟩
  · rw [hlen, h.cnt]
    refine (cntP_add (x := k) hk (fun i hi hne => ?_) ?_ ?_).symm
    · rw [hx i hi, if_neg (Ne.symm hne)]
    · simp only [decide_eq_false_iff_not]; omega
    · rw [hkv]; simp only [decide_eq_true_eq]; omega
  · rcases hsplit j hj with ⟨h1, e⟩ | ⟨h1, e⟩
    · rw [ix_append_left (show i < q.length by omega), e, hold i (by omega), hold j h1]; exact h.mono i j hij h1
    · rcases hsplit i (by omega) with ⟨h2, e2⟩ | ⟨h2, e2⟩
      · rw [e, e2, hold i h2, Int.toNat_natCast, hkv]; exact h.last hat i h2
      · rw [e, e2]; exact Int.le_refl _
  · rw [ix_append_left hat, hold at_ hat]
    rcases hsplit i hi with ⟨h1, e⟩ | ⟨h1, e⟩
    · rw [e, hold i h1]; exact h.last hat i h1
    · rw [e, Int.toNat_natCast, hkv]; exact Int.le_refl _
  · have hiq : i < q.length := by omega
    rw [ix_append_left hiq] at hA ⊢
    have h1 := h.rel i hi1 hiq v hv hA
    have hne : k ≠ v := fun e => by rw [← e] at h1; omega
    rw [hx v hv, if_neg hne, hold i hiq]; exact h1
/-- All neighbours of the node at at are met. -/
theorem InQ.next {A : Nat → Nat → Bool} {N s : Nat} {q : List Int} {at_ : Nat} {o : List Int} (h : InQ A N s q at_ o) (hat : at_ < q.length) (hall : ∀ v, v < N → A (ix q at_).toNat v = true → 0 ≤ ix o v) : InQ A N s q (at_ + 1) o :=
  ⟨h.slt, h.len, h.src, h.low, h.node, h.val, h.mem, h.par, h.cnt, h.mono, fun h2 i hi => by
    have h3 := h.last hat i hi
    have h4 := h.mono at_ (at_ + 1) (by omega) h2
    omega, fun i hi1 hi v hv hA => by
    by_cases e : i = at_
    · subst e
      have h1 := hall v hv hA
      obtain ⟨j, hj, e2⟩ := h.mem v hv h1
      have h3 := h.last hat j hj
      rw [e2, Int.toNat_natCast] at h3
      exact ⟨h1, h3⟩
    · exact h.rel i (by omega) hi v hv hA⟩

end Go.Proofs.Ytekikmdjldincaa
/- Walks: distances in a coupling graph. -/
set_option linter.unusedSimpArgs false
set_option linter.unusedVariables false
namespace Go.Proofs.Ytekikmdjldincaa
open Go Go.RowKit
/-- Two nodes are connected, by their numbers. -/
def adjN (xs : List Int) (n : Nat) (a b : Nat) : Bool := adj xs n a b
theorem filterL_mem {p : Nat → Bool} : ∀ {N v : Nat}, v < N → p v = true → ∃ i, i < (filterL p N).length ∧ ix (filterL p N) i = v
  | 0, v, h, _ => by omega
  | N + 1, v, h, hp => by
    simp only [filterL]
    by_cases e : v < N
    · obtain ⟨i, h1, h2⟩ := filterL_mem e hp
      exact ⟨i, by simp only [List.length_append]; omega, by rw [ix_append_left h1]; exact h2⟩
    · have e2 : v = N := by omega
      subst e2
      rw [hp]
      exact ⟨(filterL p v).length, by simp, by simp only [if_true]; exact ix_append_one⟩
theorem nb_mem {M : Nat} {xs : List Int} {n : Nat} {u : Int} {v : Nat} (hv : v < M) (ha : adj xs n u v = true) : ∃ i, i < (nbL (M : Int) xs n u).length ∧ ix (nbL (M : Int) xs n u) i = v := filterL_mem (by simpa using hv) ha
theorem InRound.same {A : Nat → Nat → Bool} {N d i k : Nat} {o0 o : List Int} (h : InRound A N d i k o0 o) {u : Nat} (hu : u < N) : ix o u = d ↔ ix o0 u = d := by
  by_cases e : 0 ≤ ix o0 u
  · rw [h.old u hu e]
  · rcases h.new u hu (by omega) with h1 | ⟨h1, _⟩
    · rw [h1]
    · rw [h1]; omega


end Go.Proofs.Ytekikmdjldincaa
/- Plain functions: the depths of the gates of a circuit. -/
set_option linter.unusedSimpArgs false
set_option linter.unusedVariables false
namespace Go.Proofs.Ytekikmdjldincaa
open Go Go.RowKit
/-- The qubits of gate i. -/
def gq (xs : List Int) (i : Nat) : List Int := qs (ix xs (i * 3)) (ix xs (i * 3 + 1)) (ix xs (i * 3 + 2))
/-- The greatest value at some qubits. -/
def top (b : Int → Int) (Q : List Int) : Int := Q.foldl (fun m q => max m (b q)) 0
/-- The depth at a qubit behind the first i gates, where a gate of kind k counts inc k. -/
def bst (inc : Int → Int) (xs : List Int) : Nat → Int → Int
  | 0, _ => 0
  | i + 1, q => if (gq xs i).contains q then top (bst inc xs i) (gq xs i) + inc (ix xs (i * 3)) else bst inc xs i q
/-- The depth of gate i. -/
def dep (inc : Int → Int) (xs : List Int) (i : Nat) : Int := top (bst inc xs i) (gq xs i) + inc (ix xs (i * 3))
def common (Q R : List Int) : Bool := Q.any fun q => R.contains q
/-- The depths at the first five qubits. -/
def bstL (inc : Int → Int) (xs : List Int) (i : Nat) : List Int := (List.range 5).map fun q : Nat => bst inc xs i q
@[simp] theorem bstL_length (inc : Int → Int) (xs : List Int) (i : Nat) : (bstL inc xs i).length = 5 := by simp [bstL]
/-- The list with the value d at some places. -/
def putQ (l : List Int) (d : Int) : List Int → List Int
  | [] => l
  | q :: Q => putQ (l.set q.toNat d) d Q
@[simp] theorem putQ_length (d : Int) : ∀ (Q l : List Int), (putQ l d Q).length = l.length
  | [], _ => rfl
  | _ :: Q, l => by rw [putQ, putQ_length d Q]; simp
end Go.Proofs.Ytekikmdjldincaa
/- Walks: gates with a common qubit, TDepthOf of the program and of the reference. -/
set_option linter.unusedSimpArgs false
set_option linter.unusedVariables false
namespace Go.Proofs.Ytekikmdjldincaa
open Go Go.RowKit
theorem hasI_contains (R : List Int) (x : Int) : hasI R x R.length = R.contains x := by
  rw [Bool.eq_iff_iff, hasI, anyI_iff]
  simp only [decide_eq_true_eq, List.contains_iff_mem]
  constructor
  · rintro ⟨i, h, rfl⟩; exact ix_mem h
  · intro h
    obtain ⟨i, hi, he⟩ := List.getElem_of_mem h
    exact ⟨i, hi, by simp [ix, List.getD, hi, he]⟩
theorem common_true {Q R : List Int} {i : Nat} (h : i < Q.length) (hr : R.contains (ix Q i) = true) : common Q R = true := List.any_eq_true.2 ⟨_, ix_mem h, hr⟩
theorem common_false {Q R : List Int} (h : ∀ i, i < Q.length → R.contains (ix Q i) = false) : common Q R = false := by
  cases hb : common Q R with
  | false => rfl
  | true =>
    obtain ⟨q, hq, hr⟩ := List.any_eq_true.1 hb
    obtain ⟨i, hi, he⟩ := List.getElem_of_mem hq
    have := h i hi
    simp only [ix, List.getD, List.getElem?_eq_getElem hi, Option.getD_some, he] at this
    rw [this] at hr; cases hr


def deepL (inc : Int → Int) (xs : List Int) (k : Nat) : List Int := (List.range k).map (dep inc xs)
@[simp] theorem deepL_length (inc : Int → Int) (xs : List Int) (k : Nat) : (deepL inc xs k).length = k := by simp [deepL]
end Go.Proofs.Ytekikmdjldincaa
/- Walks: the layers and the depth of a circuit. -/
set_option linter.unusedSimpArgs false
set_option linter.unusedVariables false
namespace Go.Proofs.Ytekikmdjldincaa
open Go Go.RowKit
end Go.Proofs.Ytekikmdjldincaa
/- Walks: the diameter of a coupling graph. -/
set_option linter.unusedSimpArgs false
set_option linter.unusedVariables false
namespace Go.Proofs.Ytekikmdjldincaa
open Go Go.RowKit
end Go.Proofs.Ytekikmdjldincaa
/- Walks: SwapBound of the program and of the reference; circuits that fit a coupling graph. -/
set_option linter.unusedSimpArgs false
set_option linter.unusedVariables false
namespace Go.Proofs.Ytekikmdjldincaa
open Go Go.RowKit
namespace SbT
theorem Tagg_35 : aggOf Try.prog 35 = some 2 := by kernel_rfl
theorem Tagg_39 : aggOf Try.prog 39 = some 2 := by kernel_rfl
theorem Tcall_80 : callable Try.prog 80 = true := by kernel_rfl
theorem Tcall_81 : callable Try.prog 81 = true := by kernel_rfl
theorem Tcall_86 : callable Try.prog 86 = true := by kernel_rfl
theorem Tcall_87 : callable Try.prog 87 = true := by kernel_rfl
theorem Tfo_35_0 : fieldOff Try.prog 35 0 = some 0 := by kernel_rfl
theorem Tfo_39_0 : fieldOff Try.prog 39 0 = some 0 := by kernel_rfl
theorem Tone_3 : oneOf Try.prog 3 = true := by kernel_rfl
end SbT
open SbT
def fitOk (N : Int) (es : List Int) (m : Nat) (Q : Int) (xs : List Int) (n : Nat) : Bool := cgOk N es m && circOk Q xs n && decide (Q ≤ N)
def plOk (N Q : Int) (ps : List Int) (pn : Nat) : Bool := placeOk N ps pn && decide ((pn : Int) = Q)
def isTwoI (k : Int) : Bool := decide (9 ≤ k ∧ k ≤ 11)
theorem plOk_at {N Q : Int} {ps : List Int} {pn : Nat} (h : plOk N Q ps pn = true) {a : Int} (h0 : 0 ≤ a) (h1 : a < Q) : a.toNat < pn ∧ 0 ≤ ix ps a.toNat ∧ ix ps a.toNat < N := by
  simp only [plOk, Bool.and_eq_true, decide_eq_true_eq] at h
  have hl : a.toNat < pn := by omega
  have := allI_iff.1 h.1 a.toNat hl
  simp only [Bool.and_eq_true] at this
  have := within_iff.1 this.1
  exact ⟨hl, by omega, by omega⟩
theorem two_args {Q : Int} {xs : List Int} {i : Nat} (hg : gateAt Q xs i = true) (h2 : isTwoI (ix xs (i * 3)) = true) : 0 ≤ ix xs (i * 3 + 1) ∧ ix xs (i * 3 + 1) < Q ∧ 0 ≤ ix xs (i * 3 + 2) ∧ ix xs (i * 3 + 2) < Q ∧ ix xs (i * 3 + 1) ≠ ix xs (i * 3 + 2) := by
  have := of_decide_eq_true h2
  rcases gateOk_split hg with h1 | h1 | h1 <;> omega
set_option maxHeartbeats 1000000 in
set_option maxRecDepth 20000 in
theorem canRoute_spec {N Q : Int} {vg va : Value} {m n : Nat} {es xs : List Int} {w : World} (hg : Sl w vg 2 m (ints es)) (ha : Sl w va 3 n (ints xs)) : Calls Try.prog 70 #[.agg #[.int .i64 N, vg], .agg #[.int .i64 Q, va]] w (Post No w fun v _ => v = .bool (fitOk N es m Q xs n)) := by
  refine enter (n := 18) (args := [.agg #[.int .i64 N, vg], .agg #[.int .i64 Q, va]]) Try.func70 rfl rfl (St.empty _ _) ?_
  refine Run.seq ?_
  refine Run.region ?_
  refine Run.step rfl (OpStep.box (us := [.int .i64 N, vg]) rfl fun b1 => ?_)
  refine Run.step rfl (OpStep.box (us := [.int .i64 Q, va]) rfl fun b2 => ?_)
  refine Run.q (v := .bool false) rfl (OpQ.y (OpY.pure rfl)) ?_
  refine Run.done ?_
  refine Run.seq ?_
  refine Run.region ?_
  refine Run.q (v := .agg #[.int .i64 N, vg]) rfl (OpQ.y (OpY.loadN (cs := [.int .i64 N, vg]) Tagg_35 rfl (Cells.blk (.tail _ (List.Mem.head _)) ⟨rfl, rfl, trivial⟩))) ?_
  refine Run.q (v := .bool (cgOk N es m)) rfl (OpQ.call (vs := [.agg #[.int .i64 N, vg]]) (caps := []) Tcall_86 rfl rfl (fun w hs => IsValidCouplingGraph_spec (hs.sl hg))) ?_
  rcases Bool.eq_false_or_eq_true (cgOk N es m) with h7 | h7
  · refine Run.q (v := .bool true) rfl (OpQ.y (OpY.moveB rfl h7)) ?_
    have p7 := h7; try simp only [bs] at p7
    refine Run.q (v := .agg #[.int .i64 Q, va]) rfl (OpQ.y (OpY.loadN (cs := [.int .i64 Q, va]) Tagg_39 rfl (Cells.blk (.head _) ⟨rfl, rfl, trivial⟩))) ?_
    refine Run.q (v := .bool (circOk Q xs n)) rfl (OpQ.call (vs := [.agg #[.int .i64 Q, va]]) (caps := []) Tcall_87 rfl rfl (fun w hs => IsValidCircuit_spec (hs.sl ha))) ?_
    refine Run.q (v := .bool (circOk Q xs n)) rfl (OpQ.y (OpY.pure rfl)) ?_
    rcases Bool.eq_false_or_eq_true (circOk Q xs n) with h11 | h11
    · refine Run.q (v := .bool true) rfl (OpQ.y (OpY.moveB rfl h11)) ?_
      have p11 := h11; try simp only [bs] at p11
      refine Run.q (v := .pointer (some ⟨b2, 0, none⟩)) rfl (OpQ.y (OpY.fieldAddr Tfo_39_0 rfl rfl)) ?_
      refine Run.q (v := .int .i64 Q) rfl (OpQ.y (OpY.load1 Tone_3 rfl (Cells.blk (.head _) ⟨rfl, trivial⟩))) ?_
      refine Run.q (v := .pointer (some ⟨b1, 0, none⟩)) rfl (OpQ.y (OpY.fieldAddr Tfo_35_0 rfl rfl)) ?_
      refine Run.q (v := .int .i64 N) rfl (OpQ.y (OpY.load1 Tone_3 rfl (Cells.blk (.tail _ (List.Mem.head _)) ⟨rfl, trivial⟩))) ?_
      refine Run.q (v := .bool (decide (Q ≤ N))) rfl (OpQ.y (OpY.pure rfl)) ?_
      refine Run.q (v := .bool (decide (Q ≤ N))) rfl (OpQ.y (OpY.pure rfl)) ?_
      refine Run.q (v := .bool (decide (Q ≤ N))) rfl (OpQ.y (OpY.pure rfl)) ?_
      refine Run.done ?_
      refine Run.ret ?_
      refine ⟨.bool (decide (Q ≤ N)), [], Out.one rfl rfl, (Some'.weak (.nil _)), ?_⟩
      show _ = _; simp_all [fitOk]
    · refine Run.q (v := .bool false) rfl (OpQ.y (OpY.moveB rfl h11)) ?_
      have p11 := h11; try simp only [bs] at p11
      refine Run.pass rfl ?_
      refine Run.pass rfl ?_
      refine Run.pass rfl ?_
      refine Run.pass rfl ?_
      refine Run.pass rfl ?_
      refine Run.q (v := .bool false) rfl (OpQ.y (OpY.pure rfl)) ?_
      refine Run.q (v := .bool false) rfl (OpQ.y (OpY.pure rfl)) ?_
      refine Run.done ?_
      refine Run.ret ?_
      refine ⟨.bool false, [], Out.one rfl rfl, (Some'.weak (.nil _)), ?_⟩
      show _ = _; simp_all [fitOk]
  · refine Run.q (v := .bool false) rfl (OpQ.y (OpY.moveB rfl h7)) ?_
    have p7 := h7; try simp only [bs] at p7
    refine Run.pass rfl ?_
    refine Run.pass rfl ?_
    refine Run.q (v := .bool false) rfl (OpQ.y (OpY.pure rfl)) ?_
    refine Run.q (v := .bool false) rfl (OpQ.y (OpY.pure rfl)) ?_
    refine Run.pass rfl ?_
    refine Run.pass rfl ?_
    refine Run.pass rfl ?_
    refine Run.pass rfl ?_
    refine Run.pass rfl ?_
    refine Run.q (v := .bool false) rfl (OpQ.y (OpY.pure rfl)) ?_
    refine Run.q (v := .bool false) rfl (OpQ.y (OpY.pure rfl)) ?_
    refine Run.done ?_
    refine Run.ret ?_
    refine ⟨.bool false, [], Out.one rfl rfl, (Some'.weak (.nil _)), ?_⟩
    show _ = _; simp_all [fitOk]

set_option maxHeartbeats 1000000 in
set_option maxRecDepth 20000 in
theorem l23Fits_spec {N Q : Int} {vg va : Value} {m n : Nat} {es xs : List Int} {w : World} (hN : In64 N) (hw : ∀ x ∈ es, In64 x) (hg : Sl w vg 2 m (ints es)) (ha : Sl w va 3 n (ints xs)) : Calls Try.prog 60 #[.agg #[.int .i64 N, vg], .agg #[.int .i64 Q, va]] w (Post No w fun v _ => v = .bool (fitOk N es m Q xs n)) := by
  refine enter (n := 18) (args := [.agg #[.int .i64 N, vg], .agg #[.int .i64 Q, va]]) Try.func60 rfl rfl (St.empty _ _) ?_
  refine Run.seq ?_
  refine Run.region ?_
  refine Run.step rfl (OpStep.box (us := [.int .i64 N, vg]) rfl fun b1 => ?_)
  refine Run.step rfl (OpStep.box (us := [.int .i64 Q, va]) rfl fun b2 => ?_)
  refine Run.q (v := .bool false) rfl (OpQ.y (OpY.pure rfl)) ?_
  refine Run.done ?_
  refine Run.seq ?_
  refine Run.region ?_
  refine Run.q (v := .agg #[.int .i64 N, vg]) rfl (OpQ.y (OpY.loadN (cs := [.int .i64 N, vg]) Tagg_35 rfl (Cells.blk (.tail _ (List.Mem.head _)) ⟨rfl, rfl, trivial⟩))) ?_
  refine Run.q (v := .bool (cgOk N es m)) rfl (OpQ.call (vs := [.agg #[.int .i64 N, vg]]) (caps := []) Tcall_80 rfl rfl (fun w hs => l22Valid_spec hN (hs.sl hg) hw)) ?_
  rcases Bool.eq_false_or_eq_true (cgOk N es m) with h7 | h7
  · refine Run.q (v := .bool true) rfl (OpQ.y (OpY.moveB rfl h7)) ?_
    have p7 := h7; try simp only [bs] at p7
    refine Run.q (v := .agg #[.int .i64 Q, va]) rfl (OpQ.y (OpY.loadN (cs := [.int .i64 Q, va]) Tagg_39 rfl (Cells.blk (.head _) ⟨rfl, rfl, trivial⟩))) ?_
    refine Run.q (v := .bool (circOk Q xs n)) rfl (OpQ.call (vs := [.agg #[.int .i64 Q, va]]) (caps := []) Tcall_81 rfl rfl (fun w hs => l4Good_spec (hs.sl ha))) ?_
    refine Run.q (v := .bool (circOk Q xs n)) rfl (OpQ.y (OpY.pure rfl)) ?_
    rcases Bool.eq_false_or_eq_true (circOk Q xs n) with h11 | h11
    · refine Run.q (v := .bool true) rfl (OpQ.y (OpY.moveB rfl h11)) ?_
      have p11 := h11; try simp only [bs] at p11
      refine Run.q (v := .pointer (some ⟨b2, 0, none⟩)) rfl (OpQ.y (OpY.fieldAddr Tfo_39_0 rfl rfl)) ?_
      refine Run.q (v := .int .i64 Q) rfl (OpQ.y (OpY.load1 Tone_3 rfl (Cells.blk (.head _) ⟨rfl, trivial⟩))) ?_
      refine Run.q (v := .pointer (some ⟨b1, 0, none⟩)) rfl (OpQ.y (OpY.fieldAddr Tfo_35_0 rfl rfl)) ?_
      refine Run.q (v := .int .i64 N) rfl (OpQ.y (OpY.load1 Tone_3 rfl (Cells.blk (.tail _ (List.Mem.head _)) ⟨rfl, trivial⟩))) ?_
      refine Run.q (v := .bool (decide (Q ≤ N))) rfl (OpQ.y (OpY.pure rfl)) ?_
      refine Run.q (v := .bool (decide (Q ≤ N))) rfl (OpQ.y (OpY.pure rfl)) ?_
      refine Run.q (v := .bool (decide (Q ≤ N))) rfl (OpQ.y (OpY.pure rfl)) ?_
      refine Run.done ?_
      refine Run.ret ?_
      refine ⟨.bool (decide (Q ≤ N)), [], Out.one rfl rfl, (Some'.weak (.nil _)), ?_⟩
      show _ = _; simp_all [fitOk]
    · refine Run.q (v := .bool false) rfl (OpQ.y (OpY.moveB rfl h11)) ?_
      have p11 := h11; try simp only [bs] at p11
      refine Run.pass rfl ?_
      refine Run.pass rfl ?_
      refine Run.pass rfl ?_
      refine Run.pass rfl ?_
      refine Run.pass rfl ?_
      refine Run.q (v := .bool false) rfl (OpQ.y (OpY.pure rfl)) ?_
      refine Run.q (v := .bool false) rfl (OpQ.y (OpY.pure rfl)) ?_
      refine Run.done ?_
      refine Run.ret ?_
      refine ⟨.bool false, [], Out.one rfl rfl, (Some'.weak (.nil _)), ?_⟩
      show _ = _; simp_all [fitOk]
  · refine Run.q (v := .bool false) rfl (OpQ.y (OpY.moveB rfl h7)) ?_
    have p7 := h7; try simp only [bs] at p7
    refine Run.pass rfl ?_
    refine Run.pass rfl ?_
    refine Run.q (v := .bool false) rfl (OpQ.y (OpY.pure rfl)) ?_
    refine Run.q (v := .bool false) rfl (OpQ.y (OpY.pure rfl)) ?_
    refine Run.pass rfl ?_
    refine Run.pass rfl ?_
    refine Run.pass rfl ?_
    refine Run.pass rfl ?_
    refine Run.pass rfl ?_
    refine Run.q (v := .bool false) rfl (OpQ.y (OpY.pure rfl)) ?_
    refine Run.q (v := .bool false) rfl (OpQ.y (OpY.pure rfl)) ?_
    refine Run.done ?_
    refine Run.ret ?_
    refine ⟨.bool false, [], Out.one rfl rfl, (Some'.weak (.nil _)), ?_⟩
    show _ = _; simp_all [fitOk]

end Go.Proofs.Ytekikmdjldincaa
/- Walks: shortest paths in a coupling graph. -/
set_option linter.unusedSimpArgs false
set_option linter.unusedVariables false
namespace Go.Proofs.Ytekikmdjldincaa
open Go Go.RowKit
/-- The neighbours that are one step nearer; the first of them. -/
def nxtP (M : Nat) (xs : List Int) (n : Nat) (o : List Int) (a : Int) (i : Nat) : Bool := decide (ix o (ix (nbL (M : Int) xs n a) i).toNat = ix o a.toNat - 1)
/-- A node at a positive distance has a neighbour that is one step nearer. -/
theorem nearer {M : Nat} {xs : List Int} {n : Nat} {o : List Int} {s : Nat} (hd : IsDist (adjN xs n) M s o) {a : Int} (h0 : 0 ≤ a) (hM : a < M) (hx : 0 ≤ ix o a.toNat) (hne : a ≠ (s : Int)) :
    0 < ix o a.toNat ∧ ∃ i, i < (nbL (M : Int) xs n a).length ∧ nxtP M xs n o a i = true := by
  rcases hd.par a.toNat (by omega) hx with e | ⟨u, hu, hA, h1, h2⟩
  · exfalso; omega
  · refine ⟨by omega, ?_⟩
    have hA' : adj xs n a (u : Int) = true := by
      rw [adjN, Int.toNat_of_nonneg h0] at hA
      rw [adj_comm]; exact hA
    obtain ⟨i, hi, e⟩ := nb_mem hu hA'
    refine ⟨i, hi, ?_⟩
    rw [nxtP, e, Int.toNat_natCast, decide_eq_true_eq]
    omega
end Go.Proofs.Ytekikmdjldincaa
/- Walks: the laws' own functions on slices of int. -/
set_option linter.unusedSimpArgs false
set_option linter.unusedVariables false
namespace Go.Proofs.Ytekikmdjldincaa
open Go Go.RowKit
namespace IntsT
theorem Tone_3 : oneOf Try.prog 3 = true := by kernel_rfl
theorem Tsize_3 : (Try.prog.info? 3).map (·.size) = some 1 := by kernel_rfl
theorem Tsl_28 : sliceOf Try.prog 28 = some (3, 1, 8, [.int .i64 0]) := by kernel_rfl
end IntsT
open IntsT
set_option maxHeartbeats 1000000 in
set_option maxRecDepth 20000 in
theorem eqIntS_spec {va vb : Value} {n m : Nat} {xs ys : List Int} {w : World} (ha : Sl w va 1 n (ints xs)) (hb : Sl w vb 1 m (ints ys)) :
    Calls Try.prog 15 #[va, vb] w (Post No w fun v _ => v = .bool (decide (xs = ys))) := by
  have hxl := ha.len
  have hyl := hb.len
  have hn := ha.le
  obtain ⟨A, c, rfl, _, _⟩ := ha.form0
  obtain ⟨B, d, rfl, _, _⟩ := hb.form0
  refine enter (n := 26) (args := [.slice A n c, .slice B m d]) Try.func15 rfl rfl (St.empty _ _) ?_
  refine Run.seq ?_
  refine Run.region ?_
  refine Run.q (v := .bool false) rfl (OpQ.y (OpY.pure rfl)) ?_
  refine Run.done ?_
  refine Run.seq ?_
  refine Run.seq ?_
  refine Run.region ?_
  refine Run.q (v := .slice A n c) rfl (OpQ.y (OpY.pure rfl)) ?_
  refine Run.q (v := .int .i64 (((n : Nat) : Int))) rfl (OpQ.y (OpY.len Tsl_28 rfl)) ?_
  refine Run.q (v := .slice B m d) rfl (OpQ.y (OpY.pure rfl)) ?_
  refine Run.q (v := .int .i64 (((m : Nat) : Int))) rfl (OpQ.y (OpY.len Tsl_28 rfl)) ?_
  refine Run.q (v := .bool ((((n : Nat) : Int)) != (((m : Nat) : Int)))) rfl (OpQ.y (OpY.pure rfl)) ?_
  refine Run.done ?_
  refine Run.cond (b := (((n : Nat) : Int)) != (((m : Nat) : Int))) rfl (fun h10 => ?_) (fun h10 => ?_)
  · have p10 := h10; try simp only [bs] at p10
    have hne : ¬ xs = ys := by intro e; subst e; simp at h10; omega
    refine Run.seq ?_
    refine Run.region ?_
    refine Run.q (v := .bool false) rfl (OpQ.y (OpY.pure rfl)) ?_
    refine Run.done ?_
    refine Run.ret ?_
    refine ⟨.bool false, [], Out.one rfl rfl, (Some'.weak (.nil _)), ?_⟩
    show _ = _; simp_all
  · have p10 := h10; try simp only [bs] at p10
    have hnm : m = n := by simp at h10; omega
    have hyl2 : ys.length = n * 1 := by rw [hyl, hnm]
    refine Run.skip ?_
    refine Run.seq ?_
    refine Run.seq ?_
    refine Run.region ?_
    refine Run.q (v := .int .i64 0) rfl (OpQ.y (OpY.pure rfl)) ?_
    refine Run.done ?_
    refine Run.block ?_
    refine Run.loop (ι := Nat) [4, 5, 11, 12, 13, 14, 15, 16, 17, 18, 19, 20, 21, 22, 23, 24, 25] (fun k => [(5, .int .i64 (((k : Nat) : Int)))]) (fun k => []) (fun k => k ≤ n ∧ ∀ j, j < k * 1 → ix xs j = ix ys j) (fun k => n - k) 0 ?_ ?_ ?_ ?_
    · exact ⟨Nat.zero_le _, fun j hj => by omega⟩
    · exact ⟨rfl, trivial⟩
    · exact (Some'.weak (.nil _))
    · rintro k fr hinv
      show Run _ _ (over _ _ [(5, .int .i64 (((k : Nat) : Int)))] fr) []
      try dsimp only at hinv
      refine Run.seq ?_
      refine Run.seq ?_
      refine Run.region ?_
      refine Run.q (v := .int .i64 (((k : Nat) : Int))) rfl (OpQ.y (OpY.pure rfl)) ?_
      refine Run.q (v := .slice A n c) rfl (OpQ.y (OpY.pure rfl)) ?_
      refine Run.q (v := .int .i64 (((n : Nat) : Int))) rfl (OpQ.y (OpY.len Tsl_28 rfl)) ?_
      refine Run.q (v := .bool (decide ((((k : Nat) : Int)) < (((n : Nat) : Int))))) rfl (OpQ.y (OpY.pure rfl)) ?_
      refine Run.done ?_
      refine Run.cond (b := decide ((((k : Nat) : Int)) < (((n : Nat) : Int)))) rfl (fun h14 => ?_) (fun h14 => ?_)
      · have p14 := h14; try simp only [bs] at p14
        have hlt : k < n := by simp at h14; omega
        obtain ⟨b, o, rfl⟩ := ha.opn (by omega)
        obtain ⟨b2, o2, rfl⟩ := hb.opn (by omega)
        refine Run.skip ?_
        refine Run.seq ?_
        refine Run.block ?_
        refine Run.seq ?_
        refine Run.draws (by kernel_rfl) (by kernel_rfl) ?_
        refine Lex.q (v := .slice (some ⟨b, o, none⟩) n c) rfl (OpQ.y (OpY.pure rfl)) ?_
        refine Lex.q (v := .int .i64 (((k : Nat) : Int))) rfl (OpQ.y (OpY.pure rfl)) ?_
        refine Lex.q (v := .pointer (some ⟨b, o + k, none⟩)) rfl (OpQ.y (OpY.index (kk := k) Tsl_28 rfl rfl (by omega) (by omega) (by first | rfl | omega))) ?_
        refine Lex.q (v := .int .i64 (ix xs (k))) rfl (OpQ.y (OpY.load1 Tone_3 rfl (Cells.arg (k := k) ha rfl (by omega) (pre1 (by omega))))) ?_
        refine Lex.q (v := .slice (some ⟨b2, o2, none⟩) m d) rfl (OpQ.y (OpY.pure rfl)) ?_
        refine Lex.q (v := .int .i64 (((k : Nat) : Int))) rfl (OpQ.y (OpY.pure rfl)) ?_
        refine Lex.q (v := .pointer (some ⟨b2, o2 + k, none⟩)) rfl (OpQ.y (OpY.index (kk := k) Tsl_28 rfl rfl (by omega) (by omega) (by first | rfl | omega))) ?_
        refine Lex.q (v := .int .i64 (ix ys (k))) rfl (OpQ.y (OpY.load1 Tone_3 rfl (Cells.arg (k := k) hb rfl (by omega) (pre1 (by omega))))) ?_
        refine Lex.q (v := .bool ((ix xs (k)) != (ix ys (k)))) rfl (OpQ.y (OpY.pure rfl)) ?_
        refine Lex.done ?_
        refine Run.cond (b := (ix xs (k)) != (ix ys (k))) rfl (fun h25 => ?_) (fun h25 => ?_)
        · have p25 := h25; try simp only [bs] at p25
          have hne : ¬ xs = ys := by intro e; subst e; simp at h25
          refine Run.seq ?_
          refine Run.region ?_
          refine Run.q (v := .bool false) rfl (OpQ.y (OpY.pure rfl)) ?_
          refine Run.done ?_
          refine Run.ret ?_
          refine ⟨.bool false, [], Out.one rfl rfl, (Some'.weak (.nil _)), ?_⟩
          show _ = _; simp_all
        · have p25 := h25; try simp only [bs] at p25
          simp at h25
          refine Run.skip ?_
          refine Run.blockEnd ?_
          refine Run.region ?_
          refine Run.q (v := .int .i64 (((k : Nat) : Int))) rfl (OpQ.y (OpY.pure rfl)) ?_
          refine Run.q (v := .int .i64 ((((k : Nat) : Int)) + 1)) rfl (OpQ.y (OpY.add rfl rfl rfl (by omega) (by omega))) ?_
          refine Run.q (v := .int .i64 ((((k : Nat) : Int)) + 1)) rfl (OpQ.y (OpY.pure rfl)) ?_
          refine Run.done ?_
          refine Run.goal ⟨(by repeat (first | exact Same.refl _ _ | refine Same.put rfl ?_ | refine Same.over rfl rfl ?_)), k + 1, ?_, ?_, ?_, ?_⟩
          · refine ⟨by omega, fun j hj => ?_⟩
            by_cases h : j < k * 1
            · exact hinv.2 j h
            · obtain rfl : j = k := by omega
              simpa using h25
          · omega
          · exact ⟨(by first | rfl | (congr 1; omega) | simp), trivial⟩
          · exact (Some'.weak (.nil _))
      · have p14 := h14; try simp only [bs] at p14
        have hkn : k = n := by simp at h14; omega
        have heq : xs = ys := list_ext_ix (by omega) fun j hj => hinv.2 j (by omega)
        refine Run.exit rfl ?_
        refine Run.seq ?_
        refine Run.region ?_
        refine Run.q (v := .bool true) rfl (OpQ.y (OpY.pure rfl)) ?_
        refine Run.done ?_
        refine Run.ret ?_
        refine ⟨.bool true, [], Out.one rfl rfl, (Some'.weak (.nil _)), ?_⟩
        show _ = _; simp_all


theorem eqIntS_true {va vb : Value} {n m : Nat} {xs ys : List Int} {w : World} (ha : Sl w va 1 n (ints xs)) (hb : Sl w vb 1 m (ints ys)) (he : xs = ys) :
    Calls Try.prog 15 #[va, vb] w (Post No w fun v _ => v = .bool true) :=
  (eqIntS_spec ha hb).mono fun _ _ ⟨v, H, h1, h2, h3⟩ => ⟨v, H, h1, h2, by simpa [he] using h3⟩

set_option maxHeartbeats 1000000 in
set_option maxRecDepth 20000 in
theorem markIntS_spec {va : Value} {n : Nat} {xs : List Int} {k : Int} {w : World} (ha : (Res.own va 3 1 n (ints xs)).holds w) (h0 : 0 ≤ k) (hk : k + n * 1 < 4611686018427387904) :
    Calls Try.prog 21 #[va, .int .i64 k] w (Post (Of [.own va 3 1 n (ints xs)]) w fun v H => v = .int .i64 (k + n * 1) ∧ H = [.own va 3 1 n (ints (mks k (n * 1)))]) := by
  have hxl : xs.length = n * 1 := by simpa using ha.1
  have hsl := (St.start1 ha).slOwn (.head _)
  have hn := hsl.le
  obtain ⟨A, c0, rfl, _, _⟩ := hsl.form0
  refine enter (n := 19) (args := [.slice A n c0, .int .i64 k]) Try.func21 rfl rfl (St.start1 ha) ?_
  refine Run.seq ?_
  refine Run.region ?_
  refine Run.q (v := .int .i64 0) rfl (OpQ.y (OpY.pure rfl)) ?_
  refine Run.done ?_
  refine Run.seq ?_
  refine Run.seq ?_
  refine Run.region ?_
  refine Run.q (v := .int .i64 0) rfl (OpQ.y (OpY.pure rfl)) ?_
  refine Run.done ?_
  refine Run.block ?_
  refine Run.loop (ι := Nat) [1, 5, 6, 7, 8, 9, 10, 11, 12, 13, 14, 15, 16, 17] (fun i => [(1, .int .i64 (k + ((i : Nat) : Int))), (5, .int .i64 (((i : Nat) : Int)))]) (fun i => [.own (.slice A n c0) 3 1 n (ints (marked k i xs))]) (fun i => i ≤ n) (fun i => n - i) 0 ?_ ?_ ?_ ?_
  · exact Nat.zero_le _
  · exact ⟨(by show Value.int .i64 k = Value.int .i64 _; simp), rfl, trivial⟩
  · exact (Some'.weak (.takeEq (by simp only [Nat.zero_mul, marked_zero]) (.nil _)))
  · rintro i fr hinv
    show Run _ _ (over _ _ [(1, .int .i64 (k + ((i : Nat) : Int))), (5, .int .i64 (((i : Nat) : Int)))] fr) [.own (.slice A n c0) 3 1 n (ints (marked k i xs))]
    try dsimp only at hinv
    refine Run.seq ?_
    refine Run.seq ?_
    refine Run.region ?_
    refine Run.q (v := .int .i64 (((i : Nat) : Int))) rfl (OpQ.y (OpY.pure rfl)) ?_
    refine Run.q (v := .slice A n c0) rfl (OpQ.y (OpY.pure rfl)) ?_
    refine Run.q (v := .int .i64 (((n : Nat) : Int))) rfl (OpQ.y (OpY.len Tsl_28 rfl)) ?_
    refine Run.q (v := .bool (decide ((((i : Nat) : Int)) < (((n : Nat) : Int))))) rfl (OpQ.y (OpY.pure rfl)) ?_
    refine Run.done ?_
    refine Run.cond (b := decide ((((i : Nat) : Int)) < (((n : Nat) : Int)))) rfl (fun h9 => ?_) (fun h9 => ?_)
    · have p9 := h9; try simp only [bs] at p9
      have hlt : i < n := by simp at h9; omega
      refine Run.openOwn (.head _) (by omega) (fun g c hvg hcapg _ => ?_) (fun _ _ _ => ⟨nofun, nofun, nofun⟩)
      injection hvg with hAg _ hcg; subst hAg; subst hcg
      refine Run.skip ?_
      refine Run.seq ?_
      refine Run.block ?_
      refine Run.seq ?_
      refine Run.region ?_
      refine Run.q (v := .slice (some ⟨g, 0, none⟩) n c0) rfl (OpQ.y (OpY.pure rfl)) ?_
      refine Run.q (v := .int .i64 (((i : Nat) : Int))) rfl (OpQ.y (OpY.pure rfl)) ?_
      refine Run.q (v := .int .i64 (k + ((i : Nat) : Int))) rfl (OpQ.y (OpY.pure rfl)) ?_
      refine Run.q (v := .pointer (some ⟨g, i, none⟩)) rfl (OpQ.y (OpY.index (kk := i) Tsl_28 rfl rfl (by omega) (by omega) (by first | rfl | omega))) ?_
      refine Run.step rfl (OpStep.storeOwnInt (o := i) (a := k + ((i : Nat) : Int)) Tsize_3 rfl rfl (.here _) (by omega) ?_)
      refine Run.done ?_
      refine Run.region ?_
      refine Run.q (v := .int .i64 (k + ((i : Nat) : Int))) rfl (OpQ.y (OpY.pure rfl)) ?_
      refine Run.q (v := .int .i64 ((k + ((i : Nat) : Int)) + 1)) rfl (OpQ.y (OpY.add rfl rfl rfl (by omega) (by omega))) ?_
      refine Run.q (v := .int .i64 ((k + ((i : Nat) : Int)) + 1)) rfl (OpQ.y (OpY.pure rfl)) ?_
      refine Run.done ?_
      refine Run.blockEnd ?_
      refine Run.region ?_
      refine Run.q (v := .int .i64 (((i : Nat) : Int))) rfl (OpQ.y (OpY.pure rfl)) ?_
      refine Run.q (v := .int .i64 ((((i : Nat) : Int)) + 1)) rfl (OpQ.y (OpY.add rfl rfl rfl (by omega) (by omega))) ?_
      refine Run.q (v := .int .i64 ((((i : Nat) : Int)) + 1)) rfl (OpQ.y (OpY.pure rfl)) ?_
      refine Run.done ?_
      refine Run.goal ⟨(by repeat (first | exact Same.refl _ _ | refine Same.put rfl ?_ | refine Same.over rfl rfl ?_)), i + 1, ?_, ?_, ?_, ?_⟩
      · omega
      · omega
      · exact ⟨(by show Value.int _ _ = Value.int _ _; congr 1; omega), rfl, trivial⟩
      · exact (Some'.weak (.takeEq (congrArg (fun z => Res.own _ _ _ _ (ints z)) (marked_set1 (by omega) (by omega))) (.nil _)))
    · have p9 := h9; try simp only [bs] at p9
      have hkn : i = n := by simp at h9; omega
      refine Run.exit rfl ?_
      refine Run.seq ?_
      refine Run.region ?_
      refine Run.q (v := .int .i64 (k + ((i : Nat) : Int))) rfl (OpQ.y (OpY.pure rfl)) ?_
      refine Run.q (v := .int .i64 (k + ((i : Nat) : Int))) rfl (OpQ.y (OpY.pure rfl)) ?_
      refine Run.done ?_
      refine Run.ret ?_
      refine ⟨.int .i64 (k + ((i : Nat) : Int)), [.own (.slice A n c0) 3 1 n (ints (mks k (n * 1)))], Out.one rfl rfl, (Some'.weak (.takeEq (by subst hkn; rw [Nat.mul_one] at hxl; rw [marked_all hxl, Nat.mul_one]) (.nil _))), ?_⟩
      exact ⟨by subst hkn; simp, rfl⟩

set_option maxHeartbeats 1000000 in
set_option maxRecDepth 20000 in
theorem heldIntS_spec {va : Value} {n : Nat} {xs : List Int} {k : Int} {w : World} (ha : Sl w va 1 n (ints xs)) (h0 : 0 ≤ k) (hk : k + n * 1 < 4611686018427387904) :
    Calls Try.prog 41 #[va, .int .i64 k] w (Post No w fun v _ => v = .int .i64 (if xs = mks k (n * 1) then k + n * 1 else -1)) := by
  have hxl := ha.len
  have hn := ha.le
  obtain ⟨A, c, rfl, _, _⟩ := ha.form0
  refine enter (n := 21) (args := [.slice A n c, .int .i64 k]) Try.func41 rfl rfl (St.empty _ _) ?_
  refine Run.seq ?_
  refine Run.region ?_
  refine Run.q (v := .int .i64 0) rfl (OpQ.y (OpY.pure rfl)) ?_
  refine Run.done ?_
  refine Run.seq ?_
  refine Run.seq ?_
  refine Run.region ?_
  refine Run.q (v := .int .i64 0) rfl (OpQ.y (OpY.pure rfl)) ?_
  refine Run.done ?_
  refine Run.block ?_
  refine Run.loop (ι := Nat) [1, 4, 5, 6, 7, 8, 9, 10, 11, 12, 13, 14, 15, 16, 17, 18, 19] (fun i => [(1, .int .i64 (k + ((i : Nat) : Int))), (5, .int .i64 (((i : Nat) : Int)))]) (fun i => []) (fun i => i ≤ n ∧ ∀ j, j < i → ix xs j = k + j) (fun i => n - i) 0 ?_ ?_ ?_ ?_
  · exact ⟨Nat.zero_le _, fun j hj => by omega⟩
  · exact ⟨(by show Value.int .i64 k = Value.int .i64 _; simp), rfl, trivial⟩
  · exact (Some'.weak (.nil _))
  · rintro i fr hinv
    show Run _ _ (over _ _ [(1, .int .i64 (k + ((i : Nat) : Int))), (5, .int .i64 (((i : Nat) : Int)))] fr) []
    try dsimp only at hinv
    refine Run.seq ?_
    refine Run.seq ?_
    refine Run.region ?_
    refine Run.q (v := .int .i64 (((i : Nat) : Int))) rfl (OpQ.y (OpY.pure rfl)) ?_
    refine Run.q (v := .slice A n c) rfl (OpQ.y (OpY.pure rfl)) ?_
    refine Run.q (v := .int .i64 (((n : Nat) : Int))) rfl (OpQ.y (OpY.len Tsl_28 rfl)) ?_
    refine Run.q (v := .bool (decide ((((i : Nat) : Int)) < (((n : Nat) : Int))))) rfl (OpQ.y (OpY.pure rfl)) ?_
    refine Run.done ?_
    refine Run.cond (b := decide ((((i : Nat) : Int)) < (((n : Nat) : Int)))) rfl (fun h9 => ?_) (fun h9 => ?_)
    · have p9 := h9; try simp only [bs] at p9
      have hlt : i < n := by simp at h9; omega
      obtain ⟨b, o, rfl⟩ := ha.opn (by omega)
      refine Run.skip ?_
      refine Run.seq ?_
      refine Run.block ?_
      refine Run.seq ?_
      refine Run.seq ?_
      refine Run.region ?_
      refine Run.q (v := .slice (some ⟨b, o, none⟩) n c) rfl (OpQ.y (OpY.pure rfl)) ?_
      refine Run.q (v := .int .i64 (((i : Nat) : Int))) rfl (OpQ.y (OpY.pure rfl)) ?_
      refine Run.q (v := .pointer (some ⟨b, o + i, none⟩)) rfl (OpQ.y (OpY.index (kk := i) Tsl_28 rfl rfl (by omega) (by omega) (by first | rfl | omega))) ?_
      refine Run.q (v := .int .i64 (ix xs (i))) rfl (OpQ.y (OpY.load1 Tone_3 rfl (Cells.arg (k := i) ha rfl (by omega) (pre1 (by omega))))) ?_
      refine Run.q (v := .int .i64 (k + ((i : Nat) : Int))) rfl (OpQ.y (OpY.pure rfl)) ?_
      refine Run.q (v := .bool ((ix xs (i)) != (k + ((i : Nat) : Int)))) rfl (OpQ.y (OpY.pure rfl)) ?_
      refine Run.done ?_
      refine Run.cond (b := (ix xs (i)) != (k + ((i : Nat) : Int))) rfl (fun h17 => ?_) (fun h17 => ?_)
      · have p17 := h17; try simp only [bs] at p17
        have hne : ¬ xs = mks k (n * 1) := by
          intro e; subst e
          have e1 := ix_mks (k := k) (m := n * 1) (j := i) (by omega)
          rw [e1, bne_iff_ne] at h17; apply h17; omega
        refine Run.seq ?_
        refine Run.region ?_
        refine Run.q (v := .int .i64 (-1)) rfl (OpQ.y (OpY.pure rfl)) ?_
        refine Run.done ?_
        refine Run.ret ?_
        refine ⟨.int .i64 (-1), [], Out.one rfl rfl, (Some'.weak (.nil _)), ?_⟩
        show _ = _; first | (rw [if_pos heq]; congr 1; omega) | rw [if_neg hne]
      · have p17 := h17; try simp only [bs] at p17
        refine Run.skip ?_
        refine Run.region ?_
        refine Run.q (v := .int .i64 (k + ((i : Nat) : Int))) rfl (OpQ.y (OpY.pure rfl)) ?_
        refine Run.q (v := .int .i64 ((k + ((i : Nat) : Int)) + 1)) rfl (OpQ.y (OpY.add rfl rfl rfl (by omega) (by omega))) ?_
        refine Run.q (v := .int .i64 ((k + ((i : Nat) : Int)) + 1)) rfl (OpQ.y (OpY.pure rfl)) ?_
        refine Run.done ?_
        refine Run.blockEnd ?_
        refine Run.region ?_
        refine Run.q (v := .int .i64 (((i : Nat) : Int))) rfl (OpQ.y (OpY.pure rfl)) ?_
        refine Run.q (v := .int .i64 ((((i : Nat) : Int)) + 1)) rfl (OpQ.y (OpY.add rfl rfl rfl (by omega) (by omega))) ?_
        refine Run.q (v := .int .i64 ((((i : Nat) : Int)) + 1)) rfl (OpQ.y (OpY.pure rfl)) ?_
        refine Run.done ?_
        refine Run.goal ⟨(by repeat (first | exact Same.refl _ _ | refine Same.put rfl ?_ | refine Same.over rfl rfl ?_)), i + 1, ?_, ?_, ?_, ?_⟩
        · refine ⟨by omega, fun j hj => ?_⟩
          by_cases h : j < i
          · exact hinv.2 j h
          · simp only [bne_eq_false_iff_eq] at h17
            rcases (by omega : j = i) with rfl <;> omega
        · omega
        · exact ⟨(by show Value.int _ _ = Value.int _ _; congr 1; omega), rfl, trivial⟩
        · exact (Some'.weak (.nil _))
    · have p9 := h9; try simp only [bs] at p9
      have hkn : i = n := by simp at h9; omega
      have heq : xs = mks k (n * 1) := eq_mks hxl fun j hj => hinv.2 j (by omega)
      refine Run.exit rfl ?_
      refine Run.seq ?_
      refine Run.region ?_
      refine Run.q (v := .int .i64 (k + ((i : Nat) : Int))) rfl (OpQ.y (OpY.pure rfl)) ?_
      refine Run.q (v := .int .i64 (k + ((i : Nat) : Int))) rfl (OpQ.y (OpY.pure rfl)) ?_
      refine Run.done ?_
      refine Run.ret ?_
      refine ⟨.int .i64 (k + ((i : Nat) : Int)), [], Out.one rfl rfl, (Some'.weak (.nil _)), ?_⟩
      show _ = _; first | (rw [if_pos heq]; congr 1; omega) | rw [if_neg hne]


theorem heldIntS_true {va : Value} {n : Nat} {xs : List Int} {k : Int} {w : World} (ha : Sl w va 1 n (ints xs)) (h0 : 0 ≤ k) (hk : k + n * 1 < 4611686018427387904) (he : xs = mks k (n * 1)) :
    Calls Try.prog 41 #[va, .int .i64 k] w (Post No w fun v _ => v = .int .i64 (k + n * 1)) :=
  (heldIntS_spec ha h0 hk).mono fun _ _ ⟨v, H, h1, h2, h3⟩ => ⟨v, H, h1, h2, by simpa [he] using h3⟩

end Go.Proofs.Ytekikmdjldincaa
/- Walks: the elimination of rows. -/
set_option linter.unusedSimpArgs false
set_option linter.unusedVariables false
namespace Go.Proofs.Ytekikmdjldincaa
open Go Go.RowKit
namespace ElT
theorem Tsl_28 : sliceOf Try.prog 28 = some (3, 1, 8, [.int .i64 0]) := by kernel_rfl
end ElT
open ElT
/-- Additions of rows as gates. -/
def flCX : List (Nat × Nat) → List Int
  | [] => []
  | (a, b) :: l => 9 :: (a : Int) :: (b : Int) :: flCX l
@[simp] theorem flCX_length : ∀ l : List (Nat × Nat), (flCX l).length = l.length * 3
  | [] => rfl
  | (_, _) :: l => by simp only [flCX, List.length_cons, flCX_length l]; omega
set_option maxHeartbeats 1000000 in
set_option maxRecDepth 20000 in
theorem l1Own_spec {va : Value} {n : Nat} {xs : List Int} {w : World} (hb : n ≤ 1048576) (ha : Sl w va 1 n (ints xs)) : Calls Try.prog 64 #[va] w (Post No w fun v H => H = [.own v 3 1 n (ints xs)]) := by
  have hxl := ha.len
  refine enter (n := 6) (args := [va]) Try.func64 rfl rfl (St.empty _ _) ?_
  refine Run.seq ?_
  refine Run.region ?_
  refine Run.q (v := .slice none 0 0) rfl (OpQ.y (OpY.pure rfl)) ?_
  refine Run.done ?_
  refine Run.seq ?_
  refine Run.region ?_
  refine Run.step rfl (OpStep.buildSlice (us := []) Tsl_28 (by decide) (by decide) rfl rfl fun b1 => ?_)
  refine Run.q (v := va) rfl (OpQ.y (OpY.pure rfl)) ?_
  refine Run.step rfl (OpStep.append (H1 := []) (H2 := []) (v := .slice (some ⟨b1, 0, none⟩) 0 0) (u := va) (n := 0) (m := n) (xs := []) (ys := ints xs) Tsl_28 (by decide) rfl rfl rfl rfl (fun w hs => hs.sl ha) (by exact ints_all xs) (by omega) (by simp only [maxLen]; omega) fun av1 hnav1 => ?_)
  refine Run.weak (H' := [.own av1 3 1 n (ints xs)]) (Some'.weak (.takeEq (by simp) (.nil _))) ?_ ⟨_, _, rfl, fun _ => nofun, fun _ => nofun⟩
  refine Run.q (v := av1) rfl (OpQ.y (OpY.pure rfl)) ?_
  refine Run.done ?_
  refine Run.ret ?_
  refine ⟨av1, [.own av1 3 1 n (ints xs)], Out.one rfl rfl, (Some'.weak (.take (.nil _))), ?_⟩
  rfl

set_option maxHeartbeats 1000000 in
set_option maxRecDepth 20000 in
theorem CloneInt_spec {va : Value} {n : Nat} {xs : List Int} {w : World} (hb : n ≤ 1048576) (h0 : 0 < n) (ha : Sl w va 1 n (ints xs)) : Calls Try.prog 54 #[va] w (Post No w fun v H => H = [.own v 3 1 n (ints xs)]) := by
  have hxl := ha.len
  obtain ⟨A, c, rfl, _, _⟩ := ha.form0
  obtain ⟨b, o, rfl⟩ := ha.opn h0
  refine enter (n := 8) (args := [.slice (some ⟨b, o, none⟩) n c]) Try.func54 rfl rfl (St.empty _ _) ?_
  refine Run.seq ?_
  refine Run.region ?_
  refine Run.q (v := .slice none 0 0) rfl (OpQ.y (OpY.pure rfl)) ?_
  refine Run.done ?_
  refine Run.seq ?_
  refine Run.seq ?_
  refine Run.region ?_
  refine Run.q (v := .slice (some ⟨b, o, none⟩) n c) rfl (OpQ.y (OpY.pure rfl)) ?_
  refine Run.q (v := .bool false) rfl (OpQ.y (OpY.eqNilSome Tsl_28 rfl rfl)) ?_
  refine Run.done ?_
  refine Run.cond (b := false) rfl (fun h => nomatch h) (fun _ => ?_)
  refine Run.skip ?_
  refine Run.seq ?_
  refine Run.region ?_
  refine Run.step rfl (OpStep.buildSlice (us := []) Tsl_28 (by decide) (by decide) rfl rfl fun b1 => ?_)
  refine Run.q (v := .slice (some ⟨b, o, none⟩) n c) rfl (OpQ.y (OpY.pure rfl)) ?_
  refine Run.step rfl (OpStep.append (H1 := []) (H2 := []) (v := .slice (some ⟨b1, 0, none⟩) 0 0) (u := .slice (some ⟨b, o, none⟩) n c) (n := 0) (m := n) (xs := []) (ys := ints xs) Tsl_28 (by decide) rfl rfl rfl rfl (fun w hs => hs.sl ha) (by exact ints_all xs) (by omega) (by simp only [maxLen]; omega) fun av1 hnav1 => ?_)
  refine Run.weak (H' := [.own av1 3 1 n (ints xs)]) (Some'.weak (.takeEq (by simp) (.nil _))) ?_ ⟨_, _, rfl, fun _ => nofun, fun _ => nofun⟩
  refine Run.q (v := av1) rfl (OpQ.y (OpY.pure rfl)) ?_
  refine Run.done ?_
  refine Run.ret ?_
  refine ⟨av1, [.own av1 3 1 n (ints xs)], Out.one rfl rfl, (Some'.weak (.take (.nil _))), ?_⟩
  rfl


end Go.Proofs.Ytekikmdjldincaa
