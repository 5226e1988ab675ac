/- Walks: searches in slices, placements, neighbours in a coupling graph. -/
import Derived.Test.YtekikmdjldincaaCg2
import Derived.Test.YtekikmdjldincaaFind
import Derived.Test.YtekikmdjldincaaProg
set_option linter.unusedSimpArgs false
set_option linter.unusedVariables false
namespace Go.Proofs.Ytekikmdjldincaa
open Go Go.RowKit
namespace Cg3T
theorem Tagg_77 : aggOf Try.prog 77 = some 2 := by kernel_rfl
theorem Tcall_101 : callable Try.prog 101 = true := by kernel_rfl
theorem Tcall_104 : callable Try.prog 104 = true := by kernel_rfl
theorem Tcall_61 : callable Try.prog 61 = true := by kernel_rfl
theorem Tcall_62 : callable Try.prog 62 = true := by kernel_rfl
theorem Tcall_72 : callable Try.prog 72 = true := by kernel_rfl
theorem Tcall_73 : callable Try.prog 73 = true := by kernel_rfl
theorem Tcall_88 : callable Try.prog 88 = true := by kernel_rfl
theorem Tfo_35_0 : fieldOff Try.prog 35 0 = some 0 := by kernel_rfl
theorem Tfo_35_1 : fieldOff Try.prog 35 1 = some 1 := by kernel_rfl
theorem Tfo_77_0 : fieldOff Try.prog 77 0 = some 0 := by kernel_rfl
theorem Tfo_77_1 : fieldOff Try.prog 77 1 = some 1 := by kernel_rfl
theorem Tns_77_2 : numStruct Try.prog 77 2 = true := by kernel_rfl
theorem Tone_3 : oneOf Try.prog 3 = true := by kernel_rfl
theorem Tone_33 : oneOf Try.prog 33 = true := by kernel_rfl
theorem Tsize_77 : (Try.prog.info? 77).map (·.size) = some 2 := by kernel_rfl
theorem Tsl_28 : sliceOf Try.prog 28 = some (3, 1, 8, [.int .i64 0]) := by kernel_rfl
theorem Tsl_33 : sliceOf Try.prog 33 = some (77, 2, 16, [.int .i64 0, .int .i64 0]) := by kernel_rfl
theorem Tzero_77 : zeroOf Try.prog 77 = some [.int .i64 0, .int .i64 0] := by kernel_rfl
end Cg3T
open Cg3T
set_option maxHeartbeats 1000000 in
set_option maxRecDepth 20000 in
theorem l1Has_spec {va : Value} {n : Nat} {xs : List Int} {x : Int} {w : World} (ha : Sl w va 1 n (ints xs)) : Calls Try.prog 62 #[va, .int .i64 x] w (Post No w fun v _ => v = .bool (hasI xs x n)) := by
  have hxl := ha.len
  have hn := ha.le
  obtain ⟨A, c, rfl, _, _⟩ := ha.form0
  refine enter (n := 17) (args := [.slice A n c, .int .i64 x]) Try.func62 rfl rfl (St.empty _ _) ?_
  refine Run.seq ?_
  refine Run.region ?_
  refine Run.q (v := .bool false) rfl (OpQ.y (OpY.pure rfl)) ?_
  refine Run.done ?_
  refine Run.seq ?_
  refine Run.seq ?_
  refine Run.region ?_
  refine Run.q (v := .slice A n c) rfl (OpQ.y (OpY.pure rfl)) ?_
  refine Run.q (v := .int .i64 (((n : Nat) : Int))) rfl (OpQ.y (OpY.len Tsl_28 rfl)) ?_
  refine Run.q (v := .int .i64 0) rfl (OpQ.y (OpY.pure rfl)) ?_
  refine Run.done ?_
  refine Run.block ?_
  refine Run.loop (ι := Nat) [4, 6, 9, 10, 11, 12, 13, 14, 15, 16] (fun k => [(9, .int .i64 (((k : Nat) : Int)))]) (fun k => []) (fun k => k ≤ n ∧ (∀ i, i < k → decide (ix xs i = x) = false)) (fun k => n - k) 0 ?_ ?_ ?_ ?_
  · exact ⟨Nat.zero_le _, by first | trivial | (intro i hi; omega)⟩
  · exact ⟨rfl, trivial⟩
  · exact (Some'.weak (.nil _))
  · rintro k fr hinv
    show Run _ _ (over _ _ [(9, .int .i64 (((k : Nat) : Int)))] fr) []
    try dsimp only at hinv
    refine Run.seq ?_
    refine Run.region ?_
    refine Run.q (v := .bool (decide ((((k : Nat) : Int)) < (((n : Nat) : Int))))) rfl (OpQ.y (OpY.pure rfl)) ?_
    refine Run.done ?_
    refine Run.seq ?_
    refine Run.cond (b := decide ((((k : Nat) : Int)) < (((n : Nat) : Int)))) rfl (fun h10 => ?_) (fun h10 => ?_)
    · have p10 := h10; try simp only [bs] at p10
      have hltk : k < n := by omega
      obtain ⟨b, o, rfl⟩ := ha.opn (by omega)
      refine Run.skip ?_
      refine Run.seq ?_
      refine Run.block ?_
      refine Run.seq ?_
      refine Run.region ?_
      refine Run.q (v := .pointer (some ⟨b, o + k, none⟩)) rfl (OpQ.y (OpY.index (kk := k) Tsl_28 rfl rfl (by omega) (by omega) (by first | rfl | omega))) ?_
      refine Run.q (v := .int .i64 (ix xs (k))) rfl (OpQ.y (OpY.load1 Tone_3 rfl (Cells.arg (k := k) ha rfl (by omega) (pre1 (by omega))))) ?_
      refine Run.q (v := .int .i64 (ix xs (k))) rfl (OpQ.y (OpY.pure rfl)) ?_
      refine Run.done ?_
      refine Run.seq ?_
      refine Run.region ?_
      refine Run.q (v := .int .i64 (ix xs (k))) rfl (OpQ.y (OpY.pure rfl)) ?_
      refine Run.q (v := .int .i64 x) rfl (OpQ.y (OpY.pure rfl)) ?_
      refine Run.q (v := .bool ((ix xs (k)) == x)) rfl (OpQ.y (OpY.pure rfl)) ?_
      refine Run.done ?_
      refine Run.cond (b := (ix xs (k)) == x) rfl (fun h15 => ?_) (fun h15 => ?_)
      · have p15 := h15; try simp only [bs] at p15
        refine Run.seq ?_
        have hres : hasI xs x n = true := anyI_true hltk (by simpa using p15)
        refine Run.region ?_
        refine Run.q (v := .bool true) rfl (OpQ.y (OpY.pure rfl)) ?_
        refine Run.done ?_
        refine Run.ret ?_
        refine ⟨.bool true, [], Out.one rfl rfl, (Some'.weak (.nil _)), ?_⟩
        show _ = _; rw [hres]
      · have p15 := h15; try simp only [bs] at p15
        refine Run.skip ?_
        refine Run.blockEnd ?_
        have hgood : decide (ix xs k = x) = false := by simpa using p15
        refine Run.region ?_
        refine Run.q (v := .int .i64 ((((k : Nat) : Int)) + 1)) rfl (OpQ.y (OpY.add rfl rfl rfl (by omega) (by omega))) ?_
        refine Run.q (v := .int .i64 ((((k : Nat) : Int)) + 1)) rfl (OpQ.y (OpY.pure rfl)) ?_
        refine Run.done ?_
        refine Run.goal ⟨(by repeat (first | exact Same.refl _ _ | refine Same.put rfl ?_ | refine Same.over rfl rfl ?_)), k + 1, ?_, ?_, ?_, ?_⟩
        · refine ⟨by omega, ?_⟩
          intro i hi
          rcases Nat.lt_succ_iff_lt_or_eq.1 hi with h | h
          · exact hinv.2 i h
          · rw [h]; exact hgood
        · omega
        · exact ⟨(by first | rfl | (congr 1; omega) | simp), trivial⟩
        · exact (Some'.weak (.nil _))
    · have p10 := h10; try simp only [bs] at p10
      have hknk : k = n := by omega
      have hres : hasI xs x n = false := by rw [← hknk]; exact anyI_false hinv.2
      refine Run.exit rfl ?_
      refine Run.seq ?_
      refine Run.region ?_
      refine Run.q (v := .bool false) rfl (OpQ.y (OpY.pure rfl)) ?_
      refine Run.done ?_
      refine Run.ret ?_
      refine ⟨.bool false, [], Out.one rfl rfl, (Some'.weak (.nil _)), ?_⟩
      show _ = _; rw [hres]

set_option maxHeartbeats 1000000 in
set_option maxRecDepth 20000 in
theorem IndexInt_spec {va : Value} {n : Nat} {xs : List Int} {x : Int} {w : World} (ha : Sl w va 1 n (ints xs)) : Calls Try.prog 88 #[va, .int .i64 x] w (Post No w fun v _ => v = .int .i64 (findI (fun i => decide (ix xs i = x)) n)) := by
  have hxl := ha.len
  have hn := ha.le
  obtain ⟨A, c, rfl, _, _⟩ := ha.form0
  refine enter (n := 19) (args := [.slice A n c, .int .i64 x]) Try.func88 rfl rfl (St.empty _ _) ?_
  refine Run.seq ?_
  refine Run.region ?_
  refine Run.q (v := .int .i64 0) rfl (OpQ.y (OpY.pure rfl)) ?_
  refine Run.done ?_
  refine Run.seq ?_
  refine Run.seq ?_
  refine Run.region ?_
  refine Run.q (v := .slice A n c) rfl (OpQ.y (OpY.pure rfl)) ?_
  refine Run.q (v := .int .i64 (((n : Nat) : Int))) rfl (OpQ.y (OpY.len Tsl_28 rfl)) ?_
  refine Run.q (v := .int .i64 0) rfl (OpQ.y (OpY.pure rfl)) ?_
  refine Run.done ?_
  refine Run.block ?_
  refine Run.loop (ι := Nat) [4, 5, 8, 9, 10, 11, 12, 13, 14, 15, 16, 17, 18] (fun k => [(8, .int .i64 (((k : Nat) : Int)))]) (fun k => []) (fun k => k ≤ n ∧ (∀ i, i < k → decide (ix xs i = x) = false)) (fun k => n - k) 0 ?_ ?_ ?_ ?_
  · exact ⟨Nat.zero_le _, by first | trivial | (intro i hi; omega)⟩
  · exact ⟨rfl, trivial⟩
  · exact (Some'.weak (.nil _))
  · rintro k fr hinv
    show Run _ _ (over _ _ [(8, .int .i64 (((k : Nat) : Int)))] fr) []
    try dsimp only at hinv
    refine Run.seq ?_
    refine Run.region ?_
    refine Run.q (v := .bool (decide ((((k : Nat) : Int)) < (((n : Nat) : Int))))) rfl (OpQ.y (OpY.pure rfl)) ?_
    refine Run.done ?_
    refine Run.seq ?_
    refine Run.cond (b := decide ((((k : Nat) : Int)) < (((n : Nat) : Int)))) rfl (fun h9 => ?_) (fun h9 => ?_)
    · have p9 := h9; try simp only [bs] at p9
      have hltk : k < n := by omega
      obtain ⟨b, o, rfl⟩ := ha.opn (by omega)
      refine Run.skip ?_
      refine Run.seq ?_
      refine Run.block ?_
      refine Run.seq ?_
      refine Run.region ?_
      refine Run.q (v := .int .i64 (((k : Nat) : Int))) rfl (OpQ.y (OpY.pure rfl)) ?_
      refine Run.q (v := .int .i64 (((k : Nat) : Int))) rfl (OpQ.y (OpY.pure rfl)) ?_
      refine Run.done ?_
      refine Run.seq ?_
      refine Run.region ?_
      refine Run.q (v := .int .i64 x) rfl (OpQ.y (OpY.pure rfl)) ?_
      refine Run.q (v := .slice (some ⟨b, o, none⟩) n c) rfl (OpQ.y (OpY.pure rfl)) ?_
      refine Run.q (v := .int .i64 (((k : Nat) : Int))) rfl (OpQ.y (OpY.pure rfl)) ?_
      refine Run.q (v := .pointer (some ⟨b, o + k, none⟩)) rfl (OpQ.y (OpY.index (kk := k) Tsl_28 rfl rfl (by omega) (by omega) (by first | rfl | omega))) ?_
      refine Run.q (v := .int .i64 (ix xs (k))) rfl (OpQ.y (OpY.load1 Tone_3 rfl (Cells.arg (k := k) ha rfl (by omega) (pre1 (by omega))))) ?_
      refine Run.q (v := .bool (x == (ix xs (k)))) rfl (OpQ.y (OpY.pure rfl)) ?_
      refine Run.done ?_
      refine Run.cond (b := x == (ix xs (k))) rfl (fun h16 => ?_) (fun h16 => ?_)
      · have p16 := h16; try simp only [bs] at p16
        refine Run.seq ?_
        have hres : findI (fun i => decide (ix xs i = x)) n = k := findI_hit hinv.2 (by simp; omega) hltk
        refine Run.region ?_
        refine Run.q (v := .int .i64 (((k : Nat) : Int))) rfl (OpQ.y (OpY.pure rfl)) ?_
        refine Run.q (v := .int .i64 (((k : Nat) : Int))) rfl (OpQ.y (OpY.pure rfl)) ?_
        refine Run.done ?_
        refine Run.ret ?_
        refine ⟨.int .i64 (((k : Nat) : Int)), [], Out.one rfl rfl, (Some'.weak (.nil _)), ?_⟩
        show _ = _; rw [hres]
      · have p16 := h16; try simp only [bs] at p16
        refine Run.skip ?_
        refine Run.blockEnd ?_
        have hgood : decide (ix xs k = x) = false := by simp; omega
        refine Run.region ?_
        refine Run.q (v := .int .i64 ((((k : Nat) : Int)) + 1)) rfl (OpQ.y (OpY.add rfl rfl rfl (by omega) (by omega))) ?_
        refine Run.q (v := .int .i64 ((((k : Nat) : Int)) + 1)) rfl (OpQ.y (OpY.pure rfl)) ?_
        refine Run.done ?_
        refine Run.goal ⟨(by repeat (first | exact Same.refl _ _ | refine Same.put rfl ?_ | refine Same.over rfl rfl ?_)), k + 1, ?_, ?_, ?_, ?_⟩
        · refine ⟨by omega, ?_⟩
          intro i hi
          rcases Nat.lt_succ_iff_lt_or_eq.1 hi with h | h
          · exact hinv.2 i h
          · rw [h]; exact hgood
        · omega
        · exact ⟨(by first | rfl | (congr 1; omega) | simp), trivial⟩
        · exact (Some'.weak (.nil _))
    · have p9 := h9; try simp only [bs] at p9
      have hknk : k = n := by omega
      have hres : findI (fun i => decide (ix xs i = x)) n = -1 := by rw [← hknk]; exact findI_none hinv.2
      refine Run.exit rfl ?_
      refine Run.seq ?_
      refine Run.region ?_
      refine Run.q (v := .int .i64 (-1)) rfl (OpQ.y (OpY.pure rfl)) ?_
      refine Run.done ?_
      refine Run.ret ?_
      refine ⟨.int .i64 (-1), [], Out.one rfl rfl, (Some'.weak (.nil _)), ?_⟩
      show _ = _; rw [hres]

set_option maxHeartbeats 1000000 in
set_option maxRecDepth 20000 in
theorem ContainsInt_spec {va : Value} {n : Nat} {xs : List Int} {x : Int} {w : World} (ha : Sl w va 1 n (ints xs)) : Calls Try.prog 72 #[va, .int .i64 x] w (Post No w fun v _ => v = .bool (hasI xs x n)) := by
  refine enter (n := 9) (args := [va, .int .i64 x]) Try.func72 rfl rfl (St.empty _ _) ?_
  refine Run.seq ?_
  refine Run.region ?_
  refine Run.q (v := .bool false) rfl (OpQ.y (OpY.pure rfl)) ?_
  refine Run.done ?_
  refine Run.seq ?_
  refine Run.region ?_
  refine Run.q (v := va) rfl (OpQ.y (OpY.pure rfl)) ?_
  refine Run.q (v := .int .i64 x) rfl (OpQ.y (OpY.pure rfl)) ?_
  refine Run.q (v := .int .i64 (findI (fun i => decide (ix xs i = x)) n)) rfl (OpQ.call (vs := [va, .int .i64 x]) (caps := []) Tcall_88 rfl rfl (fun w hs => IndexInt_spec (hs.sl ha))) ?_
  refine Run.q (v := .bool (decide ((findI (fun i => decide (ix xs i = x)) n) ≥ 0))) rfl (OpQ.y (OpY.pure rfl)) ?_
  refine Run.q (v := .bool (decide ((findI (fun i => decide (ix xs i = x)) n) ≥ 0))) rfl (OpQ.y (OpY.pure rfl)) ?_
  refine Run.done ?_
  refine Run.ret ?_
  refine ⟨.bool (decide ((findI (fun i => decide (ix xs i = x)) n) ≥ 0)), [], Out.one rfl rfl, (Some'.weak (.nil _)), ?_⟩
  show _ = _; rw [findI_ge]; rfl


def edgeAt (xs : List Int) (a b : Int) (i : Nat) : Bool := decide (ix xs (i * 2) = a ∧ ix xs (i * 2 + 1) = b ∨ ix xs (i * 2) = b ∧ ix xs (i * 2 + 1) = a)
def joinAt (xs : List Int) (a b : Int) (i : Nat) : Bool := decide (ix xs (i * 2) = a ∧ ix xs (i * 2 + 1) = b)
/-- Two nodes are connected. -/
def adj (xs : List Int) (n : Nat) (a b : Int) : Bool := anyI (edgeAt xs a b) n
theorem adj_join {N : Int} {xs : List Int} {n : Nat} (h : edgesOk N xs n = true) {a b : Int} (hab : a ≠ b) : anyI (joinAt xs (min a b) (max a b)) n = adj xs n a b := by
  refine anyI_congr fun i hi => ?_
  have h1 := (of_decide_eq_true h) i hi
  simp only [edgeOk] at h1
  unfold joinAt edgeAt
  rw [decide_eq_decide]
  omega
theorem adj_self {N : Int} {xs : List Int} {n : Nat} (h : edgesOk N xs n = true) (a : Int) : adj xs n a a = false := by
  refine anyI_false fun i hi => ?_
  have h1 := (of_decide_eq_true h) i hi
  simp only [edgeOk] at h1
  unfold edgeAt
  rw [decide_eq_false_iff_not]
  omega
theorem adj_comm (xs : List Int) (n : Nat) (a b : Int) : adj xs n a b = adj xs n b a := anyI_congr fun i _ => by
  unfold edgeAt
  rw [decide_eq_decide]
  omega
theorem cgOk_N {N : Int} {xs : List Int} {n : Nat} (h : cgOk N xs n = true) : 1 ≤ N ∧ N ≤ 8 := by
  simp only [cgOk, Bool.and_eq_true] at h; exact within_iff.1 h.1
theorem cgOk_edges {N : Int} {xs : List Int} {n : Nat} (h : cgOk N xs n = true) : edgesOk N xs n = true := by
  simp only [cgOk, Bool.and_eq_true] at h; exact h.2
def placeOk (N : Int) (xs : List Int) (m : Nat) : Bool := allI (fun i => within (ix xs i) 0 (N - 1) && !hasI xs (ix xs i) i) m
def nbL (N : Int) (xs : List Int) (n : Nat) (node : Int) : List Int := filterL (fun k => adj xs n node k) N.toNat

set_option maxHeartbeats 1000000 in
set_option maxRecDepth 20000 in
theorem l22Edge_spec {N a b : Int} {va : Value} {n : Nat} {xs : List Int} {w : World} (ha : Sl w va 2 n (ints xs)) : Calls Try.prog 93 #[.agg #[.int .i64 N, va], .int .i64 a, .int .i64 b] w (Post No w fun v _ => v = .bool (adj xs n a b)) := by
  have hxl := ha.len
  have hn := ha.le
  obtain ⟨A, cc, rfl, _, _⟩ := ha.form0
  refine enter (n := 39) (args := [.agg #[.int .i64 N, .slice A n cc], .int .i64 a, .int .i64 b]) Try.func93 rfl rfl (St.empty _ _) ?_
  refine Run.seq ?_
  refine Run.region ?_
  refine Run.step rfl (OpStep.box (us := [.int .i64 N, .slice A n cc]) rfl fun b1 => ?_)
  refine Run.q (v := .bool false) rfl (OpQ.y (OpY.pure rfl)) ?_
  refine Run.done ?_
  refine Run.seq ?_
  refine Run.seq ?_
  refine Run.region ?_
  refine Run.q (v := .pointer (some ⟨b1, 1, none⟩)) rfl (OpQ.y (OpY.fieldAddr Tfo_35_1 rfl rfl)) ?_
  refine Run.q (v := .slice A n cc) rfl (OpQ.y (OpY.load1 Tone_33 rfl (Cells.blk (.head _) ⟨rfl, trivial⟩))) ?_
  refine Run.q (v := .int .i64 (((n : Nat) : Int))) rfl (OpQ.y (OpY.len Tsl_33 rfl)) ?_
  refine Run.q (v := .int .i64 0) rfl (OpQ.y (OpY.pure rfl)) ?_
  refine Run.done ?_
  refine Run.block ?_
  refine Run.loop (ι := Nat) [6, 8, 12, 13, 14, 15, 16, 17, 18, 19, 20, 21, 22, 23, 24, 25, 26, 27, 28, 29, 30, 31, 32, 33, 34, 35, 36, 37, 38] (fun k => [(12, .int .i64 (((k : Nat) : Int)))]) (fun k => [.blk b1 35 [.int .i64 N, .slice A n cc]]) (fun k => k ≤ n ∧ (∀ i, i < k → edgeAt xs a b i = false)) (fun k => n - k) 0 ?_ ?_ ?_ ?_
  · exact ⟨Nat.zero_le _, by first | trivial | (intro i hi; omega)⟩
  · exact ⟨rfl, trivial⟩
  · exact (Some'.weak (.take (.nil _)))
  · rintro k fr hinv
    show Run _ _ (over _ _ [(12, .int .i64 (((k : Nat) : Int)))] fr) [.blk b1 35 [.int .i64 N, .slice A n cc]]
    try dsimp only at hinv
    refine Run.seq ?_
    refine Run.region ?_
    refine Run.q (v := .bool (decide ((((k : Nat) : Int)) < (((n : Nat) : Int))))) rfl (OpQ.y (OpY.pure rfl)) ?_
    refine Run.done ?_
    refine Run.seq ?_
    refine Run.cond (b := decide ((((k : Nat) : Int)) < (((n : Nat) : Int)))) rfl (fun h13 => ?_) (fun h13 => ?_)
    · have p13 := h13; try simp only [bs] at p13
      have hltk : k < n := by omega
      obtain ⟨bb, o, rfl⟩ := ha.opn (by omega)
      refine Run.skip ?_
      refine Run.seq ?_
      refine Run.block ?_
      refine Run.seq ?_
      refine Run.region ?_
      refine Run.q (v := .pointer (some ⟨bb, o + k * 2, none⟩)) rfl (OpQ.y (OpY.index (kk := k) Tsl_33 rfl rfl (by omega) (by omega) (by first | rfl | omega))) ?_
      refine Run.q (v := .agg #[.int .i64 (ix xs (k * 2)), .int .i64 (ix xs (k * 2 + 1))]) rfl (OpQ.y (OpY.loadN (cs := [.int .i64 (ix xs (k * 2)), .int .i64 (ix xs (k * 2 + 1))]) Tagg_77 rfl (Cells.arg (k := k * 2) ha rfl (by omega) (pre2 (by omega))))) ?_
      refine Run.step rfl (OpStep.alloc (zs := [.int .i64 0, .int .i64 0]) Tzero_77 fun b2 => ?_)
      refine Run.step rfl (OpStep.storeAll (us := [.int .i64 (ix xs (k * 2)), .int .i64 (ix xs (k * 2 + 1))]) Tsize_77 rfl rfl rfl (.here _) rfl ?_)
      refine Run.done ?_
      refine Run.seq ?_
      refine Run.region ?_
      refine Run.q (v := .pointer (some ⟨b2, 0, none⟩)) rfl (OpQ.y (OpY.fieldAddr Tfo_77_0 rfl rfl)) ?_
      refine Run.q (v := .int .i64 (ix xs (k * 2))) rfl (OpQ.y (OpY.load1 Tone_3 rfl (Cells.blk (.head _) ⟨rfl, trivial⟩))) ?_
      refine Run.q (v := .int .i64 a) rfl (OpQ.y (OpY.pure rfl)) ?_
      refine Run.q (v := .bool ((ix xs (k * 2)) == a)) rfl (OpQ.y (OpY.pure rfl)) ?_
      rcases Bool.eq_false_or_eq_true ((ix xs (k * 2)) == a) with h20 | h20
      · refine Run.q (v := .bool true) rfl (OpQ.y (OpY.moveB rfl h20)) ?_
        have p20 := h20; try simp only [bs] at p20
        refine Run.q (v := .pointer (some ⟨b2, 1, none⟩)) rfl (OpQ.y (OpY.fieldAddr Tfo_77_1 rfl rfl)) ?_
        refine Run.q (v := .int .i64 (ix xs (k * 2 + 1))) rfl (OpQ.y (OpY.load1 Tone_3 rfl (Cells.blk (.head _) ⟨rfl, trivial⟩))) ?_
        refine Run.q (v := .int .i64 b) rfl (OpQ.y (OpY.pure rfl)) ?_
        refine Run.q (v := .bool ((ix xs (k * 2 + 1)) == b)) rfl (OpQ.y (OpY.pure rfl)) ?_
        refine Run.q (v := .bool ((ix xs (k * 2 + 1)) == b)) rfl (OpQ.y (OpY.pure rfl)) ?_
        rcases Bool.eq_false_or_eq_true ((ix xs (k * 2 + 1)) == b) with h26 | h26
        · refine Run.q (v := .bool true) rfl (OpQ.y (OpY.moveB rfl h26)) ?_
          have p26 := h26; try simp only [bs] at p26
          refine Run.pass rfl ?_
          refine Run.pass rfl ?_
          refine Run.pass rfl ?_
          refine Run.pass rfl ?_
          refine Run.pass rfl ?_
          refine Run.pass rfl ?_
          refine Run.pass rfl ?_
          refine Run.pass rfl ?_
          refine Run.pass rfl ?_
          refine Run.pass rfl ?_
          refine Run.q (v := .bool true) rfl (OpQ.y (OpY.pure rfl)) ?_
          refine Run.done ?_
          refine Run.cond (b := true) rfl (fun _ => ?_) (fun h => nomatch h)
          refine Run.seq ?_
          have hres : adj xs n a b = true := anyI_true hltk (by simp only [edgeAt, decide_eq_true_eq]; omega)
          refine Run.region ?_
          refine Run.q (v := .bool true) rfl (OpQ.y (OpY.pure rfl)) ?_
          refine Run.done ?_
          refine Run.ret ?_
          refine ⟨.bool true, [], Out.one rfl rfl, (Some'.weak (.nil _)), ?_⟩
          show _ = _; rw [hres]
        · refine Run.q (v := .bool false) rfl (OpQ.y (OpY.moveB rfl h26)) ?_
          have p26 := h26; try simp only [bs] at p26
          refine Run.q (v := .pointer (some ⟨b2, 0, none⟩)) rfl (OpQ.y (OpY.fieldAddr Tfo_77_0 rfl rfl)) ?_
          refine Run.q (v := .int .i64 (ix xs (k * 2))) rfl (OpQ.y (OpY.load1 Tone_3 rfl (Cells.blk (.head _) ⟨rfl, trivial⟩))) ?_
          refine Run.q (v := .int .i64 b) rfl (OpQ.y (OpY.pure rfl)) ?_
          refine Run.q (v := .bool ((ix xs (k * 2)) == b)) rfl (OpQ.y (OpY.pure rfl)) ?_
          rcases Bool.eq_false_or_eq_true ((ix xs (k * 2)) == b) with h31 | h31
          · refine Run.q (v := .bool true) rfl (OpQ.y (OpY.moveB rfl h31)) ?_
            have p31 := h31; try simp only [bs] at p31
            refine Run.q (v := .pointer (some ⟨b2, 1, none⟩)) rfl (OpQ.y (OpY.fieldAddr Tfo_77_1 rfl rfl)) ?_
            refine Run.q (v := .int .i64 (ix xs (k * 2 + 1))) rfl (OpQ.y (OpY.load1 Tone_3 rfl (Cells.blk (.head _) ⟨rfl, trivial⟩))) ?_
            refine Run.q (v := .int .i64 a) rfl (OpQ.y (OpY.pure rfl)) ?_
            refine Run.q (v := .bool ((ix xs (k * 2 + 1)) == a)) rfl (OpQ.y (OpY.pure rfl)) ?_
            refine Run.q (v := .bool ((ix xs (k * 2 + 1)) == a)) rfl (OpQ.y (OpY.pure rfl)) ?_
            refine Run.q (v := .bool ((ix xs (k * 2 + 1)) == a)) rfl (OpQ.y (OpY.pure rfl)) ?_
            refine Run.done ?_
            refine Run.cond (b := (ix xs (k * 2 + 1)) == a) rfl (fun h37 => ?_) (fun h37 => ?_)
            · have p37 := h37; try simp only [bs] at p37
              refine Run.seq ?_
              have hres : adj xs n a b = true := anyI_true hltk (by simp only [edgeAt, decide_eq_true_eq]; omega)
              refine Run.region ?_
              refine Run.q (v := .bool true) rfl (OpQ.y (OpY.pure rfl)) ?_
              refine Run.done ?_
              refine Run.ret ?_
              refine ⟨.bool true, [], Out.one rfl rfl, (Some'.weak (.nil _)), ?_⟩
              show _ = _; rw [hres]
            · have p37 := h37; try simp only [bs] at p37
              refine Run.skip ?_
              refine Run.blockEnd ?_
              have hgood : edgeAt xs a b k = false := by simp only [edgeAt, decide_eq_false_iff_not]; omega
              refine Run.region ?_
              refine Run.q (v := .int .i64 ((((k : Nat) : Int)) + 1)) rfl (OpQ.y (OpY.add rfl rfl rfl (by omega) (by omega))) ?_
              refine Run.q (v := .int .i64 ((((k : Nat) : Int)) + 1)) rfl (OpQ.y (OpY.pure rfl)) ?_
              refine Run.done ?_
              refine Run.goal ⟨(by repeat (first | exact Same.refl _ _ | refine Same.put rfl ?_ | refine Same.over rfl rfl ?_)), k + 1, ?_, ?_, ?_, ?_⟩
              · refine ⟨by omega, ?_⟩
                intro i hi
                rcases Nat.lt_succ_iff_lt_or_eq.1 hi with h | h
                · exact hinv.2 i h
                · rw [h]; exact hgood
              · omega
              · exact ⟨(by first | rfl | (congr 1; omega) | simp), trivial⟩
              · exact (Some'.weak (.skip (.takeEq (by first | rfl | simp) (.nil _))))
          · refine Run.q (v := .bool false) rfl (OpQ.y (OpY.moveB rfl h31)) ?_
            have p31 := h31; try simp only [bs] at p31
            refine Run.pass rfl ?_
            refine Run.pass rfl ?_
            refine Run.pass rfl ?_
            refine Run.pass rfl ?_
            refine Run.q (v := .bool false) rfl (OpQ.y (OpY.pure rfl)) ?_
            refine Run.q (v := .bool false) rfl (OpQ.y (OpY.pure rfl)) ?_
            refine Run.done ?_
            refine Run.cond (b := false) rfl (fun h => nomatch h) (fun _ => ?_)
            refine Run.skip ?_
            refine Run.blockEnd ?_
            have hgood : edgeAt xs a b k = false := by simp only [edgeAt, decide_eq_false_iff_not]; omega
            refine Run.region ?_
            refine Run.q (v := .int .i64 ((((k : Nat) : Int)) + 1)) rfl (OpQ.y (OpY.add rfl rfl rfl (by omega) (by omega))) ?_
            refine Run.q (v := .int .i64 ((((k : Nat) : Int)) + 1)) rfl (OpQ.y (OpY.pure rfl)) ?_
            refine Run.done ?_
            refine Run.goal ⟨(by repeat (first | exact Same.refl _ _ | refine Same.put rfl ?_ | refine Same.over rfl rfl ?_)), k + 1, ?_, ?_, ?_, ?_⟩
            · refine ⟨by omega, ?_⟩
              intro i hi
              rcases Nat.lt_succ_iff_lt_or_eq.1 hi with h | h
              · exact hinv.2 i h
              · rw [h]; exact hgood
            · omega
            · exact ⟨(by first | rfl | (congr 1; omega) | simp), trivial⟩
            · exact (Some'.weak (.skip (.takeEq (by first | rfl | simp) (.nil _))))
      · refine Run.q (v := .bool false) rfl (OpQ.y (OpY.moveB rfl h20)) ?_
        have p20 := h20; try simp only [bs] at p20
        refine Run.pass rfl ?_
        refine Run.pass rfl ?_
        refine Run.pass rfl ?_
        refine Run.pass rfl ?_
        refine Run.q (v := .bool false) rfl (OpQ.y (OpY.pure rfl)) ?_
        refine Run.q (v := .bool false) rfl (OpQ.y (OpY.pure rfl)) ?_
        refine Run.q (v := .pointer (some ⟨b2, 0, none⟩)) rfl (OpQ.y (OpY.fieldAddr Tfo_77_0 rfl rfl)) ?_
        refine Run.q (v := .int .i64 (ix xs (k * 2))) rfl (OpQ.y (OpY.load1 Tone_3 rfl (Cells.blk (.head _) ⟨rfl, trivial⟩))) ?_
        refine Run.q (v := .int .i64 b) rfl (OpQ.y (OpY.pure rfl)) ?_
        refine Run.q (v := .bool ((ix xs (k * 2)) == b)) rfl (OpQ.y (OpY.pure rfl)) ?_
        rcases Bool.eq_false_or_eq_true ((ix xs (k * 2)) == b) with h31 | h31
        · refine Run.q (v := .bool true) rfl (OpQ.y (OpY.moveB rfl h31)) ?_
          have p31 := h31; try simp only [bs] at p31
          refine Run.q (v := .pointer (some ⟨b2, 1, none⟩)) rfl (OpQ.y (OpY.fieldAddr Tfo_77_1 rfl rfl)) ?_
          refine Run.q (v := .int .i64 (ix xs (k * 2 + 1))) rfl (OpQ.y (OpY.load1 Tone_3 rfl (Cells.blk (.head _) ⟨rfl, trivial⟩))) ?_
          refine Run.q (v := .int .i64 a) rfl (OpQ.y (OpY.pure rfl)) ?_
          refine Run.q (v := .bool ((ix xs (k * 2 + 1)) == a)) rfl (OpQ.y (OpY.pure rfl)) ?_
          refine Run.q (v := .bool ((ix xs (k * 2 + 1)) == a)) rfl (OpQ.y (OpY.pure rfl)) ?_
          refine Run.q (v := .bool ((ix xs (k * 2 + 1)) == a)) rfl (OpQ.y (OpY.pure rfl)) ?_
          refine Run.done ?_
          refine Run.cond (b := (ix xs (k * 2 + 1)) == a) rfl (fun h37 => ?_) (fun h37 => ?_)
          · have p37 := h37; try simp only [bs] at p37
            refine Run.seq ?_
            have hres : adj xs n a b = true := anyI_true hltk (by simp only [edgeAt, decide_eq_true_eq]; omega)
            refine Run.region ?_
            refine Run.q (v := .bool true) rfl (OpQ.y (OpY.pure rfl)) ?_
            refine Run.done ?_
            refine Run.ret ?_
            refine ⟨.bool true, [], Out.one rfl rfl, (Some'.weak (.nil _)), ?_⟩
            show _ = _; rw [hres]
          · have p37 := h37; try simp only [bs] at p37
            refine Run.skip ?_
            refine Run.blockEnd ?_
            have hgood : edgeAt xs a b k = false := by simp only [edgeAt, decide_eq_false_iff_not]; omega
            refine Run.region ?_
            refine Run.q (v := .int .i64 ((((k : Nat) : Int)) + 1)) rfl (OpQ.y (OpY.add rfl rfl rfl (by omega) (by omega))) ?_
            refine Run.q (v := .int .i64 ((((k : Nat) : Int)) + 1)) rfl (OpQ.y (OpY.pure rfl)) ?_
            refine Run.done ?_
            refine Run.goal ⟨(by repeat (first | exact Same.refl _ _ | refine Same.put rfl ?_ | refine Same.over rfl rfl ?_)), k + 1, ?_, ?_, ?_, ?_⟩
            · refine ⟨by omega, ?_⟩
              intro i hi
              rcases Nat.lt_succ_iff_lt_or_eq.1 hi with h | h
              · exact hinv.2 i h
              · rw [h]; exact hgood
            · omega
            · exact ⟨(by first | rfl | (congr 1; omega) | simp), trivial⟩
            · exact (Some'.weak (.skip (.takeEq (by first | rfl | simp) (.nil _))))
        · refine Run.q (v := .bool false) rfl (OpQ.y (OpY.moveB rfl h31)) ?_
          have p31 := h31; try simp only [bs] at p31
          refine Run.pass rfl ?_
          refine Run.pass rfl ?_
          refine Run.pass rfl ?_
          refine Run.pass rfl ?_
          refine Run.q (v := .bool false) rfl (OpQ.y (OpY.pure rfl)) ?_
          refine Run.q (v := .bool false) rfl (OpQ.y (OpY.pure rfl)) ?_
          refine Run.done ?_
          refine Run.cond (b := false) rfl (fun h => nomatch h) (fun _ => ?_)
          refine Run.skip ?_
          refine Run.blockEnd ?_
          have hgood : edgeAt xs a b k = false := by simp only [edgeAt, decide_eq_false_iff_not]; omega
          refine Run.region ?_
          refine Run.q (v := .int .i64 ((((k : Nat) : Int)) + 1)) rfl (OpQ.y (OpY.add rfl rfl rfl (by omega) (by omega))) ?_
          refine Run.q (v := .int .i64 ((((k : Nat) : Int)) + 1)) rfl (OpQ.y (OpY.pure rfl)) ?_
          refine Run.done ?_
          refine Run.goal ⟨(by repeat (first | exact Same.refl _ _ | refine Same.put rfl ?_ | refine Same.over rfl rfl ?_)), k + 1, ?_, ?_, ?_, ?_⟩
          · refine ⟨by omega, ?_⟩
            intro i hi
            rcases Nat.lt_succ_iff_lt_or_eq.1 hi with h | h
            · exact hinv.2 i h
            · rw [h]; exact hgood
          · omega
          · exact ⟨(by first | rfl | (congr 1; omega) | simp), trivial⟩
          · exact (Some'.weak (.skip (.takeEq (by first | rfl | simp) (.nil _))))
    · have p13 := h13; try simp only [bs] at p13
      have hknk : k = n := by omega
      have hres : adj xs n a b = false := by rw [← hknk]; exact anyI_false hinv.2
      refine Run.exit rfl ?_
      refine Run.seq ?_
      refine Run.region ?_
      refine Run.q (v := .bool false) rfl (OpQ.y (OpY.pure rfl)) ?_
      refine Run.done ?_
      refine Run.ret ?_
      refine ⟨.bool false, [], Out.one rfl rfl, (Some'.weak (.nil _)), ?_⟩
      show _ = _; rw [hres]

set_option maxHeartbeats 1000000 in
set_option maxRecDepth 20000 in
theorem IndexEdge_spec {a b : Int} {va : Value} {n : Nat} {xs : List Int} {w : World} (ha : Sl w va 2 n (ints xs)) : Calls Try.prog 104 #[va, .agg #[.int .i64 a, .int .i64 b]] w (Post No w fun v _ => v = .int .i64 (findI (joinAt xs a b) n)) := by
  have hxl := ha.len
  have hn := ha.le
  obtain ⟨A, cc, rfl, _, _⟩ := ha.form0
  refine enter (n := 19) (args := [.slice A n cc, .agg #[.int .i64 a, .int .i64 b]]) Try.func104 rfl rfl (St.empty _ _) ?_
  refine Run.seq ?_
  refine Run.region ?_
  refine Run.step rfl (OpStep.box (us := [.int .i64 a, .int .i64 b]) rfl fun b1 => ?_)
  refine Run.q (v := .int .i64 0) rfl (OpQ.y (OpY.pure rfl)) ?_
  refine Run.done ?_
  refine Run.seq ?_
  refine Run.seq ?_
  refine Run.region ?_
  refine Run.q (v := .slice A n cc) rfl (OpQ.y (OpY.pure rfl)) ?_
  refine Run.q (v := .int .i64 (((n : Nat) : Int))) rfl (OpQ.y (OpY.len Tsl_33 rfl)) ?_
  refine Run.q (v := .int .i64 0) rfl (OpQ.y (OpY.pure rfl)) ?_
  refine Run.done ?_
  refine Run.block ?_
  refine Run.loop (ι := Nat) [4, 5, 8, 9, 10, 11, 12, 13, 14, 15, 16, 17, 18] (fun k => [(8, .int .i64 (((k : Nat) : Int)))]) (fun k => [.blk b1 77 [.int .i64 a, .int .i64 b]]) (fun k => k ≤ n ∧ (∀ i, i < k → joinAt xs a b i = false)) (fun k => n - k) 0 ?_ ?_ ?_ ?_
  · exact ⟨Nat.zero_le _, by first | trivial | (intro i hi; omega)⟩
  · exact ⟨rfl, trivial⟩
  · exact (Some'.weak (.take (.nil _)))
  · rintro k fr hinv
    show Run _ _ (over _ _ [(8, .int .i64 (((k : Nat) : Int)))] fr) [.blk b1 77 [.int .i64 a, .int .i64 b]]
    try dsimp only at hinv
    refine Run.seq ?_
    refine Run.region ?_
    refine Run.q (v := .bool (decide ((((k : Nat) : Int)) < (((n : Nat) : Int))))) rfl (OpQ.y (OpY.pure rfl)) ?_
    refine Run.done ?_
    refine Run.seq ?_
    refine Run.cond (b := decide ((((k : Nat) : Int)) < (((n : Nat) : Int)))) rfl (fun h9 => ?_) (fun h9 => ?_)
    · have p9 := h9; try simp only [bs] at p9
      have hltk : k < n := by omega
      obtain ⟨bb, o, rfl⟩ := ha.opn (by omega)
      refine Run.skip ?_
      refine Run.seq ?_
      refine Run.block ?_
      refine Run.seq ?_
      refine Run.region ?_
      refine Run.q (v := .int .i64 (((k : Nat) : Int))) rfl (OpQ.y (OpY.pure rfl)) ?_
      refine Run.q (v := .int .i64 (((k : Nat) : Int))) rfl (OpQ.y (OpY.pure rfl)) ?_
      refine Run.done ?_
      refine Run.seq ?_
      refine Run.draws (by kernel_rfl) (by kernel_rfl) ?_
      refine Lex.q (v := .agg #[.int .i64 a, .int .i64 b]) rfl (OpQ.y (OpY.loadN (cs := [.int .i64 a, .int .i64 b]) Tagg_77 rfl (Cells.blk (.head _) ⟨rfl, rfl, trivial⟩))) ?_
      refine Lex.q (v := .slice (some ⟨bb, o, none⟩) n cc) rfl (OpQ.y (OpY.pure rfl)) ?_
      refine Lex.q (v := .int .i64 (((k : Nat) : Int))) rfl (OpQ.y (OpY.pure rfl)) ?_
      refine Lex.q (v := .pointer (some ⟨bb, o + k * 2, none⟩)) rfl (OpQ.y (OpY.index (kk := k) Tsl_33 rfl rfl (by omega) (by omega) (by first | rfl | omega))) ?_
      refine Lex.q (v := .agg #[.int .i64 (ix xs (k * 2)), .int .i64 (ix xs (k * 2 + 1))]) rfl (OpQ.y (OpY.loadN (cs := [.int .i64 (ix xs (k * 2)), .int .i64 (ix xs (k * 2 + 1))]) Tagg_77 rfl (Cells.arg (k := k * 2) ha rfl (by omega) (pre2 (by omega))))) ?_
      refine Lex.q (v := .bool (decide ([a, b] = [ix xs (k * 2), ix xs (k * 2 + 1)]))) rfl (OpQ.y (OpY.eqStruct (xs := [a, b]) (ys := [ix xs (k * 2), ix xs (k * 2 + 1)]) Tns_77_2 rfl rfl rfl rfl)) ?_
      refine Lex.done ?_
      refine Run.cond (b := decide ([a, b] = [ix xs (k * 2), ix xs (k * 2 + 1)])) rfl (fun h16 => ?_) (fun h16 => ?_)
      · have p16 := h16; try simp only [bs] at p16
        refine Run.seq ?_
        have hres : findI (joinAt xs a b) n = k := findI_hit hinv.2 (by simp only [joinAt, decide_eq_true_eq]; omega) hltk
        refine Run.region ?_
        refine Run.q (v := .int .i64 (((k : Nat) : Int))) rfl (OpQ.y (OpY.pure rfl)) ?_
        refine Run.q (v := .int .i64 (((k : Nat) : Int))) rfl (OpQ.y (OpY.pure rfl)) ?_
        refine Run.done ?_
        refine Run.ret ?_
        refine ⟨.int .i64 (((k : Nat) : Int)), [], Out.one rfl rfl, (Some'.weak (.nil _)), ?_⟩
        show _ = _; rw [hres]
      · have p16 := h16; try simp only [bs] at p16
        refine Run.skip ?_
        refine Run.blockEnd ?_
        have hgood : joinAt xs a b k = false := by simp only [joinAt, decide_eq_false_iff_not]; omega
        refine Run.region ?_
        refine Run.q (v := .int .i64 ((((k : Nat) : Int)) + 1)) rfl (OpQ.y (OpY.add rfl rfl rfl (by omega) (by omega))) ?_
        refine Run.q (v := .int .i64 ((((k : Nat) : Int)) + 1)) rfl (OpQ.y (OpY.pure rfl)) ?_
        refine Run.done ?_
        refine Run.goal ⟨(by repeat (first | exact Same.refl _ _ | refine Same.put rfl ?_ | refine Same.over rfl rfl ?_)), k + 1, ?_, ?_, ?_, ?_⟩
        · refine ⟨by omega, ?_⟩
          intro i hi
          rcases Nat.lt_succ_iff_lt_or_eq.1 hi with h | h
          · exact hinv.2 i h
          · rw [h]; exact hgood
        · omega
        · exact ⟨(by first | rfl | (congr 1; omega) | simp), trivial⟩
        · exact (Some'.weak (.take (.nil _)))
    · have p9 := h9; try simp only [bs] at p9
      have hknk : k = n := by omega
      have hres : findI (joinAt xs a b) n = -1 := by rw [← hknk]; exact findI_none hinv.2
      refine Run.exit rfl ?_
      refine Run.seq ?_
      refine Run.region ?_
      refine Run.q (v := .int .i64 (-1)) rfl (OpQ.y (OpY.pure rfl)) ?_
      refine Run.done ?_
      refine Run.ret ?_
      refine ⟨.int .i64 (-1), [], Out.one rfl rfl, (Some'.weak (.nil _)), ?_⟩
      show _ = _; rw [hres]

set_option maxHeartbeats 1000000 in
set_option maxRecDepth 20000 in
theorem ContainsEdge_spec {a b : Int} {va : Value} {n : Nat} {xs : List Int} {w : World} (ha : Sl w va 2 n (ints xs)) : Calls Try.prog 101 #[va, .agg #[.int .i64 a, .int .i64 b]] w (Post No w fun v _ => v = .bool (anyI (joinAt xs a b) n)) := by
  refine enter (n := 9) (args := [va, .agg #[.int .i64 a, .int .i64 b]]) Try.func101 rfl rfl (St.empty _ _) ?_
  refine Run.seq ?_
  refine Run.region ?_
  refine Run.step rfl (OpStep.box (us := [.int .i64 a, .int .i64 b]) rfl fun b1 => ?_)
  refine Run.q (v := .bool false) rfl (OpQ.y (OpY.pure rfl)) ?_
  refine Run.done ?_
  refine Run.seq ?_
  refine Run.region ?_
  refine Run.q (v := va) rfl (OpQ.y (OpY.pure rfl)) ?_
  refine Run.q (v := .agg #[.int .i64 a, .int .i64 b]) rfl (OpQ.y (OpY.loadN (cs := [.int .i64 a, .int .i64 b]) Tagg_77 rfl (Cells.blk (.head _) ⟨rfl, rfl, trivial⟩))) ?_
  refine Run.q (v := .int .i64 (findI (joinAt xs a b) n)) rfl (OpQ.call (vs := [va, .agg #[.int .i64 a, .int .i64 b]]) (caps := []) Tcall_104 rfl rfl (fun w hs => IndexEdge_spec (hs.sl ha))) ?_
  refine Run.q (v := .bool (decide ((findI (joinAt xs a b) n) ≥ 0))) rfl (OpQ.y (OpY.pure rfl)) ?_
  refine Run.q (v := .bool (decide ((findI (joinAt xs a b) n) ≥ 0))) rfl (OpQ.y (OpY.pure rfl)) ?_
  refine Run.done ?_
  refine Run.ret ?_
  refine ⟨.bool (decide ((findI (joinAt xs a b) n) ≥ 0)), [], Out.one rfl rfl, (Some'.weak (.nil _)), ?_⟩
  show _ = _; rw [findI_ge]

set_option maxHeartbeats 1000000 in
set_option maxRecDepth 20000 in
theorem joins_spec {N a b : Int} {va : Value} {n : Nat} {xs : List Int} {w : World} (ha : Sl w va 2 n (ints xs)) : Calls Try.prog 90 #[.agg #[.int .i64 N, va], .int .i64 a, .int .i64 b] w (Post No w fun v _ => v = .bool (anyI (joinAt xs (min a b) (max a b)) n)) := by
  refine enter (n := 17) (args := [.agg #[.int .i64 N, va], .int .i64 a, .int .i64 b]) Try.func90 rfl rfl (St.empty _ _) ?_
  refine Run.seq ?_
  refine Run.region ?_
  refine Run.step rfl (OpStep.box (us := [.int .i64 N, va]) rfl fun b1 => ?_)
  refine Run.q (v := .bool false) rfl (OpQ.y (OpY.pure rfl)) ?_
  refine Run.done ?_
  refine Run.seq ?_
  refine Run.region ?_
  refine Run.q (v := .pointer (some ⟨b1, 1, none⟩)) rfl (OpQ.y (OpY.fieldAddr Tfo_35_1 rfl rfl)) ?_
  refine Run.q (v := va) rfl (OpQ.y (OpY.load1 Tone_33 rfl (Cells.blk (.head _) ⟨rfl, trivial⟩))) ?_
  refine Run.q (v := .int .i64 a) rfl (OpQ.y (OpY.pure rfl)) ?_
  refine Run.q (v := .int .i64 b) rfl (OpQ.y (OpY.pure rfl)) ?_
  refine Run.q (v := .int .i64 (min a b)) rfl (OpQ.y (OpY.min rfl rfl)) ?_
  refine Run.q (v := .int .i64 a) rfl (OpQ.y (OpY.pure rfl)) ?_
  refine Run.q (v := .int .i64 b) rfl (OpQ.y (OpY.pure rfl)) ?_
  refine Run.q (v := .int .i64 (max a b)) rfl (OpQ.y (OpY.max rfl rfl)) ?_
  refine Run.q (v := .agg #[.int .i64 (min a b), .int .i64 (max a b)]) rfl (OpQ.y (OpY.build (cs := [.int .i64 (min a b), .int .i64 (max a b)]) (by kernel_rfl))) ?_
  refine Run.q (v := .bool (anyI (joinAt xs (min a b) (max a b)) n)) rfl (OpQ.call (vs := [va, .agg #[.int .i64 (min a b), .int .i64 (max a b)]]) (caps := []) Tcall_101 rfl rfl (fun w hs => ContainsEdge_spec (hs.sl ha))) ?_
  refine Run.q (v := .bool (anyI (joinAt xs (min a b) (max a b)) n)) rfl (OpQ.y (OpY.pure rfl)) ?_
  refine Run.done ?_
  refine Run.ret ?_
  refine ⟨.bool (anyI (joinAt xs (min a b) (max a b)) n), [], Out.one rfl rfl, (Some'.weak (.nil _)), ?_⟩
  rfl

set_option maxHeartbeats 1000000 in
set_option maxRecDepth 20000 in
theorem l23Placement_spec {N q : Int} {vg va : Value} {n : Nat} {xs : List Int} {w : World} (hN : 1 ≤ N ∧ N ≤ 8) (ha : Sl w va 1 n (ints xs)) : Calls Try.prog 35 #[.agg #[.int .i64 N, vg], .int .i64 q, va] w (Post No w fun v _ => v = .bool (placeOk N xs n && decide ((n : Int) = q))) := by
  have hxl := ha.len
  have hn := ha.le
  obtain ⟨A, c, rfl, _, _⟩ := ha.form0
  refine enter (n := 34) (args := [.agg #[.int .i64 N, vg], .int .i64 q, .slice A n c]) Try.func35 rfl rfl (St.empty _ _) ?_
  refine Run.seq ?_
  refine Run.region ?_
  refine Run.step rfl (OpStep.box (us := [.int .i64 N, vg]) rfl fun b1 => ?_)
  refine Run.q (v := .bool false) rfl (OpQ.y (OpY.pure rfl)) ?_
  refine Run.done ?_
  refine Run.seq ?_
  refine Run.seq ?_
  refine Run.region ?_
  refine Run.q (v := .slice A n c) rfl (OpQ.y (OpY.pure rfl)) ?_
  refine Run.q (v := .int .i64 (((n : Nat) : Int))) rfl (OpQ.y (OpY.len Tsl_28 rfl)) ?_
  refine Run.q (v := .int .i64 0) rfl (OpQ.y (OpY.pure rfl)) ?_
  refine Run.done ?_
  refine Run.block ?_
  refine Run.loop (ι := Nat) [6, 7, 8, 11, 12, 13, 14, 15, 16, 17, 18, 19, 20, 21, 22, 23, 24, 25, 26, 27, 28, 29] (fun k => [(11, .int .i64 (((k : Nat) : Int)))]) (fun k => [.blk b1 35 [.int .i64 N, vg]]) (fun k => k ≤ n ∧ (∀ i, i < k → (within (ix xs i) 0 (N - 1) && !hasI xs (ix xs i) i) = true)) (fun k => n - k) 0 ?_ ?_ ?_ ?_
  · exact ⟨Nat.zero_le _, by first | trivial | (intro i hi; omega)⟩
  · exact ⟨rfl, trivial⟩
  · exact (Some'.weak (.take (.nil _)))
  · rintro k fr hinv
    show Run _ _ (over _ _ [(11, .int .i64 (((k : Nat) : Int)))] fr) [.blk b1 35 [.int .i64 N, vg]]
    try dsimp only at hinv
    refine Run.seq ?_
    refine Run.region ?_
    refine Run.q (v := .bool (decide ((((k : Nat) : Int)) < (((n : Nat) : Int))))) rfl (OpQ.y (OpY.pure rfl)) ?_
    refine Run.done ?_
    refine Run.seq ?_
    refine Run.cond (b := decide ((((k : Nat) : Int)) < (((n : Nat) : Int)))) rfl (fun h12 => ?_) (fun h12 => ?_)
    · have p12 := h12; try simp only [bs] at p12
      have hltk : k < n := by omega
      obtain ⟨b, o, rfl⟩ := ha.opn (by omega)
      refine Run.skip ?_
      refine Run.seq ?_
      refine Run.block ?_
      refine Run.seq ?_
      refine Run.region ?_
      refine Run.q (v := .int .i64 (((k : Nat) : Int))) rfl (OpQ.y (OpY.pure rfl)) ?_
      refine Run.q (v := .pointer (some ⟨b, o + k, none⟩)) rfl (OpQ.y (OpY.index (kk := k) Tsl_28 rfl rfl (by omega) (by omega) (by first | rfl | omega))) ?_
      refine Run.q (v := .int .i64 (ix xs (k))) rfl (OpQ.y (OpY.load1 Tone_3 rfl (Cells.arg (k := k) ha rfl (by omega) (pre1 (by omega))))) ?_
      refine Run.q (v := .int .i64 (((k : Nat) : Int))) rfl (OpQ.y (OpY.pure rfl)) ?_
      refine Run.q (v := .int .i64 (ix xs (k))) rfl (OpQ.y (OpY.pure rfl)) ?_
      refine Run.done ?_
      refine Run.seq ?_
      refine Run.region ?_
      refine Run.q (v := .int .i64 (ix xs (k))) rfl (OpQ.y (OpY.pure rfl)) ?_
      refine Run.q (v := .pointer (some ⟨b1, 0, none⟩)) rfl (OpQ.y (OpY.fieldAddr Tfo_35_0 rfl rfl)) ?_
      refine Run.q (v := .int .i64 N) rfl (OpQ.y (OpY.load1 Tone_3 rfl (Cells.blk (.head _) ⟨rfl, trivial⟩))) ?_
      refine Run.q (v := .int .i64 (N - 1)) rfl (OpQ.y (OpY.sub rfl rfl rfl (by omega) (by omega))) ?_
      refine Run.q (v := .bool (within (ix xs (k)) 0 (N - 1))) rfl (OpQ.call (vs := [.int .i64 (ix xs (k)), .int .i64 0, .int .i64 (N - 1)]) (caps := []) Tcall_61 rfl rfl (fun w hs => l1In_spec _ _ _ w)) ?_
      refine Run.q (v := .bool (!(within (ix xs (k)) 0 (N - 1)))) rfl (OpQ.y (OpY.pure rfl)) ?_
      rcases Bool.eq_false_or_eq_true (!(within (ix xs (k)) 0 (N - 1))) with h22 | h22
      · refine Run.q (v := .bool true) rfl (OpQ.y (OpY.moveB rfl h22)) ?_
        have p22 := h22; try simp only [bs] at p22
        refine Run.pass rfl ?_
        refine Run.pass rfl ?_
        refine Run.pass rfl ?_
        refine Run.pass rfl ?_
        refine Run.pass rfl ?_
        refine Run.q (v := .bool true) rfl (OpQ.y (OpY.pure rfl)) ?_
        refine Run.done ?_
        refine Run.cond (b := true) rfl (fun _ => ?_) (fun h => nomatch h)
        refine Run.seq ?_
        have hres : placeOk N xs n = false := by
          refine allI_false hltk ?_
          first | (rw [p22]; rfl) | (rw [hasI_take] at p28; rw [p28]; simp)
        refine Run.region ?_
        refine Run.q (v := .bool false) rfl (OpQ.y (OpY.pure rfl)) ?_
        refine Run.done ?_
        refine Run.ret ?_
        refine ⟨.bool false, [], Out.one rfl rfl, (Some'.weak (.nil _)), ?_⟩
        show _ = _; first | (rw [hres]; rfl) | (rw [hres, Bool.true_and]; rfl)
      · refine Run.q (v := .bool false) rfl (OpQ.y (OpY.moveB rfl h22)) ?_
        have p22 := h22; try simp only [bs] at p22
        refine Run.q (v := .slice (some ⟨b, o, none⟩) n c) rfl (OpQ.y (OpY.pure rfl)) ?_
        refine Run.q (v := .int .i64 (((k : Nat) : Int))) rfl (OpQ.y (OpY.pure rfl)) ?_
        refine Run.q (v := .slice (some ⟨b, o, none⟩) k c) rfl (OpQ.y (OpY.sliceHN (h := k) Tsl_28 rfl rfl rfl (by omega))) ?_
        refine Run.q (v := .int .i64 (ix xs (k))) rfl (OpQ.y (OpY.pure rfl)) ?_
        refine Run.q (v := .bool (hasI (xs.take (k * 1)) (ix xs (k)) k)) rfl (OpQ.call (vs := [.slice (some ⟨b, o, none⟩) k c, .int .i64 (ix xs (k))]) (caps := []) Tcall_62 rfl rfl (fun w hs => l1Has_spec ((hs.sl ha).take (by omega)))) ?_
        refine Run.q (v := .bool (hasI (xs.take (k * 1)) (ix xs (k)) k)) rfl (OpQ.y (OpY.pure rfl)) ?_
        refine Run.done ?_
        refine Run.cond (b := hasI (xs.take (k * 1)) (ix xs (k)) k) rfl (fun h28 => ?_) (fun h28 => ?_)
        · have p28 := h28; try simp only [bs] at p28
          refine Run.seq ?_
          have hres : placeOk N xs n = false := by
            refine allI_false hltk ?_
            first | (rw [p22]; rfl) | (rw [hasI_take] at p28; rw [p28]; simp)
          refine Run.region ?_
          refine Run.q (v := .bool false) rfl (OpQ.y (OpY.pure rfl)) ?_
          refine Run.done ?_
          refine Run.ret ?_
          refine ⟨.bool false, [], Out.one rfl rfl, (Some'.weak (.nil _)), ?_⟩
          show _ = _; first | (rw [hres]; rfl) | (rw [hres, Bool.true_and]; rfl)
        · have p28 := h28; try simp only [bs] at p28
          refine Run.skip ?_
          refine Run.blockEnd ?_
          have hgood : (within (ix xs k) 0 (N - 1) && !hasI xs (ix xs k) k) = true := by
            rw [hasI_take] at p28; rw [p22, p28]; rfl
          refine Run.region ?_
          refine Run.q (v := .int .i64 ((((k : Nat) : Int)) + 1)) rfl (OpQ.y (OpY.add rfl rfl rfl (by omega) (by omega))) ?_
          refine Run.q (v := .int .i64 ((((k : Nat) : Int)) + 1)) rfl (OpQ.y (OpY.pure rfl)) ?_
          refine Run.done ?_
          refine Run.goal ⟨(by repeat (first | exact Same.refl _ _ | refine Same.put rfl ?_ | refine Same.over rfl rfl ?_)), k + 1, ?_, ?_, ?_, ?_⟩
          · refine ⟨by omega, ?_⟩
            intro i hi
            rcases Nat.lt_succ_iff_lt_or_eq.1 hi with h | h
            · exact hinv.2 i h
            · rw [h]; exact hgood
          · omega
          · exact ⟨(by first | rfl | (congr 1; omega) | simp), trivial⟩
          · exact (Some'.weak (.take (.nil _)))
    · have p12 := h12; try simp only [bs] at p12
      have hknk : k = n := by omega
      have hres : placeOk N xs n = true := by rw [← hknk]; exact allI_iff.2 hinv.2
      refine Run.exit rfl ?_
      refine Run.seq ?_
      refine Run.region ?_
      refine Run.q (v := .slice A n c) rfl (OpQ.y (OpY.pure rfl)) ?_
      refine Run.q (v := .int .i64 (((n : Nat) : Int))) rfl (OpQ.y (OpY.len Tsl_28 rfl)) ?_
      refine Run.q (v := .int .i64 q) rfl (OpQ.y (OpY.pure rfl)) ?_
      refine Run.q (v := .bool ((((n : Nat) : Int)) == q)) rfl (OpQ.y (OpY.pure rfl)) ?_
      refine Run.q (v := .bool ((((n : Nat) : Int)) == q)) rfl (OpQ.y (OpY.pure rfl)) ?_
      refine Run.done ?_
      refine Run.ret ?_
      refine ⟨.bool ((((n : Nat) : Int)) == q), [], Out.one rfl rfl, (Some'.weak (.nil _)), ?_⟩
      show _ = _; first | (rw [hres]; rfl) | (rw [hres, Bool.true_and]; rfl)

set_option maxHeartbeats 1000000 in
set_option maxRecDepth 20000 in
theorem isPlacement_spec {N q : Int} {vg va : Value} {n : Nat} {xs : List Int} {w : World} (hN : 1 ≤ N ∧ N ≤ 8) (ha : Sl w va 1 n (ints xs)) : Calls Try.prog 49 #[.agg #[.int .i64 N, vg], .int .i64 q, va] w (Post No w fun v _ => v = .bool (placeOk N xs n && decide ((n : Int) = q))) := by
  have hxl := ha.len
  have hn := ha.le
  obtain ⟨A, c, rfl, _, _⟩ := ha.form0
  refine enter (n := 34) (args := [.agg #[.int .i64 N, vg], .int .i64 q, .slice A n c]) Try.func49 rfl rfl (St.empty _ _) ?_
  refine Run.seq ?_
  refine Run.region ?_
  refine Run.step rfl (OpStep.box (us := [.int .i64 N, vg]) rfl fun b1 => ?_)
  refine Run.q (v := .bool false) rfl (OpQ.y (OpY.pure rfl)) ?_
  refine Run.done ?_
  refine Run.seq ?_
  refine Run.seq ?_
  refine Run.region ?_
  refine Run.q (v := .slice A n c) rfl (OpQ.y (OpY.pure rfl)) ?_
  refine Run.q (v := .int .i64 (((n : Nat) : Int))) rfl (OpQ.y (OpY.len Tsl_28 rfl)) ?_
  refine Run.q (v := .int .i64 0) rfl (OpQ.y (OpY.pure rfl)) ?_
  refine Run.done ?_
  refine Run.block ?_
  refine Run.loop (ι := Nat) [6, 7, 8, 11, 12, 13, 14, 15, 16, 17, 18, 19, 20, 21, 22, 23, 24, 25, 26, 27, 28, 29] (fun k => [(11, .int .i64 (((k : Nat) : Int)))]) (fun k => [.blk b1 35 [.int .i64 N, vg]]) (fun k => k ≤ n ∧ (∀ i, i < k → (within (ix xs i) 0 (N - 1) && !hasI xs (ix xs i) i) = true)) (fun k => n - k) 0 ?_ ?_ ?_ ?_
  · exact ⟨Nat.zero_le _, by first | trivial | (intro i hi; omega)⟩
  · exact ⟨rfl, trivial⟩
  · exact (Some'.weak (.take (.nil _)))
  · rintro k fr hinv
    show Run _ _ (over _ _ [(11, .int .i64 (((k : Nat) : Int)))] fr) [.blk b1 35 [.int .i64 N, vg]]
    try dsimp only at hinv
    refine Run.seq ?_
    refine Run.region ?_
    refine Run.q (v := .bool (decide ((((k : Nat) : Int)) < (((n : Nat) : Int))))) rfl (OpQ.y (OpY.pure rfl)) ?_
    refine Run.done ?_
    refine Run.seq ?_
    refine Run.cond (b := decide ((((k : Nat) : Int)) < (((n : Nat) : Int)))) rfl (fun h12 => ?_) (fun h12 => ?_)
    · have p12 := h12; try simp only [bs] at p12
      have hltk : k < n := by omega
      obtain ⟨b, o, rfl⟩ := ha.opn (by omega)
      refine Run.skip ?_
      refine Run.seq ?_
      refine Run.block ?_
      refine Run.seq ?_
      refine Run.region ?_
      refine Run.q (v := .int .i64 (((k : Nat) : Int))) rfl (OpQ.y (OpY.pure rfl)) ?_
      refine Run.q (v := .pointer (some ⟨b, o + k, none⟩)) rfl (OpQ.y (OpY.index (kk := k) Tsl_28 rfl rfl (by omega) (by omega) (by first | rfl | omega))) ?_
      refine Run.q (v := .int .i64 (ix xs (k))) rfl (OpQ.y (OpY.load1 Tone_3 rfl (Cells.arg (k := k) ha rfl (by omega) (pre1 (by omega))))) ?_
      refine Run.q (v := .int .i64 (((k : Nat) : Int))) rfl (OpQ.y (OpY.pure rfl)) ?_
      refine Run.q (v := .int .i64 (ix xs (k))) rfl (OpQ.y (OpY.pure rfl)) ?_
      refine Run.done ?_
      refine Run.seq ?_
      refine Run.region ?_
      refine Run.q (v := .int .i64 (ix xs (k))) rfl (OpQ.y (OpY.pure rfl)) ?_
      refine Run.q (v := .pointer (some ⟨b1, 0, none⟩)) rfl (OpQ.y (OpY.fieldAddr Tfo_35_0 rfl rfl)) ?_
      refine Run.q (v := .int .i64 N) rfl (OpQ.y (OpY.load1 Tone_3 rfl (Cells.blk (.head _) ⟨rfl, trivial⟩))) ?_
      refine Run.q (v := .int .i64 (N - 1)) rfl (OpQ.y (OpY.sub rfl rfl rfl (by omega) (by omega))) ?_
      refine Run.q (v := .bool (within (ix xs (k)) 0 (N - 1))) rfl (OpQ.call (vs := [.int .i64 (ix xs (k)), .int .i64 0, .int .i64 (N - 1)]) (caps := []) Tcall_73 rfl rfl (fun w hs => within_spec _ _ _ w)) ?_
      refine Run.q (v := .bool (!(within (ix xs (k)) 0 (N - 1)))) rfl (OpQ.y (OpY.pure rfl)) ?_
      rcases Bool.eq_false_or_eq_true (!(within (ix xs (k)) 0 (N - 1))) with h22 | h22
      · refine Run.q (v := .bool true) rfl (OpQ.y (OpY.moveB rfl h22)) ?_
        have p22 := h22; try simp only [bs] at p22
        refine Run.pass rfl ?_
        refine Run.pass rfl ?_
        refine Run.pass rfl ?_
        refine Run.pass rfl ?_
        refine Run.pass rfl ?_
        refine Run.q (v := .bool true) rfl (OpQ.y (OpY.pure rfl)) ?_
        refine Run.done ?_
        refine Run.cond (b := true) rfl (fun _ => ?_) (fun h => nomatch h)
        refine Run.seq ?_
        have hres : placeOk N xs n = false := by
          refine allI_false hltk ?_
          first | (rw [p22]; rfl) | (rw [hasI_take] at p28; rw [p28]; simp)
        refine Run.region ?_
        refine Run.q (v := .bool false) rfl (OpQ.y (OpY.pure rfl)) ?_
        refine Run.done ?_
        refine Run.ret ?_
        refine ⟨.bool false, [], Out.one rfl rfl, (Some'.weak (.nil _)), ?_⟩
        show _ = _; first | (rw [hres]; rfl) | (rw [hres, Bool.true_and]; rfl)
      · refine Run.q (v := .bool false) rfl (OpQ.y (OpY.moveB rfl h22)) ?_
        have p22 := h22; try simp only [bs] at p22
        refine Run.q (v := .slice (some ⟨b, o, none⟩) n c) rfl (OpQ.y (OpY.pure rfl)) ?_
        refine Run.q (v := .int .i64 (((k : Nat) : Int))) rfl (OpQ.y (OpY.pure rfl)) ?_
        refine Run.q (v := .slice (some ⟨b, o, none⟩) k c) rfl (OpQ.y (OpY.sliceHN (h := k) Tsl_28 rfl rfl rfl (by omega))) ?_
        refine Run.q (v := .int .i64 (ix xs (k))) rfl (OpQ.y (OpY.pure rfl)) ?_
        refine Run.q (v := .bool (hasI (xs.take (k * 1)) (ix xs (k)) k)) rfl (OpQ.call (vs := [.slice (some ⟨b, o, none⟩) k c, .int .i64 (ix xs (k))]) (caps := []) Tcall_72 rfl rfl (fun w hs => ContainsInt_spec ((hs.sl ha).take (by omega)))) ?_
        refine Run.q (v := .bool (hasI (xs.take (k * 1)) (ix xs (k)) k)) rfl (OpQ.y (OpY.pure rfl)) ?_
        refine Run.done ?_
        refine Run.cond (b := hasI (xs.take (k * 1)) (ix xs (k)) k) rfl (fun h28 => ?_) (fun h28 => ?_)
        · have p28 := h28; try simp only [bs] at p28
          refine Run.seq ?_
          have hres : placeOk N xs n = false := by
            refine allI_false hltk ?_
            first | (rw [p22]; rfl) | (rw [hasI_take] at p28; rw [p28]; simp)
          refine Run.region ?_
          refine Run.q (v := .bool false) rfl (OpQ.y (OpY.pure rfl)) ?_
          refine Run.done ?_
          refine Run.ret ?_
          refine ⟨.bool false, [], Out.one rfl rfl, (Some'.weak (.nil _)), ?_⟩
          show _ = _; first | (rw [hres]; rfl) | (rw [hres, Bool.true_and]; rfl)
        · have p28 := h28; try simp only [bs] at p28
          refine Run.skip ?_
          refine Run.blockEnd ?_
          have hgood : (within (ix xs k) 0 (N - 1) && !hasI xs (ix xs k) k) = true := by
            rw [hasI_take] at p28; rw [p22, p28]; rfl
          refine Run.region ?_
          refine Run.q (v := .int .i64 ((((k : Nat) : Int)) + 1)) rfl (OpQ.y (OpY.add rfl rfl rfl (by omega) (by omega))) ?_
          refine Run.q (v := .int .i64 ((((k : Nat) : Int)) + 1)) rfl (OpQ.y (OpY.pure rfl)) ?_
          refine Run.done ?_
          refine Run.goal ⟨(by repeat (first | exact Same.refl _ _ | refine Same.put rfl ?_ | refine Same.over rfl rfl ?_)), k + 1, ?_, ?_, ?_, ?_⟩
          · refine ⟨by omega, ?_⟩
            intro i hi
            rcases Nat.lt_succ_iff_lt_or_eq.1 hi with h | h
            · exact hinv.2 i h
            · rw [h]; exact hgood
          · omega
          · exact ⟨(by first | rfl | (congr 1; omega) | simp), trivial⟩
          · exact (Some'.weak (.take (.nil _)))
    · have p12 := h12; try simp only [bs] at p12
      have hknk : k = n := by omega
      have hres : placeOk N xs n = true := by rw [← hknk]; exact allI_iff.2 hinv.2
      refine Run.exit rfl ?_
      refine Run.seq ?_
      refine Run.region ?_
      refine Run.q (v := .slice A n c) rfl (OpQ.y (OpY.pure rfl)) ?_
      refine Run.q (v := .int .i64 (((n : Nat) : Int))) rfl (OpQ.y (OpY.len Tsl_28 rfl)) ?_
      refine Run.q (v := .int .i64 q) rfl (OpQ.y (OpY.pure rfl)) ?_
      refine Run.q (v := .bool ((((n : Nat) : Int)) == q)) rfl (OpQ.y (OpY.pure rfl)) ?_
      refine Run.q (v := .bool ((((n : Nat) : Int)) == q)) rfl (OpQ.y (OpY.pure rfl)) ?_
      refine Run.done ?_
      refine Run.ret ?_
      refine ⟨.bool ((((n : Nat) : Int)) == q), [], Out.one rfl rfl, (Some'.weak (.nil _)), ?_⟩
      show _ = _; first | (rw [hres]; rfl) | (rw [hres, Bool.true_and]; rfl)

end Go.Proofs.Ytekikmdjldincaa
