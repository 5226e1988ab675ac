/- Walks: searches in slices, placements, neighbours in a coupling graph. -/
import Derived.Test.YtoiaibgcjfgbcaaCg2
import Derived.Test.YtoiaibgcjfgbcaaFind
import Derived.Test.YtoiaibgcjfgbcaaProg
set_option linter.unusedSimpArgs false
set_option linter.unusedVariables false
namespace Go.Proofs.Ytoiaibgcjfgbcaa
open Go Go.RowKit
namespace Cg3T
theorem Tcall_53 : callable Try.prog 53 = true := by kernel_rfl
theorem Tone_3 : oneOf Try.prog 3 = true := by kernel_rfl
theorem Tsl_24 : sliceOf Try.prog 24 = some (3, 1, 8, [.int .i64 0]) := by kernel_rfl
end Cg3T
open Cg3T
set_option maxHeartbeats 1000000 in
set_option maxRecDepth 20000 in
theorem l1Has_spec {va : Value} {n : Nat} {xs : List Int} {x : Int} {w : World} (ha : Sl w va 1 n (ints xs)) : Calls Try.prog 62 #[va, .int .i64 x] w (Post No w fun v _ => v = .bool (hasI xs x n)) := by
 have hxl := ha.len
 have hn := ha.le
 obtain ⟨A, c, rfl, _, _⟩ := ha.form0
 refine enter (n := 17) (args := [.slice A n c, .int .i64 x]) Try.func62 rfl rfl (St.empty _ _) ?_
 refine Run.sr ?_
 refine Run.p (.bool false) rfl rfl ?_
 refine Run.done ?_
 refine Run.seq ?_
 refine Run.sr ?_
 refine Run.p (.slice A n c) rfl rfl ?_
 refine Run.y (.int .i64 (((n : Nat) : Int))) rfl (OpY.len Tsl_24 rfl) ?_
 refine Run.p (.int .i64 0) rfl rfl ?_
 refine Run.done ?_
 refine Run.block ?_
 refine Run.loop (ι := Nat) [4, 6, 9, 10, 11, 12, 13, 14, 15, 16] (fun k => [(9, .int .i64 (((k : Nat) : Int)))]) (fun k => []) (fun k => k ≤ n ∧ (∀ i, i < k → decide (ix xs i = x) = false)) (fun k => n - k) 0 ?_ ?_ ?_ ?_
 ·exact ⟨Nat.zero_le _, by first | trivial | (intro i hi; omega)⟩
 ·exact ⟨rfl, trivial⟩
 ·exact (Some'.weak (.nil _))
 ·rintro k fr hinv
  show Run _ _ (over _ _ [(9, .int .i64 (((k : Nat) : Int)))] fr) []
  try dsimp only at hinv
  refine Run.sr ?_
  refine Run.p (.bool (decide ((((k : Nat) : Int)) < (((n : Nat) : Int))))) rfl rfl ?_
  refine Run.done ?_
  refine Run.seq ?_
  refine Run.cond (b := decide ((((k : Nat) : Int)) < (((n : Nat) : Int)))) rfl (fun h10 => ?_) (fun h10 => ?_)
  ·have p10 := h10; try simp only [bs] at p10
   have hltk : k < n := by omega
   obtain ⟨b, o, rfl⟩ := ha.opn (by omega)
   refine Run.skip ?_
   refine Run.seq ?_
   refine Run.block ?_
   refine Run.sr ?_
   refine Run.y (.pointer (some ⟨b, o + k, none⟩)) rfl (OpY.index (kk := k) Tsl_24 rfl rfl (by omega) (by omega) (by first | rfl | omega)) ?_
   refine Run.y (.int .i64 (ix xs (k))) rfl (OpY.load1 Tone_3 rfl (Cells.arg (k := k) ha rfl (by omega) (pre1 (by omega)))) ?_
   refine Run.p (.int .i64 (ix xs (k))) rfl rfl ?_
   refine Run.dsr ?_
   refine Run.p (.int .i64 (ix xs (k))) rfl rfl ?_
   refine Run.p (.int .i64 x) rfl rfl ?_
   refine Run.p (.bool ((ix xs (k)) == x)) rfl rfl ?_
   refine Run.done ?_
   refine Run.cond (b := (ix xs (k)) == x) rfl (fun h15 => ?_) (fun h15 => ?_)
   ·have p15 := h15; try simp only [bs] at p15
    refine Run.seq ?_
    have hres : hasI xs x n = true := anyI_true hltk (by simpa using p15)
    refine Run.region ?_
    refine Run.p (.bool true) rfl rfl ?_
    refine Run.done ?_
    refine Run.ret ?_
    refine ⟨.bool true, [], Out.one rfl rfl, (Some'.weak (.nil _)), ?_⟩
    show _ = _; rw [hres]
   ·have p15 := h15; try simp only [bs] at p15
    refine Run.skip ?_
    refine Run.blockEnd ?_
    have hgood : decide (ix xs k = x) = false := by simpa using p15
    refine Run.region ?_
    refine Run.y (.int .i64 ((((k : Nat) : Int)) + 1)) rfl (OpY.add rfl rfl rfl (by omega) (by omega)) ?_
    refine Run.p (.int .i64 ((((k : Nat) : Int)) + 1)) rfl rfl ?_
    refine Run.done ?_
    refine Run.goal ⟨(by repeat (first | exact Same.refl _ _ | refine Same.put rfl ?_ | refine Same.over rfl rfl ?_)), k + 1, ?_, ?_, ?_, ?_⟩
    ·refine ⟨by omega, ?_⟩
     intro i hi
     rcases Nat.lt_succ_iff_lt_or_eq.1 hi with h | h
     ·exact hinv.2 i h
     ·rw [h]; exact hgood
    ·omega
    ·exact ⟨(by first | rfl | (congr 1; omega) | simp), trivial⟩
    ·exact (Some'.weak (.nil _))
  ·have p10 := h10; try simp only [bs] at p10
   have hknk : k = n := by omega
   have hres : hasI xs x n = false := by rw [← hknk]; exact anyI_false hinv.2
   refine Run.exit rfl ?_
   refine Run.sr ?_
   refine Run.p (.bool false) rfl rfl ?_
   refine Run.done ?_
   refine Run.ret ?_
   refine ⟨.bool false, [], Out.one rfl rfl, (Some'.weak (.nil _)), ?_⟩
   show _ = _; rw [hres]

set_option maxHeartbeats 1000000 in
set_option maxRecDepth 20000 in
theorem IndexInt_spec {va : Value} {n : Nat} {xs : List Int} {x : Int} {w : World} (ha : Sl w va 1 n (ints xs)) : Calls Try.prog 53 #[va, .int .i64 x] w (Post No w fun v _ => v = .int .i64 (findI (fun i => decide (ix xs i = x)) n)) := by
 have hxl := ha.len
 have hn := ha.le
 obtain ⟨A, c, rfl, _, _⟩ := ha.form0
 refine enter (n := 19) (args := [.slice A n c, .int .i64 x]) Try.func53 rfl rfl (St.empty _ _) ?_
 refine Run.sr ?_
 refine Run.p (.int .i64 0) rfl rfl ?_
 refine Run.done ?_
 refine Run.seq ?_
 refine Run.sr ?_
 refine Run.p (.slice A n c) rfl rfl ?_
 refine Run.y (.int .i64 (((n : Nat) : Int))) rfl (OpY.len Tsl_24 rfl) ?_
 refine Run.p (.int .i64 0) rfl rfl ?_
 refine Run.done ?_
 refine Run.block ?_
 refine Run.loop (ι := Nat) [4, 5, 8, 9, 10, 11, 12, 13, 14, 15, 16, 17, 18] (fun k => [(8, .int .i64 (((k : Nat) : Int)))]) (fun k => []) (fun k => k ≤ n ∧ (∀ i, i < k → decide (ix xs i = x) = false)) (fun k => n - k) 0 ?_ ?_ ?_ ?_
 ·exact ⟨Nat.zero_le _, by first | trivial | (intro i hi; omega)⟩
 ·exact ⟨rfl, trivial⟩
 ·exact (Some'.weak (.nil _))
 ·rintro k fr hinv
  show Run _ _ (over _ _ [(8, .int .i64 (((k : Nat) : Int)))] fr) []
  try dsimp only at hinv
  refine Run.sr ?_
  refine Run.p (.bool (decide ((((k : Nat) : Int)) < (((n : Nat) : Int))))) rfl rfl ?_
  refine Run.done ?_
  refine Run.seq ?_
  refine Run.cond (b := decide ((((k : Nat) : Int)) < (((n : Nat) : Int)))) rfl (fun h9 => ?_) (fun h9 => ?_)
  ·have p9 := h9; try simp only [bs] at p9
   have hltk : k < n := by omega
   obtain ⟨b, o, rfl⟩ := ha.opn (by omega)
   refine Run.skip ?_
   refine Run.seq ?_
   refine Run.block ?_
   refine Run.sr ?_
   refine Run.p (.int .i64 (((k : Nat) : Int))) rfl rfl ?_
   refine Run.p (.int .i64 (((k : Nat) : Int))) rfl rfl ?_
   refine Run.dsr ?_
   refine Run.p (.int .i64 x) rfl rfl ?_
   refine Run.p (.slice (some ⟨b, o, none⟩) n c) rfl rfl ?_
   refine Run.p (.int .i64 (((k : Nat) : Int))) rfl rfl ?_
   refine Run.y (.pointer (some ⟨b, o + k, none⟩)) rfl (OpY.index (kk := k) Tsl_24 rfl rfl (by omega) (by omega) (by first | rfl | omega)) ?_
   refine Run.y (.int .i64 (ix xs (k))) rfl (OpY.load1 Tone_3 rfl (Cells.arg (k := k) ha rfl (by omega) (pre1 (by omega)))) ?_
   refine Run.p (.bool (x == (ix xs (k)))) rfl rfl ?_
   refine Run.done ?_
   refine Run.cond (b := x == (ix xs (k))) rfl (fun h16 => ?_) (fun h16 => ?_)
   ·have p16 := h16; try simp only [bs] at p16
    refine Run.seq ?_
    have hres : findI (fun i => decide (ix xs i = x)) n = k := findI_hit hinv.2 (by simp; omega) hltk
    refine Run.region ?_
    refine Run.p (.int .i64 (((k : Nat) : Int))) rfl rfl ?_
    refine Run.p (.int .i64 (((k : Nat) : Int))) rfl rfl ?_
    refine Run.done ?_
    refine Run.ret ?_
    refine ⟨.int .i64 (((k : Nat) : Int)), [], Out.one rfl rfl, (Some'.weak (.nil _)), ?_⟩
    show _ = _; rw [hres]
   ·have p16 := h16; try simp only [bs] at p16
    refine Run.skip ?_
    refine Run.blockEnd ?_
    have hgood : decide (ix xs k = x) = false := by simp; omega
    refine Run.region ?_
    refine Run.y (.int .i64 ((((k : Nat) : Int)) + 1)) rfl (OpY.add rfl rfl rfl (by omega) (by omega)) ?_
    refine Run.p (.int .i64 ((((k : Nat) : Int)) + 1)) rfl rfl ?_
    refine Run.done ?_
    refine Run.goal ⟨(by repeat (first | exact Same.refl _ _ | refine Same.put rfl ?_ | refine Same.over rfl rfl ?_)), k + 1, ?_, ?_, ?_, ?_⟩
    ·refine ⟨by omega, ?_⟩
     intro i hi
     rcases Nat.lt_succ_iff_lt_or_eq.1 hi with h | h
     ·exact hinv.2 i h
     ·rw [h]; exact hgood
    ·omega
    ·exact ⟨(by first | rfl | (congr 1; omega) | simp), trivial⟩
    ·exact (Some'.weak (.nil _))
  ·have p9 := h9; try simp only [bs] at p9
   have hknk : k = n := by omega
   have hres : findI (fun i => decide (ix xs i = x)) n = -1 := by rw [← hknk]; exact findI_none hinv.2
   refine Run.exit rfl ?_
   refine Run.sr ?_
   refine Run.p (.int .i64 (-1)) rfl rfl ?_
   refine Run.done ?_
   refine Run.ret ?_
   refine ⟨.int .i64 (-1), [], Out.one rfl rfl, (Some'.weak (.nil _)), ?_⟩
   show _ = _; rw [hres]

set_option maxHeartbeats 1000000 in
set_option maxRecDepth 20000 in
theorem ContainsInt_spec {va : Value} {n : Nat} {xs : List Int} {x : Int} {w : World} (ha : Sl w va 1 n (ints xs)) : Calls Try.prog 30 #[va, .int .i64 x] w (Post No w fun v _ => v = .bool (hasI xs x n)) := by
 refine enter (n := 9) (args := [va, .int .i64 x]) Try.func30 rfl rfl (St.empty _ _) ?_
 refine Run.sr ?_
 refine Run.p (.bool false) rfl rfl ?_
 refine Run.dsr ?_
 refine Run.p (va) rfl rfl ?_
 refine Run.p (.int .i64 x) rfl rfl ?_
 refine Run.q (v := .int .i64 (findI (fun i => decide (ix xs i = x)) n)) rfl (OpQ.call (vs := [va, .int .i64 x]) (caps := []) Tcall_53 rfl rfl (fun w hs => IndexInt_spec (hs.sl ha))) ?_
 refine Run.p (.bool (decide ((findI (fun i => decide (ix xs i = x)) n) ≥ 0))) rfl rfl ?_
 refine Run.p (.bool (decide ((findI (fun i => decide (ix xs i = x)) n) ≥ 0))) rfl rfl ?_
 refine Run.done ?_
 refine Run.ret ?_
 refine ⟨.bool (decide ((findI (fun i => decide (ix xs i = x)) n) ≥ 0)), [], Out.one rfl rfl, (Some'.weak (.nil _)), ?_⟩
 show _ = _; rw [findI_ge]; rfl


def edgeAt (xs : List Int) (a b : Int) (i : Nat) : Bool := decide (ix xs (i * 2) = a ∧ ix xs (i * 2 + 1) = b ∨ ix xs (i * 2) = b ∧ ix xs (i * 2 + 1) = a)
def joinAt (xs : List Int) (a b : Int) (i : Nat) : Bool := decide (ix xs (i * 2) = a ∧ ix xs (i * 2 + 1) = b)
/-- Two nodes are connected. -/
def adj (xs : List Int) (n : Nat) (a b : Int) : Bool := anyI (edgeAt xs a b) n
theorem adj_join {N : Int} {xs : List Int} {n : Nat} (h : edgesOk N xs n = true) {a b : Int} (hab : a ≠ b) : anyI (joinAt xs (min a b) (max a b)) n = adj xs n a b := by
  refine anyI_congr fun i hi => ?_
  have h1 := (of_decide_eq_true h) i hi
  simp only [edgeOk] at h1
  unfold joinAt edgeAt
  rw [decide_eq_decide]
  omega
theorem adj_self {N : Int} {xs : List Int} {n : Nat} (h : edgesOk N xs n = true) (a : Int) : adj xs n a a = false := by
  refine anyI_false fun i hi => ?_
  have h1 := (of_decide_eq_true h) i hi
  simp only [edgeOk] at h1
  unfold edgeAt
  rw [decide_eq_false_iff_not]
  omega
theorem adj_comm (xs : List Int) (n : Nat) (a b : Int) : adj xs n a b = adj xs n b a := anyI_congr fun i _ => by
  unfold edgeAt
  rw [decide_eq_decide]
  omega
theorem cgOk_N {N : Int} {xs : List Int} {n : Nat} (h : cgOk N xs n = true) : 1 ≤ N ∧ N ≤ 8 := by
  simp only [cgOk, Bool.and_eq_true] at h; exact within_iff.1 h.1
theorem cgOk_edges {N : Int} {xs : List Int} {n : Nat} (h : cgOk N xs n = true) : edgesOk N xs n = true := by
  simp only [cgOk, Bool.and_eq_true] at h; exact h.2
def placeOk (N : Int) (xs : List Int) (m : Nat) : Bool := allI (fun i => within (ix xs i) 0 (N - 1) && !hasI xs (ix xs i) i) m
def nbL (N : Int) (xs : List Int) (n : Nat) (node : Int) : List Int := filterL (fun k => adj xs n node k) N.toNat

end Go.Proofs.Ytoiaibgcjfgbcaa
