/- Walks: valid edges, valid coupling graphs; the law FnExactIsValidCouplingGraph. -/
import Derived.Test.YtoiaibgcjfgbcaaCg
import Derived.Test.YtoiaibgcjfgbcaaFind
import Derived.Test.YtoiaibgcjfgbcaaProg
set_option linter.unusedSimpArgs false
set_option linter.unusedVariables false
namespace Go.Proofs.Ytoiaibgcjfgbcaa
open Go Go.RowKit
namespace Cg2T
theorem Tagg_80 : aggOf Try.prog 80 = some 2 := by kernel_rfl
theorem Tfo_80_0 : fieldOff Try.prog 80 0 = some 0 := by kernel_rfl
theorem Tfo_80_1 : fieldOff Try.prog 80 1 = some 1 := by kernel_rfl
theorem Tone_3 : oneOf Try.prog 3 = true := by kernel_rfl
theorem Tsize_80 : (Try.prog.info? 80).map (·.size) = some 2 := by kernel_rfl
theorem Tsl_23 : sliceOf Try.prog 23 = some (80, 2, 16, [.int .i64 0, .int .i64 0]) := by kernel_rfl
theorem Tzero_80 : zeroOf Try.prog 80 = some [.int .i64 0, .int .i64 0] := by kernel_rfl
end Cg2T
open Cg2T

/-- Edge i of a flat list of edges is in range and behind the one before it. -/
def edgeOk (N : Int) (xs : List Int) (i : Nat) : Prop :=
  0 ≤ ix xs (i * 2) ∧ ix xs (i * 2) < ix xs (i * 2 + 1) ∧ ix xs (i * 2 + 1) < N ∧ (0 < i → ix xs ((i - 1) * 2) < ix xs (i * 2) ∨ (ix xs ((i - 1) * 2) = ix xs (i * 2) ∧ ix xs ((i - 1) * 2 + 1) < ix xs (i * 2 + 1)))
instance (N : Int) (xs : List Int) (i : Nat) : Decidable (edgeOk N xs i) := by unfold edgeOk; infer_instance
def edgesOk (N : Int) (xs : List Int) (n : Nat) : Bool := decide (∀ i, i < n → edgeOk N xs i)
def dec (x : Int) : Int := if x = -9223372036854775808 then 9223372036854775807 else x - 1
theorem dec_cases (x : Int) : dec x = x - 1 ∨ (x = -9223372036854775808 ∧ dec x = 9223372036854775807) := by unfold dec; split <;> omega
theorem wrap_dec {x : Int} (h : In64 x) : IntKind.i64.wrap (x - 1) = dec x := by
  have h1 := h.1; have h2 := h.2
  unfold dec; split
  · rename_i e; subst e; rfl
  · rw [IntKind.wrap_i64]; omega
def cgOk (N : Int) (xs : List Int) (n : Nat) : Bool := within N 1 8 && edgesOk N xs n

set_option maxHeartbeats 1000000 in
set_option maxRecDepth 20000 in
theorem areEdges_spec {N : Int} {va : Value} {n : Nat} {xs : List Int} {w : World} (ha : Sl w va 2 n (ints xs)) : Calls Try.prog 50 #[.int .i64 N, va] w (Post No w fun v _ => v = .bool (edgesOk N xs n)) := by
 have hxl := ha.len
 have hn := ha.le
 obtain ⟨A, c, rfl, _, _⟩ := ha.form0
 refine enter (n := 68) (args := [.int .i64 N, .slice A n c]) Try.func50 rfl rfl (St.empty _ _) ?_
 refine Run.sr ?_
 refine Run.p (.bool false) rfl rfl ?_
 refine Run.done ?_
 refine Run.seq ?_
 refine Run.sr ?_
 refine Run.p (.slice A n c) rfl rfl ?_
 refine Run.y (.int .i64 (((n : Nat) : Int))) rfl (OpY.len Tsl_23 rfl) ?_
 refine Run.p (.int .i64 0) rfl rfl ?_
 refine Run.done ?_
 refine Run.block ?_
 refine Run.loop (ι := Nat) ([4, 5, 6, 9, 10, 11, 12, 13, 14, 15, 16, 17, 18, 19, 20, 21, 22, 23, 24, 25, 26, 27, 28, 29, 30, 31, 32, 33, 34, 35, 36, 37, 38, 39, 40, 41, 42, 43, 44, 45, 46, 47, 48, 49, 50, 51, 52, 53, 54, 55] ++ [56, 57, 58, 59, 60, 61, 62, 63, 64, 65, 66, 67]) (fun k => [(9, .int .i64 (((k : Nat) : Int)))]) (fun k => []) (fun k => k ≤ n ∧ ∀ i, i < k → edgeOk N xs i) (fun k => n - k) 0 ?_ ?_ ?_ ?_
 ·exact ⟨Nat.zero_le _, fun i hi => by omega⟩
 ·exact ⟨rfl, trivial⟩
 ·exact (Some'.weak (.nil _))
 ·rintro k fr hinv
  show Run _ _ (over _ _ [(9, .int .i64 (((k : Nat) : Int)))] fr) []
  try dsimp only at hinv
  refine Run.sr ?_
  refine Run.p (.bool (decide ((((k : Nat) : Int)) < (((n : Nat) : Int))))) rfl rfl ?_
  refine Run.done ?_
  refine Run.seq ?_
  refine Run.cond (b := decide ((((k : Nat) : Int)) < (((n : Nat) : Int)))) rfl (fun h10 => ?_) (fun h10 => ?_)
  ·have p10 := h10; try simp only [bs] at p10
   have hlt : k < n := by simp at h10; omega
   obtain ⟨b, o, rfl⟩ := ha.opn (by omega)
   refine Run.skip ?_
   refine Run.seq ?_
   refine Run.block ?_
   refine Run.sr ?_
   refine Run.p (.int .i64 (((k : Nat) : Int))) rfl rfl ?_
   refine Run.y (.pointer (some ⟨b, o + k * 2, none⟩)) rfl (OpY.index (kk := k) Tsl_23 rfl rfl (by omega) (by omega) (by first | rfl | omega)) ?_
   refine Run.y (.agg #[.int .i64 (ix xs (k * 2)), .int .i64 (ix xs (k * 2 + 1))]) rfl (OpY.loadN (cs := [.int .i64 (ix xs (k * 2)), .int .i64 (ix xs (k * 2 + 1))]) Tagg_80 rfl (Cells.arg (k := k * 2) ha rfl (by omega) (pre2 (by omega)))) ?_
   refine Run.step rfl (OpStep.alloc (zs := [.int .i64 0, .int .i64 0]) Tzero_80 fun b1 => ?_)
   refine Run.p (.int .i64 (((k : Nat) : Int))) rfl rfl ?_
   refine Run.step rfl (OpStep.storeAll (us := [.int .i64 (ix xs (k * 2)), .int .i64 (ix xs (k * 2 + 1))]) Tsize_80 rfl rfl rfl (.here _) rfl ?_)
   refine Run.done ?_
   refine Run.seq ?_
   refine Run.draws (by kernel_rfl) (by kernel_rfl) ?_
   refine Lex.q (v := .pointer (some ⟨b1, 0, none⟩)) rfl (OpQ.y (OpY.fieldAddr Tfo_80_0 rfl rfl)) ?_
   refine Lex.q (v := .int .i64 (ix xs (k * 2))) rfl (OpQ.y (OpY.load1 Tone_3 rfl (Cells.blk (.head _) ⟨rfl, trivial⟩))) ?_
   refine Lex.q (v := .bool (decide ((ix xs (k * 2)) < 0))) rfl (OpQ.y (OpY.pure rfl)) ?_
   rcases Bool.eq_false_or_eq_true (decide ((ix xs (k * 2)) < 0)) with h17 | h17
   ·refine Lex.q (v := .bool true) rfl (OpQ.y (OpY.moveB rfl h17)) ?_
    have p17 := h17; try simp only [bs] at p17
    refine Lex.pass rfl ?_
    refine Lex.pass rfl ?_
    refine Lex.pass rfl ?_
    refine Lex.pass rfl ?_
    refine Lex.pass rfl ?_
    refine Lex.q (v := .bool true) rfl (OpQ.y (OpY.pure rfl)) ?_
    refine Lex.q (v := .bool true) rfl (OpQ.y (OpY.pure rfl)) ?_
    refine Lex.pass rfl ?_
    refine Lex.pass rfl ?_
    refine Lex.pass rfl ?_
    refine Lex.pass rfl ?_
    refine Lex.q (v := .bool true) rfl (OpQ.y (OpY.pure rfl)) ?_
    refine Lex.q (v := .bool true) rfl (OpQ.y (OpY.pure rfl)) ?_
    refine Lex.pass rfl ?_
    refine Lex.pass rfl ?_
    refine Lex.pass rfl ?_
    refine Lex.pass rfl ?_
    refine Lex.pass rfl ?_
    refine Lex.pass rfl ?_
    refine Lex.pass rfl ?_
    refine Lex.pass rfl ?_
    refine Lex.pass rfl ?_
    refine Lex.pass rfl ?_
    refine Lex.pass rfl ?_
    refine Lex.pass rfl ?_
    refine Lex.pass rfl ?_
    refine Lex.pass rfl ?_
    refine Lex.pass rfl ?_
    refine Lex.pass rfl ?_
    refine Lex.pass rfl ?_
    refine Lex.pass rfl ?_
    refine Lex.pass rfl ?_
    refine Lex.pass rfl ?_
    refine Lex.pass rfl ?_
    refine Lex.pass rfl ?_
    refine Lex.pass rfl ?_
    refine Lex.pass rfl ?_
    refine Lex.pass rfl ?_
    refine Lex.pass rfl ?_
    refine Lex.pass rfl ?_
    refine Lex.pass rfl ?_
    refine Lex.pass rfl ?_
    refine Lex.pass rfl ?_
    refine Lex.pass rfl ?_
    refine Lex.pass rfl ?_
    refine Lex.pass rfl ?_
    refine Lex.pass rfl ?_
    refine Lex.pass rfl ?_
    refine Lex.q (v := .bool true) rfl (OpQ.y (OpY.pure rfl)) ?_
    refine Lex.done ?_
    refine Run.cond (b := true) rfl (fun _ => ?_) (fun h => nomatch h)
    refine Run.seq ?_
    have hbad : edgesOk N xs n = false := by
     simp only [edgesOk, decide_eq_false_iff_not]; intro h; have h1 := h k hlt; simp only [edgeOk] at *; omega
    refine Run.region ?_
    refine Run.p (.bool false) rfl rfl ?_
    refine Run.done ?_
    refine Run.ret ?_
    refine ⟨.bool false, [], Out.one rfl rfl, (Some'.weak (.nil _)), ?_⟩
    show _ = _; simp_all
   ·refine Lex.q (v := .bool false) rfl (OpQ.y (OpY.moveB rfl h17)) ?_
    have p17 := h17; try simp only [bs] at p17
    refine Lex.q (v := .pointer (some ⟨b1, 0, none⟩)) rfl (OpQ.y (OpY.fieldAddr Tfo_80_0 rfl rfl)) ?_
    refine Lex.q (v := .int .i64 (ix xs (k * 2))) rfl (OpQ.y (OpY.load1 Tone_3 rfl (Cells.blk (.head _) ⟨rfl, trivial⟩))) ?_
    refine Lex.q (v := .pointer (some ⟨b1, 1, none⟩)) rfl (OpQ.y (OpY.fieldAddr Tfo_80_1 rfl rfl)) ?_
    refine Lex.q (v := .int .i64 (ix xs (k * 2 + 1))) rfl (OpQ.y (OpY.load1 Tone_3 rfl (Cells.blk (.head _) ⟨rfl, trivial⟩))) ?_
    refine Lex.q (v := .bool (decide ((ix xs (k * 2)) ≥ (ix xs (k * 2 + 1))))) rfl (OpQ.y (OpY.pure rfl)) ?_
    refine Lex.q (v := .bool (decide ((ix xs (k * 2)) ≥ (ix xs (k * 2 + 1))))) rfl (OpQ.y (OpY.pure rfl)) ?_
    rcases Bool.eq_false_or_eq_true (decide ((ix xs (k * 2)) ≥ (ix xs (k * 2 + 1)))) with h24 | h24
    ·refine Lex.q (v := .bool true) rfl (OpQ.y (OpY.moveB rfl h24)) ?_
     have p24 := h24; try simp only [bs] at p24
     refine Lex.pass rfl ?_
     refine Lex.pass rfl ?_
     refine Lex.pass rfl ?_
     refine Lex.pass rfl ?_
     refine Lex.q (v := .bool true) rfl (OpQ.y (OpY.pure rfl)) ?_
     refine Lex.q (v := .bool true) rfl (OpQ.y (OpY.pure rfl)) ?_
     refine Lex.pass rfl ?_
     refine Lex.pass rfl ?_
     refine Lex.pass rfl ?_
     refine Lex.pass rfl ?_
     refine Lex.pass rfl ?_
     refine Lex.pass rfl ?_
     refine Lex.pass rfl ?_
     refine Lex.pass rfl ?_
     refine Lex.pass rfl ?_
     refine Lex.pass rfl ?_
     refine Lex.pass rfl ?_
     refine Lex.pass rfl ?_
     refine Lex.pass rfl ?_
     refine Lex.pass rfl ?_
     refine Lex.pass rfl ?_
     refine Lex.pass rfl ?_
     refine Lex.pass rfl ?_
     refine Lex.pass rfl ?_
     refine Lex.pass rfl ?_
     refine Lex.pass rfl ?_
     refine Lex.pass rfl ?_
     refine Lex.pass rfl ?_
     refine Lex.pass rfl ?_
     refine Lex.pass rfl ?_
     refine Lex.pass rfl ?_
     refine Lex.pass rfl ?_
     refine Lex.pass rfl ?_
     refine Lex.pass rfl ?_
     refine Lex.pass rfl ?_
     refine Lex.pass rfl ?_
     refine Lex.pass rfl ?_
     refine Lex.pass rfl ?_
     refine Lex.pass rfl ?_
     refine Lex.pass rfl ?_
     refine Lex.pass rfl ?_
     refine Lex.q (v := .bool true) rfl (OpQ.y (OpY.pure rfl)) ?_
     refine Lex.done ?_
     refine Run.cond (b := true) rfl (fun _ => ?_) (fun h => nomatch h)
     refine Run.seq ?_
     have hbad : edgesOk N xs n = false := by
      simp only [edgesOk, decide_eq_false_iff_not]; intro h; have h1 := h k hlt; simp only [edgeOk] at *; omega
     refine Run.region ?_
     refine Run.p (.bool false) rfl rfl ?_
     refine Run.done ?_
     refine Run.ret ?_
     refine ⟨.bool false, [], Out.one rfl rfl, (Some'.weak (.nil _)), ?_⟩
     show _ = _; simp_all
    ·refine Lex.q (v := .bool false) rfl (OpQ.y (OpY.moveB rfl h24)) ?_
     have p24 := h24; try simp only [bs] at p24
     refine Lex.q (v := .pointer (some ⟨b1, 1, none⟩)) rfl (OpQ.y (OpY.fieldAddr Tfo_80_1 rfl rfl)) ?_
     refine Lex.q (v := .int .i64 (ix xs (k * 2 + 1))) rfl (OpQ.y (OpY.load1 Tone_3 rfl (Cells.blk (.head _) ⟨rfl, trivial⟩))) ?_
     refine Lex.q (v := .int .i64 N) rfl (OpQ.y (OpY.pure rfl)) ?_
     refine Lex.q (v := .bool (decide ((ix xs (k * 2 + 1)) ≥ N))) rfl (OpQ.y (OpY.pure rfl)) ?_
     refine Lex.q (v := .bool (decide ((ix xs (k * 2 + 1)) ≥ N))) rfl (OpQ.y (OpY.pure rfl)) ?_
     rcases Bool.eq_false_or_eq_true (decide ((ix xs (k * 2 + 1)) ≥ N)) with h30 | h30
     ·refine Lex.q (v := .bool true) rfl (OpQ.y (OpY.moveB rfl h30)) ?_
      have p30 := h30; try simp only [bs] at p30
      refine Lex.pass rfl ?_
      refine Lex.pass rfl ?_
      refine Lex.pass rfl ?_
      refine Lex.pass rfl ?_
      refine Lex.pass rfl ?_
      refine Lex.pass rfl ?_
      refine Lex.pass rfl ?_
      refine Lex.pass rfl ?_
      refine Lex.pass rfl ?_
      refine Lex.pass rfl ?_
      refine Lex.pass rfl ?_
      refine Lex.pass rfl ?_
      refine Lex.pass rfl ?_
      refine Lex.pass rfl ?_
      refine Lex.pass rfl ?_
      refine Lex.pass rfl ?_
      refine Lex.pass rfl ?_
      refine Lex.pass rfl ?_
      refine Lex.pass rfl ?_
      refine Lex.pass rfl ?_
      refine Lex.pass rfl ?_
      refine Lex.pass rfl ?_
      refine Lex.pass rfl ?_
      refine Lex.pass rfl ?_
      refine Lex.pass rfl ?_
      refine Lex.pass rfl ?_
      refine Lex.pass rfl ?_
      refine Lex.pass rfl ?_
      refine Lex.pass rfl ?_
      refine Lex.pass rfl ?_
      refine Lex.pass rfl ?_
      refine Lex.pass rfl ?_
      refine Lex.pass rfl ?_
      refine Lex.pass rfl ?_
      refine Lex.pass rfl ?_
      refine Lex.q (v := .bool true) rfl (OpQ.y (OpY.pure rfl)) ?_
      refine Lex.done ?_
      refine Run.cond (b := true) rfl (fun _ => ?_) (fun h => nomatch h)
      refine Run.seq ?_
      have hbad : edgesOk N xs n = false := by
       simp only [edgesOk, decide_eq_false_iff_not]; intro h; have h1 := h k hlt; simp only [edgeOk] at *; omega
      refine Run.region ?_
      refine Run.p (.bool false) rfl rfl ?_
      refine Run.done ?_
      refine Run.ret ?_
      refine ⟨.bool false, [], Out.one rfl rfl, (Some'.weak (.nil _)), ?_⟩
      show _ = _; simp_all
     ·refine Lex.q (v := .bool false) rfl (OpQ.y (OpY.moveB rfl h30)) ?_
      have p30 := h30; try simp only [bs] at p30
      refine Lex.q (v := .int .i64 (((k : Nat) : Int))) rfl (OpQ.y (OpY.pure rfl)) ?_
      refine Lex.q (v := .bool (decide ((((k : Nat) : Int)) > 0))) rfl (OpQ.y (OpY.pure rfl)) ?_
      rcases Bool.eq_false_or_eq_true (decide ((((k : Nat) : Int)) > 0)) with h33 | h33
      ·have hk0 : 0 < k := by simp at h33; omega
       refine Lex.q (v := .bool true) rfl (OpQ.y (OpY.moveB rfl h33)) ?_
       have p33 := h33; try simp only [bs] at p33
       refine Lex.q (v := .slice (some ⟨b, o, none⟩) n c) rfl (OpQ.y (OpY.pure rfl)) ?_
       refine Lex.q (v := .int .i64 (((k : Nat) : Int))) rfl (OpQ.y (OpY.pure rfl)) ?_
       refine Lex.q (v := .int .i64 ((((k : Nat) : Int)) - 1)) rfl (OpQ.y (OpY.sub rfl rfl rfl (by omega) (by omega))) ?_
       refine Lex.q (v := .pointer (some ⟨b, o + (k - 1) * 2, none⟩)) rfl (OpQ.y (OpY.index (kk := k - 1) Tsl_23 rfl rfl (by omega) (by omega) (by first | rfl | omega))) ?_
       refine Lex.q (v := .pointer (some ⟨b, o + (k - 1) * 2, none⟩)) rfl (OpQ.y (OpY.fieldAddr Tfo_80_0 rfl rfl)) ?_
       refine Lex.q (v := .int .i64 (ix xs ((k - 1) * 2))) rfl (OpQ.y (OpY.load1 Tone_3 rfl (Cells.arg (k := (k - 1) * 2) ha rfl (by omega) (pre1 (by omega))))) ?_
       refine Lex.q (v := .pointer (some ⟨b1, 0, none⟩)) rfl (OpQ.y (OpY.fieldAddr Tfo_80_0 rfl rfl)) ?_
       refine Lex.q (v := .int .i64 (ix xs (k * 2))) rfl (OpQ.y (OpY.load1 Tone_3 rfl (Cells.blk (.head _) ⟨rfl, trivial⟩))) ?_
       refine Lex.q (v := .bool (decide ((ix xs ((k - 1) * 2)) > (ix xs (k * 2))))) rfl (OpQ.y (OpY.pure rfl)) ?_
       rcases Bool.eq_false_or_eq_true (decide ((ix xs ((k - 1) * 2)) > (ix xs (k * 2)))) with h43 | h43
       ·refine Lex.q (v := .bool true) rfl (OpQ.y (OpY.moveB rfl h43)) ?_
        have p43 := h43; try simp only [bs] at p43
        refine Lex.pass rfl ?_
        refine Lex.pass rfl ?_
        refine Lex.pass rfl ?_
        refine Lex.pass rfl ?_
        refine Lex.pass rfl ?_
        refine Lex.pass rfl ?_
        refine Lex.pass rfl ?_
        refine Lex.pass rfl ?_
        refine Lex.pass rfl ?_
        refine Lex.pass rfl ?_
        refine Lex.pass rfl ?_
        refine Lex.pass rfl ?_
        refine Lex.pass rfl ?_
        refine Lex.pass rfl ?_
        refine Lex.pass rfl ?_
        refine Lex.pass rfl ?_
        refine Lex.pass rfl ?_
        refine Lex.pass rfl ?_
        refine Lex.pass rfl ?_
        refine Lex.pass rfl ?_
        refine Lex.q (v := .bool true) rfl (OpQ.y (OpY.pure rfl)) ?_
        refine Lex.q (v := .bool true) rfl (OpQ.y (OpY.pure rfl)) ?_
        refine Lex.q (v := .bool true) rfl (OpQ.y (OpY.pure rfl)) ?_
        refine Lex.done ?_
        refine Run.cond (b := true) rfl (fun _ => ?_) (fun h => nomatch h)
        refine Run.seq ?_
        have hbad : edgesOk N xs n = false := by
         simp only [edgesOk, decide_eq_false_iff_not]; intro h; have h1 := h k hlt; simp only [edgeOk] at *; omega
        refine Run.region ?_
        refine Run.p (.bool false) rfl rfl ?_
        refine Run.done ?_
        refine Run.ret ?_
        refine ⟨.bool false, [], Out.one rfl rfl, (Some'.weak (.nil _)), ?_⟩
        show _ = _; simp_all
       ·refine Lex.q (v := .bool false) rfl (OpQ.y (OpY.moveB rfl h43)) ?_
        have p43 := h43; try simp only [bs] at p43
        refine Lex.q (v := .slice (some ⟨b, o, none⟩) n c) rfl (OpQ.y (OpY.pure rfl)) ?_
        refine Lex.q (v := .int .i64 (((k : Nat) : Int))) rfl (OpQ.y (OpY.pure rfl)) ?_
        refine Lex.q (v := .int .i64 ((((k : Nat) : Int)) - 1)) rfl (OpQ.y (OpY.sub rfl rfl rfl (by omega) (by omega))) ?_
        refine Lex.q (v := .pointer (some ⟨b, o + (k - 1) * 2, none⟩)) rfl (OpQ.y (OpY.index (kk := k - 1) Tsl_23 rfl rfl (by omega) (by omega) (by first | rfl | omega))) ?_
        refine Lex.q (v := .pointer (some ⟨b, o + (k - 1) * 2, none⟩)) rfl (OpQ.y (OpY.fieldAddr Tfo_80_0 rfl rfl)) ?_
        refine Lex.q (v := .int .i64 (ix xs ((k - 1) * 2))) rfl (OpQ.y (OpY.load1 Tone_3 rfl (Cells.arg (k := (k - 1) * 2) ha rfl (by omega) (pre1 (by omega))))) ?_
        refine Lex.q (v := .pointer (some ⟨b1, 0, none⟩)) rfl (OpQ.y (OpY.fieldAddr Tfo_80_0 rfl rfl)) ?_
        refine Lex.q (v := .int .i64 (ix xs (k * 2))) rfl (OpQ.y (OpY.load1 Tone_3 rfl (Cells.blk (.head _) ⟨rfl, trivial⟩))) ?_
        refine Lex.q (v := .bool ((ix xs ((k - 1) * 2)) == (ix xs (k * 2)))) rfl (OpQ.y (OpY.pure rfl)) ?_
        rcases Bool.eq_false_or_eq_true ((ix xs ((k - 1) * 2)) == (ix xs (k * 2))) with h53 | h53
        ·refine Lex.q (v := .bool true) rfl (OpQ.y (OpY.moveB rfl h53)) ?_
         have p53 := h53; try simp only [bs] at p53
         refine Lex.q (v := .slice (some ⟨b, o, none⟩) n c) rfl (OpQ.y (OpY.pure rfl)) ?_
         refine Lex.q (v := .int .i64 (((k : Nat) : Int))) rfl (OpQ.y (OpY.pure rfl)) ?_
         refine Lex.q (v := .int .i64 ((((k : Nat) : Int)) - 1)) rfl (OpQ.y (OpY.sub rfl rfl rfl (by omega) (by omega))) ?_
         refine Lex.q (v := .pointer (some ⟨b, o + (k - 1) * 2, none⟩)) rfl (OpQ.y (OpY.index (kk := k - 1) Tsl_23 rfl rfl (by omega) (by omega) (by first | rfl | omega))) ?_
         refine Lex.q (v := .pointer (some ⟨b, o + (k - 1) * 2 + 1, none⟩)) rfl (OpQ.y (OpY.fieldAddr Tfo_80_1 rfl rfl)) ?_
         refine Lex.q (v := .int .i64 (ix xs ((k - 1) * 2 + 1))) rfl (OpQ.y (OpY.load1 Tone_3 rfl (Cells.arg (k := (k - 1) * 2 + 1) ha rfl (by omega) (pre1 (by omega))))) ?_
         refine Lex.q (v := .pointer (some ⟨b1, 1, none⟩)) rfl (OpQ.y (OpY.fieldAddr Tfo_80_1 rfl rfl)) ?_
         refine Lex.q (v := .int .i64 (ix xs (k * 2 + 1))) rfl (OpQ.y (OpY.load1 Tone_3 rfl (Cells.blk (.head _) ⟨rfl, trivial⟩))) ?_
         refine Lex.q (v := .bool (decide ((ix xs ((k - 1) * 2 + 1)) ≥ (ix xs (k * 2 + 1))))) rfl (OpQ.y (OpY.pure rfl)) ?_
         refine Lex.q (v := .bool (decide ((ix xs ((k - 1) * 2 + 1)) ≥ (ix xs (k * 2 + 1))))) rfl (OpQ.y (OpY.pure rfl)) ?_
         refine Lex.q (v := .bool (decide ((ix xs ((k - 1) * 2 + 1)) ≥ (ix xs (k * 2 + 1))))) rfl (OpQ.y (OpY.pure rfl)) ?_
         refine Lex.q (v := .bool (decide ((ix xs ((k - 1) * 2 + 1)) ≥ (ix xs (k * 2 + 1))))) rfl (OpQ.y (OpY.pure rfl)) ?_
         refine Lex.q (v := .bool (decide ((ix xs ((k - 1) * 2 + 1)) ≥ (ix xs (k * 2 + 1))))) rfl (OpQ.y (OpY.pure rfl)) ?_
         refine Lex.done ?_
         refine Run.cond (b := decide ((ix xs ((k - 1) * 2 + 1)) ≥ (ix xs (k * 2 + 1)))) rfl (fun h66 => ?_) (fun h66 => ?_)
         ·have p66 := h66; try simp only [bs] at p66
          refine Run.seq ?_
          have hbad : edgesOk N xs n = false := by
           simp only [edgesOk, decide_eq_false_iff_not]; intro h; have h1 := h k hlt; simp only [edgeOk] at *; omega
          refine Run.region ?_
          refine Run.p (.bool false) rfl rfl ?_
          refine Run.done ?_
          refine Run.ret ?_
          refine ⟨.bool false, [], Out.one rfl rfl, (Some'.weak (.nil _)), ?_⟩
          show _ = _; simp_all
         ·have p66 := h66; try simp only [bs] at p66
          refine Run.skip ?_
          refine Run.blockEnd ?_
          have hgood : edgeOk N xs k := by
           simp only [edgeOk] at *; omega
          refine Run.region ?_
          refine Run.y (.int .i64 ((((k : Nat) : Int)) + 1)) rfl (OpY.add rfl rfl rfl (by omega) (by omega)) ?_
          refine Run.p (.int .i64 ((((k : Nat) : Int)) + 1)) rfl rfl ?_
          refine Run.done ?_
          refine Run.goal ⟨(by repeat (first | exact Same.refl _ _ | refine Same.put rfl ?_ | refine Same.over rfl rfl ?_)), k + 1, ?_, ?_, ?_, ?_⟩
          ·refine ⟨by omega, fun i hi => ?_⟩
           rcases Nat.lt_succ_iff_lt_or_eq.1 hi with h | h
           ·exact hinv.2 i h
           ·rw [h]; exact hgood
          ·omega
          ·exact ⟨(by first | rfl | (congr 1; omega) | simp), trivial⟩
          ·exact (Some'.weak (.nil _))
        ·refine Lex.q (v := .bool false) rfl (OpQ.y (OpY.moveB rfl h53)) ?_
         have p53 := h53; try simp only [bs] at p53
         refine Lex.pass rfl ?_
         refine Lex.pass rfl ?_
         refine Lex.pass rfl ?_
         refine Lex.pass rfl ?_
         refine Lex.pass rfl ?_
         refine Lex.pass rfl ?_
         refine Lex.pass rfl ?_
         refine Lex.pass rfl ?_
         refine Lex.pass rfl ?_
         refine Lex.q (v := .bool false) rfl (OpQ.y (OpY.pure rfl)) ?_
         refine Lex.q (v := .bool false) rfl (OpQ.y (OpY.pure rfl)) ?_
         refine Lex.q (v := .bool false) rfl (OpQ.y (OpY.pure rfl)) ?_
         refine Lex.q (v := .bool false) rfl (OpQ.y (OpY.pure rfl)) ?_
         refine Lex.done ?_
         refine Run.cond (b := false) rfl (fun h => nomatch h) (fun _ => ?_)
         refine Run.skip ?_
         refine Run.blockEnd ?_
         have hgood : edgeOk N xs k := by
          simp only [edgeOk] at *; omega
         refine Run.region ?_
         refine Run.y (.int .i64 ((((k : Nat) : Int)) + 1)) rfl (OpY.add rfl rfl rfl (by omega) (by omega)) ?_
         refine Run.p (.int .i64 ((((k : Nat) : Int)) + 1)) rfl rfl ?_
         refine Run.done ?_
         refine Run.goal ⟨(by repeat (first | exact Same.refl _ _ | refine Same.put rfl ?_ | refine Same.over rfl rfl ?_)), k + 1, ?_, ?_, ?_, ?_⟩
         ·refine ⟨by omega, fun i hi => ?_⟩
          rcases Nat.lt_succ_iff_lt_or_eq.1 hi with h | h
          ·exact hinv.2 i h
          ·rw [h]; exact hgood
         ·omega
         ·exact ⟨(by first | rfl | (congr 1; omega) | simp), trivial⟩
         ·exact (Some'.weak (.nil _))
      ·refine Lex.q (v := .bool false) rfl (OpQ.y (OpY.moveB rfl h33)) ?_
       have p33 := h33; try simp only [bs] at p33
       refine Lex.pass rfl ?_
       refine Lex.pass rfl ?_
       refine Lex.pass rfl ?_
       refine Lex.pass rfl ?_
       refine Lex.pass rfl ?_
       refine Lex.pass rfl ?_
       refine Lex.pass rfl ?_
       refine Lex.pass rfl ?_
       refine Lex.pass rfl ?_
       refine Lex.pass rfl ?_
       refine Lex.pass rfl ?_
       refine Lex.pass rfl ?_
       refine Lex.pass rfl ?_
       refine Lex.pass rfl ?_
       refine Lex.pass rfl ?_
       refine Lex.pass rfl ?_
       refine Lex.pass rfl ?_
       refine Lex.pass rfl ?_
       refine Lex.pass rfl ?_
       refine Lex.pass rfl ?_
       refine Lex.pass rfl ?_
       refine Lex.pass rfl ?_
       refine Lex.pass rfl ?_
       refine Lex.pass rfl ?_
       refine Lex.pass rfl ?_
       refine Lex.pass rfl ?_
       refine Lex.pass rfl ?_
       refine Lex.pass rfl ?_
       refine Lex.pass rfl ?_
       refine Lex.pass rfl ?_
       refine Lex.pass rfl ?_
       refine Lex.q (v := .bool false) rfl (OpQ.y (OpY.pure rfl)) ?_
       refine Lex.q (v := .bool false) rfl (OpQ.y (OpY.pure rfl)) ?_
       refine Lex.done ?_
       refine Run.cond (b := false) rfl (fun h => nomatch h) (fun _ => ?_)
       refine Run.skip ?_
       refine Run.blockEnd ?_
       have hgood : edgeOk N xs k := by
        simp only [edgeOk] at *; omega
       refine Run.region ?_
       refine Run.y (.int .i64 ((((k : Nat) : Int)) + 1)) rfl (OpY.add rfl rfl rfl (by omega) (by omega)) ?_
       refine Run.p (.int .i64 ((((k : Nat) : Int)) + 1)) rfl rfl ?_
       refine Run.done ?_
       refine Run.goal ⟨(by repeat (first | exact Same.refl _ _ | refine Same.put rfl ?_ | refine Same.over rfl rfl ?_)), k + 1, ?_, ?_, ?_, ?_⟩
       ·refine ⟨by omega, fun i hi => ?_⟩
        rcases Nat.lt_succ_iff_lt_or_eq.1 hi with h | h
        ·exact hinv.2 i h
        ·rw [h]; exact hgood
       ·omega
       ·exact ⟨(by first | rfl | (congr 1; omega) | simp), trivial⟩
       ·exact (Some'.weak (.nil _))
  ·have p10 := h10; try simp only [bs] at p10
   have hkn : k = n := by simp at h10; omega
   have hall : edgesOk N xs n = true := by simp only [edgesOk, decide_eq_true_eq]; rw [← hkn]; exact hinv.2
   refine Run.exit rfl ?_
   refine Run.sr ?_
   refine Run.p (.bool true) rfl rfl ?_
   refine Run.done ?_
   refine Run.ret ?_
   refine ⟨.bool true, [], Out.one rfl rfl, (Some'.weak (.nil _)), ?_⟩
   show _ = _; simp_all

end Go.Proofs.Ytoiaibgcjfgbcaa
