/- Walks: valid edges, valid coupling graphs; the law FnExactIsValidCouplingGraph. -/
import Derived.Test.YtekikmdjldincaaCg
import Derived.Test.YtekikmdjldincaaFind
import Derived.Test.YtekikmdjldincaaProg
set_option linter.unusedSimpArgs false
set_option linter.unusedVariables false
namespace Go.Proofs.Ytekikmdjldincaa
open Go Go.RowKit
namespace Cg2T
theorem Tagg_77 : aggOf Try.prog 77 = some 2 := by kernel_rfl
theorem Tcall_61 : callable Try.prog 61 = true := by kernel_rfl
theorem Tcall_73 : callable Try.prog 73 = true := by kernel_rfl
theorem Tcall_94 : callable Try.prog 94 = true := by kernel_rfl
theorem Tfo_35_0 : fieldOff Try.prog 35 0 = some 0 := by kernel_rfl
theorem Tfo_35_1 : fieldOff Try.prog 35 1 = some 1 := by kernel_rfl
theorem Tfo_77_0 : fieldOff Try.prog 77 0 = some 0 := by kernel_rfl
theorem Tfo_77_1 : fieldOff Try.prog 77 1 = some 1 := by kernel_rfl
theorem Tone_3 : oneOf Try.prog 3 = true := by kernel_rfl
theorem Tone_33 : oneOf Try.prog 33 = true := by kernel_rfl
theorem Tsize_77 : (Try.prog.info? 77).map (·.size) = some 2 := by kernel_rfl
theorem Tsl_33 : sliceOf Try.prog 33 = some (77, 2, 16, [.int .i64 0, .int .i64 0]) := by kernel_rfl
theorem Tzero_77 : zeroOf Try.prog 77 = some [.int .i64 0, .int .i64 0] := by kernel_rfl
end Cg2T
open Cg2T

/-- Edge i of a flat list of edges is in range and behind the one before it. -/
def edgeOk (N : Int) (xs : List Int) (i : Nat) : Prop :=
  0 ≤ ix xs (i * 2) ∧ ix xs (i * 2) < ix xs (i * 2 + 1) ∧ ix xs (i * 2 + 1) < N ∧ (0 < i → ix xs ((i - 1) * 2) < ix xs (i * 2) ∨ (ix xs ((i - 1) * 2) = ix xs (i * 2) ∧ ix xs ((i - 1) * 2 + 1) < ix xs (i * 2 + 1)))
instance (N : Int) (xs : List Int) (i : Nat) : Decidable (edgeOk N xs i) := by unfold edgeOk; infer_instance
def edgesOk (N : Int) (xs : List Int) (n : Nat) : Bool := decide (∀ i, i < n → edgeOk N xs i)
def dec (x : Int) : Int := if x = -9223372036854775808 then 9223372036854775807 else x - 1
theorem dec_cases (x : Int) : dec x = x - 1 ∨ (x = -9223372036854775808 ∧ dec x = 9223372036854775807) := by unfold dec; split <;> omega
theorem wrap_dec {x : Int} (h : In64 x) : IntKind.i64.wrap (x - 1) = dec x := by
  have h1 := h.1; have h2 := h.2
  unfold dec; split
  · rename_i e; subst e; rfl
  · rw [IntKind.wrap_i64]; omega
def cgOk (N : Int) (xs : List Int) (n : Nat) : Bool := within N 1 8 && edgesOk N xs n

set_option maxHeartbeats 1000000 in
set_option maxRecDepth 20000 in
theorem areEdges_spec {N : Int} {va : Value} {n : Nat} {xs : List Int} {w : World} (ha : Sl w va 2 n (ints xs)) : Calls Try.prog 94 #[.int .i64 N, va] w (Post No w fun v _ => v = .bool (edgesOk N xs n)) := by
  have hxl := ha.len
  have hn := ha.le
  obtain ⟨A, c, rfl, _, _⟩ := ha.form0
  refine enter (n := 68) (args := [.int .i64 N, .slice A n c]) Try.func94 rfl rfl (St.empty _ _) ?_
  refine Run.seq ?_
  refine Run.region ?_
  refine Run.q (v := .bool false) rfl (OpQ.y (OpY.pure rfl)) ?_
  refine Run.done ?_
  refine Run.seq ?_
  refine Run.seq ?_
  refine Run.region ?_
  refine Run.q (v := .slice A n c) rfl (OpQ.y (OpY.pure rfl)) ?_
  refine Run.q (v := .int .i64 (((n : Nat) : Int))) rfl (OpQ.y (OpY.len Tsl_33 rfl)) ?_
  refine Run.q (v := .int .i64 0) rfl (OpQ.y (OpY.pure rfl)) ?_
  refine Run.done ?_
  refine Run.block ?_
  refine Run.loop (ι := Nat) ([4, 5, 6, 9, 10, 11, 12, 13, 14, 15, 16, 17, 18, 19, 20, 21, 22, 23, 24, 25, 26, 27, 28, 29, 30, 31, 32, 33, 34, 35, 36, 37, 38, 39, 40, 41, 42, 43, 44, 45, 46, 47, 48, 49, 50, 51, 52, 53, 54, 55] ++ [56, 57, 58, 59, 60, 61, 62, 63, 64, 65, 66, 67]) (fun k => [(9, .int .i64 (((k : Nat) : Int)))]) (fun k => []) (fun k => k ≤ n ∧ ∀ i, i < k → edgeOk N xs i) (fun k => n - k) 0 ?_ ?_ ?_ ?_
  · exact ⟨Nat.zero_le _, fun i hi => by omega⟩
  · exact ⟨rfl, trivial⟩
  · exact (Some'.weak (.nil _))
  · rintro k fr hinv
    show Run _ _ (over _ _ [(9, .int .i64 (((k : Nat) : Int)))] fr) []
    try dsimp only at hinv
    refine Run.seq ?_
    refine Run.region ?_
    refine Run.q (v := .bool (decide ((((k : Nat) : Int)) < (((n : Nat) : Int))))) rfl (OpQ.y (OpY.pure rfl)) ?_
    refine Run.done ?_
    refine Run.seq ?_
    refine Run.cond (b := decide ((((k : Nat) : Int)) < (((n : Nat) : Int)))) rfl (fun h10 => ?_) (fun h10 => ?_)
    · have p10 := h10; try simp only [bs] at p10
      have hlt : k < n := by simp at h10; omega
      obtain ⟨b, o, rfl⟩ := ha.opn (by omega)
      refine Run.skip ?_
      refine Run.seq ?_
      refine Run.block ?_
      refine Run.seq ?_
      refine Run.region ?_
      refine Run.q (v := .int .i64 (((k : Nat) : Int))) rfl (OpQ.y (OpY.pure rfl)) ?_
      refine Run.q (v := .pointer (some ⟨b, o + k * 2, none⟩)) rfl (OpQ.y (OpY.index (kk := k) Tsl_33 rfl rfl (by omega) (by omega) (by first | rfl | omega))) ?_
      refine Run.q (v := .agg #[.int .i64 (ix xs (k * 2)), .int .i64 (ix xs (k * 2 + 1))]) rfl (OpQ.y (OpY.loadN (cs := [.int .i64 (ix xs (k * 2)), .int .i64 (ix xs (k * 2 + 1))]) Tagg_77 rfl (Cells.arg (k := k * 2) ha rfl (by omega) (pre2 (by omega))))) ?_
      refine Run.step rfl (OpStep.alloc (zs := [.int .i64 0, .int .i64 0]) Tzero_77 fun b1 => ?_)
      refine Run.q (v := .int .i64 (((k : Nat) : Int))) rfl (OpQ.y (OpY.pure rfl)) ?_
      refine Run.step rfl (OpStep.storeAll (us := [.int .i64 (ix xs (k * 2)), .int .i64 (ix xs (k * 2 + 1))]) Tsize_77 rfl rfl rfl (.here _) rfl ?_)
      refine Run.done ?_
      refine Run.seq ?_
      refine Run.draws (by kernel_rfl) (by kernel_rfl) ?_
      refine Lex.q (v := .pointer (some ⟨b1, 0, none⟩)) rfl (OpQ.y (OpY.fieldAddr Tfo_77_0 rfl rfl)) ?_
      refine Lex.q (v := .int .i64 (ix xs (k * 2))) rfl (OpQ.y (OpY.load1 Tone_3 rfl (Cells.blk (.head _) ⟨rfl, trivial⟩))) ?_
      refine Lex.q (v := .bool (decide ((ix xs (k * 2)) < 0))) rfl (OpQ.y (OpY.pure rfl)) ?_
      rcases Bool.eq_false_or_eq_true (decide ((ix xs (k * 2)) < 0)) with h17 | h17
      · refine Lex.q (v := .bool true) rfl (OpQ.y (OpY.moveB rfl h17)) ?_
        have p17 := h17; try simp only [bs] at p17
        refine Lex.pass rfl ?_
        refine Lex.pass rfl ?_
        refine Lex.pass rfl ?_
        refine Lex.pass rfl ?_
        refine Lex.pass rfl ?_
        refine Lex.q (v := .bool true) rfl (OpQ.y (OpY.pure rfl)) ?_
        refine Lex.q (v := .bool true) rfl (OpQ.y (OpY.pure rfl)) ?_
        refine Lex.pass rfl ?_
        refine Lex.pass rfl ?_
        refine Lex.pass rfl ?_
        refine Lex.pass rfl ?_
        refine Lex.q (v := .bool true) rfl (OpQ.y (OpY.pure rfl)) ?_
        refine Lex.q (v := .bool true) rfl (OpQ.y (OpY.pure rfl)) ?_
        refine Lex.pass rfl ?_
        refine Lex.pass rfl ?_
        refine Lex.pass rfl ?_
        refine Lex.pass rfl ?_
        refine Lex.pass rfl ?_
        refine Lex.pass rfl ?_
        refine Lex.pass rfl ?_
        refine Lex.pass rfl ?_
        refine Lex.pass rfl ?_
        refine Lex.pass rfl ?_
        refine Lex.pass rfl ?_
        refine Lex.pass rfl ?_
        refine Lex.pass rfl ?_
        refine Lex.pass rfl ?_
        refine Lex.pass rfl ?_
        refine Lex.pass rfl ?_
        refine Lex.pass rfl ?_
        refine Lex.pass rfl ?_
        refine Lex.pass rfl ?_
        refine Lex.pass rfl ?_
        refine Lex.pass rfl ?_
        refine Lex.pass rfl ?_
        refine Lex.pass rfl ?_
        refine Lex.pass rfl ?_
        refine Lex.pass rfl ?_
        refine Lex.pass rfl ?_
        refine Lex.pass rfl ?_
        refine Lex.pass rfl ?_
        refine Lex.pass rfl ?_
        refine Lex.pass rfl ?_
        refine Lex.pass rfl ?_
        refine Lex.pass rfl ?_
        refine Lex.pass rfl ?_
        refine Lex.pass rfl ?_
        refine Lex.pass rfl ?_
        refine Lex.q (v := .bool true) rfl (OpQ.y (OpY.pure rfl)) ?_
        refine Lex.done ?_
        refine Run.cond (b := true) rfl (fun _ => ?_) (fun h => nomatch h)
        refine Run.seq ?_
        have hbad : edgesOk N xs n = false := by
          simp only [edgesOk, decide_eq_false_iff_not]; intro h; have h1 := h k hlt; simp only [edgeOk] at *; omega
        refine Run.region ?_
        refine Run.q (v := .bool false) rfl (OpQ.y (OpY.pure rfl)) ?_
        refine Run.done ?_
        refine Run.ret ?_
        refine ⟨.bool false, [], Out.one rfl rfl, (Some'.weak (.nil _)), ?_⟩
        show _ = _; simp_all
      · refine Lex.q (v := .bool false) rfl (OpQ.y (OpY.moveB rfl h17)) ?_
        have p17 := h17; try simp only [bs] at p17
        refine Lex.q (v := .pointer (some ⟨b1, 0, none⟩)) rfl (OpQ.y (OpY.fieldAddr Tfo_77_0 rfl rfl)) ?_
        refine Lex.q (v := .int .i64 (ix xs (k * 2))) rfl (OpQ.y (OpY.load1 Tone_3 rfl (Cells.blk (.head _) ⟨rfl, trivial⟩))) ?_
        refine Lex.q (v := .pointer (some ⟨b1, 1, none⟩)) rfl (OpQ.y (OpY.fieldAddr Tfo_77_1 rfl rfl)) ?_
        refine Lex.q (v := .int .i64 (ix xs (k * 2 + 1))) rfl (OpQ.y (OpY.load1 Tone_3 rfl (Cells.blk (.head _) ⟨rfl, trivial⟩))) ?_
        refine Lex.q (v := .bool (decide ((ix xs (k * 2)) ≥ (ix xs (k * 2 + 1))))) rfl (OpQ.y (OpY.pure rfl)) ?_
        refine Lex.q (v := .bool (decide ((ix xs (k * 2)) ≥ (ix xs (k * 2 + 1))))) rfl (OpQ.y (OpY.pure rfl)) ?_
        rcases Bool.eq_false_or_eq_true (decide ((ix xs (k * 2)) ≥ (ix xs (k * 2 + 1)))) with h24 | h24
        · refine Lex.q (v := .bool true) rfl (OpQ.y (OpY.moveB rfl h24)) ?_
          have p24 := h24; try simp only [bs] at p24
          refine Lex.pass rfl ?_
          refine Lex.pass rfl ?_
          refine Lex.pass rfl ?_
          refine Lex.pass rfl ?_
          refine Lex.q (v := .bool true) rfl (OpQ.y (OpY.pure rfl)) ?_
          refine Lex.q (v := .bool true) rfl (OpQ.y (OpY.pure rfl)) ?_
          refine Lex.pass rfl ?_
          refine Lex.pass rfl ?_
          refine Lex.pass rfl ?_
          refine Lex.pass rfl ?_
          refine Lex.pass rfl ?_
          refine Lex.pass rfl ?_
          refine Lex.pass rfl ?_
          refine Lex.pass rfl ?_
          refine Lex.pass rfl ?_
          refine Lex.pass rfl ?_
          refine Lex.pass rfl ?_
          refine Lex.pass rfl ?_
          refine Lex.pass rfl ?_
          refine Lex.pass rfl ?_
          refine Lex.pass rfl ?_
          refine Lex.pass rfl ?_
          refine Lex.pass rfl ?_
          refine Lex.pass rfl ?_
          refine Lex.pass rfl ?_
          refine Lex.pass rfl ?_
          refine Lex.pass rfl ?_
          refine Lex.pass rfl ?_
          refine Lex.pass rfl ?_
          refine Lex.pass rfl ?_
          refine Lex.pass rfl ?_
          refine Lex.pass rfl ?_
          refine Lex.pass rfl ?_
          refine Lex.pass rfl ?_
          refine Lex.pass rfl ?_
          refine Lex.pass rfl ?_
          refine Lex.pass rfl ?_
          refine Lex.pass rfl ?_
          refine Lex.pass rfl ?_
          refine Lex.pass rfl ?_
          refine Lex.pass rfl ?_
          refine Lex.q (v := .bool true) rfl (OpQ.y (OpY.pure rfl)) ?_
          refine Lex.done ?_
          refine Run.cond (b := true) rfl (fun _ => ?_) (fun h => nomatch h)
          refine Run.seq ?_
          have hbad : edgesOk N xs n = false := by
            simp only [edgesOk, decide_eq_false_iff_not]; intro h; have h1 := h k hlt; simp only [edgeOk] at *; omega
          refine Run.region ?_
          refine Run.q (v := .bool false) rfl (OpQ.y (OpY.pure rfl)) ?_
          refine Run.done ?_
          refine Run.ret ?_
          refine ⟨.bool false, [], Out.one rfl rfl, (Some'.weak (.nil _)), ?_⟩
          show _ = _; simp_all
        · refine Lex.q (v := .bool false) rfl (OpQ.y (OpY.moveB rfl h24)) ?_
          have p24 := h24; try simp only [bs] at p24
          refine Lex.q (v := .pointer (some ⟨b1, 1, none⟩)) rfl (OpQ.y (OpY.fieldAddr Tfo_77_1 rfl rfl)) ?_
          refine Lex.q (v := .int .i64 (ix xs (k * 2 + 1))) rfl (OpQ.y (OpY.load1 Tone_3 rfl (Cells.blk (.head _) ⟨rfl, trivial⟩))) ?_
          refine Lex.q (v := .int .i64 N) rfl (OpQ.y (OpY.pure rfl)) ?_
          refine Lex.q (v := .bool (decide ((ix xs (k * 2 + 1)) ≥ N))) rfl (OpQ.y (OpY.pure rfl)) ?_
          refine Lex.q (v := .bool (decide ((ix xs (k * 2 + 1)) ≥ N))) rfl (OpQ.y (OpY.pure rfl)) ?_
          rcases Bool.eq_false_or_eq_true (decide ((ix xs (k * 2 + 1)) ≥ N)) with h30 | h30
          · refine Lex.q (v := .bool true) rfl (OpQ.y (OpY.moveB rfl h30)) ?_
            have p30 := h30; try simp only [bs] at p30
            refine Lex.pass rfl ?_
            refine Lex.pass rfl ?_
            refine Lex.pass rfl ?_
            refine Lex.pass rfl ?_
            refine Lex.pass rfl ?_
            refine Lex.pass rfl ?_
            refine Lex.pass rfl ?_
            refine Lex.pass rfl ?_
            refine Lex.pass rfl ?_
            refine Lex.pass rfl ?_
            refine Lex.pass rfl ?_
            refine Lex.pass rfl ?_
            refine Lex.pass rfl ?_
            refine Lex.pass rfl ?_
            refine Lex.pass rfl ?_
            refine Lex.pass rfl ?_
            refine Lex.pass rfl ?_
            refine Lex.pass rfl ?_
            refine Lex.pass rfl ?_
            refine Lex.pass rfl ?_
            refine Lex.pass rfl ?_
            refine Lex.pass rfl ?_
            refine Lex.pass rfl ?_
            refine Lex.pass rfl ?_
            refine Lex.pass rfl ?_
            refine Lex.pass rfl ?_
            refine Lex.pass rfl ?_
            refine Lex.pass rfl ?_
            refine Lex.pass rfl ?_
            refine Lex.pass rfl ?_
            refine Lex.pass rfl ?_
            refine Lex.pass rfl ?_
            refine Lex.pass rfl ?_
            refine Lex.pass rfl ?_
            refine Lex.pass rfl ?_
            refine Lex.q (v := .bool true) rfl (OpQ.y (OpY.pure rfl)) ?_
            refine Lex.done ?_
            refine Run.cond (b := true) rfl (fun _ => ?_) (fun h => nomatch h)
            refine Run.seq ?_
            have hbad : edgesOk N xs n = false := by
              simp only [edgesOk, decide_eq_false_iff_not]; intro h; have h1 := h k hlt; simp only [edgeOk] at *; omega
            refine Run.region ?_
            refine Run.q (v := .bool false) rfl (OpQ.y (OpY.pure rfl)) ?_
            refine Run.done ?_
            refine Run.ret ?_
            refine ⟨.bool false, [], Out.one rfl rfl, (Some'.weak (.nil _)), ?_⟩
            show _ = _; simp_all
          · refine Lex.q (v := .bool false) rfl (OpQ.y (OpY.moveB rfl h30)) ?_
            have p30 := h30; try simp only [bs] at p30
            refine Lex.q (v := .int .i64 (((k : Nat) : Int))) rfl (OpQ.y (OpY.pure rfl)) ?_
            refine Lex.q (v := .bool (decide ((((k : Nat) : Int)) > 0))) rfl (OpQ.y (OpY.pure rfl)) ?_
            rcases Bool.eq_false_or_eq_true (decide ((((k : Nat) : Int)) > 0)) with h33 | h33
            · have hk0 : 0 < k := by simp at h33; omega
              refine Lex.q (v := .bool true) rfl (OpQ.y (OpY.moveB rfl h33)) ?_
              have p33 := h33; try simp only [bs] at p33
              refine Lex.q (v := .slice (some ⟨b, o, none⟩) n c) rfl (OpQ.y (OpY.pure rfl)) ?_
              refine Lex.q (v := .int .i64 (((k : Nat) : Int))) rfl (OpQ.y (OpY.pure rfl)) ?_
              refine Lex.q (v := .int .i64 ((((k : Nat) : Int)) - 1)) rfl (OpQ.y (OpY.sub rfl rfl rfl (by omega) (by omega))) ?_
              refine Lex.q (v := .pointer (some ⟨b, o + (k - 1) * 2, none⟩)) rfl (OpQ.y (OpY.index (kk := k - 1) Tsl_33 rfl rfl (by omega) (by omega) (by first | rfl | omega))) ?_
              refine Lex.q (v := .pointer (some ⟨b, o + (k - 1) * 2, none⟩)) rfl (OpQ.y (OpY.fieldAddr Tfo_77_0 rfl rfl)) ?_
              refine Lex.q (v := .int .i64 (ix xs ((k - 1) * 2))) rfl (OpQ.y (OpY.load1 Tone_3 rfl (Cells.arg (k := (k - 1) * 2) ha rfl (by omega) (pre1 (by omega))))) ?_
              refine Lex.q (v := .pointer (some ⟨b1, 0, none⟩)) rfl (OpQ.y (OpY.fieldAddr Tfo_77_0 rfl rfl)) ?_
              refine Lex.q (v := .int .i64 (ix xs (k * 2))) rfl (OpQ.y (OpY.load1 Tone_3 rfl (Cells.blk (.head _) ⟨rfl, trivial⟩))) ?_
              refine Lex.q (v := .bool (decide ((ix xs ((k - 1) * 2)) > (ix xs (k * 2))))) rfl (OpQ.y (OpY.pure rfl)) ?_
              rcases Bool.eq_false_or_eq_true (decide ((ix xs ((k - 1) * 2)) > (ix xs (k * 2)))) with h43 | h43
              · refine Lex.q (v := .bool true) rfl (OpQ.y (OpY.moveB rfl h43)) ?_
                have p43 := h43; try simp only [bs] at p43
                refine Lex.pass rfl ?_
                refine Lex.pass rfl ?_
                refine Lex.pass rfl ?_
                refine Lex.pass rfl ?_
                refine Lex.pass rfl ?_
                refine Lex.pass rfl ?_
                refine Lex.pass rfl ?_
                refine Lex.pass rfl ?_
                refine Lex.pass rfl ?_
                refine Lex.pass rfl ?_
                refine Lex.pass rfl ?_
                refine Lex.pass rfl ?_
                refine Lex.pass rfl ?_
                refine Lex.pass rfl ?_
                refine Lex.pass rfl ?_
                refine Lex.pass rfl ?_
                refine Lex.pass rfl ?_
                refine Lex.pass rfl ?_
                refine Lex.pass rfl ?_
                refine Lex.pass rfl ?_
                refine Lex.q (v := .bool true) rfl (OpQ.y (OpY.pure rfl)) ?_
                refine Lex.q (v := .bool true) rfl (OpQ.y (OpY.pure rfl)) ?_
                refine Lex.q (v := .bool true) rfl (OpQ.y (OpY.pure rfl)) ?_
                refine Lex.done ?_
                refine Run.cond (b := true) rfl (fun _ => ?_) (fun h => nomatch h)
                refine Run.seq ?_
                have hbad : edgesOk N xs n = false := by
                  simp only [edgesOk, decide_eq_false_iff_not]; intro h; have h1 := h k hlt; simp only [edgeOk] at *; omega
                refine Run.region ?_
                refine Run.q (v := .bool false) rfl (OpQ.y (OpY.pure rfl)) ?_
                refine Run.done ?_
                refine Run.ret ?_
                refine ⟨.bool false, [], Out.one rfl rfl, (Some'.weak (.nil _)), ?_⟩
                show _ = _; simp_all
              · refine Lex.q (v := .bool false) rfl (OpQ.y (OpY.moveB rfl h43)) ?_
                have p43 := h43; try simp only [bs] at p43
                refine Lex.q (v := .slice (some ⟨b, o, none⟩) n c) rfl (OpQ.y (OpY.pure rfl)) ?_
                refine Lex.q (v := .int .i64 (((k : Nat) : Int))) rfl (OpQ.y (OpY.pure rfl)) ?_
                refine Lex.q (v := .int .i64 ((((k : Nat) : Int)) - 1)) rfl (OpQ.y (OpY.sub rfl rfl rfl (by omega) (by omega))) ?_
                refine Lex.q (v := .pointer (some ⟨b, o + (k - 1) * 2, none⟩)) rfl (OpQ.y (OpY.index (kk := k - 1) Tsl_33 rfl rfl (by omega) (by omega) (by first | rfl | omega))) ?_
                refine Lex.q (v := .pointer (some ⟨b, o + (k - 1) * 2, none⟩)) rfl (OpQ.y (OpY.fieldAddr Tfo_77_0 rfl rfl)) ?_
                refine Lex.q (v := .int .i64 (ix xs ((k - 1) * 2))) rfl (OpQ.y (OpY.load1 Tone_3 rfl (Cells.arg (k := (k - 1) * 2) ha rfl (by omega) (pre1 (by omega))))) ?_
                refine Lex.q (v := .pointer (some ⟨b1, 0, none⟩)) rfl (OpQ.y (OpY.fieldAddr Tfo_77_0 rfl rfl)) ?_
                refine Lex.q (v := .int .i64 (ix xs (k * 2))) rfl (OpQ.y (OpY.load1 Tone_3 rfl (Cells.blk (.head _) ⟨rfl, trivial⟩))) ?_
                refine Lex.q (v := .bool ((ix xs ((k - 1) * 2)) == (ix xs (k * 2)))) rfl (OpQ.y (OpY.pure rfl)) ?_
                rcases Bool.eq_false_or_eq_true ((ix xs ((k - 1) * 2)) == (ix xs (k * 2))) with h53 | h53
                · refine Lex.q (v := .bool true) rfl (OpQ.y (OpY.moveB rfl h53)) ?_
                  have p53 := h53; try simp only [bs] at p53
                  refine Lex.q (v := .slice (some ⟨b, o, none⟩) n c) rfl (OpQ.y (OpY.pure rfl)) ?_
                  refine Lex.q (v := .int .i64 (((k : Nat) : Int))) rfl (OpQ.y (OpY.pure rfl)) ?_
                  refine Lex.q (v := .int .i64 ((((k : Nat) : Int)) - 1)) rfl (OpQ.y (OpY.sub rfl rfl rfl (by omega) (by omega))) ?_
                  refine Lex.q (v := .pointer (some ⟨b, o + (k - 1) * 2, none⟩)) rfl (OpQ.y (OpY.index (kk := k - 1) Tsl_33 rfl rfl (by omega) (by omega) (by first | rfl | omega))) ?_
                  refine Lex.q (v := .pointer (some ⟨b, o + (k - 1) * 2 + 1, none⟩)) rfl (OpQ.y (OpY.fieldAddr Tfo_77_1 rfl rfl)) ?_
                  refine Lex.q (v := .int .i64 (ix xs ((k - 1) * 2 + 1))) rfl (OpQ.y (OpY.load1 Tone_3 rfl (Cells.arg (k := (k - 1) * 2 + 1) ha rfl (by omega) (pre1 (by omega))))) ?_
                  refine Lex.q (v := .pointer (some ⟨b1, 1, none⟩)) rfl (OpQ.y (OpY.fieldAddr Tfo_77_1 rfl rfl)) ?_
                  refine Lex.q (v := .int .i64 (ix xs (k * 2 + 1))) rfl (OpQ.y (OpY.load1 Tone_3 rfl (Cells.blk (.head _) ⟨rfl, trivial⟩))) ?_
                  refine Lex.q (v := .bool (decide ((ix xs ((k - 1) * 2 + 1)) ≥ (ix xs (k * 2 + 1))))) rfl (OpQ.y (OpY.pure rfl)) ?_
                  refine Lex.q (v := .bool (decide ((ix xs ((k - 1) * 2 + 1)) ≥ (ix xs (k * 2 + 1))))) rfl (OpQ.y (OpY.pure rfl)) ?_
                  refine Lex.q (v := .bool (decide ((ix xs ((k - 1) * 2 + 1)) ≥ (ix xs (k * 2 + 1))))) rfl (OpQ.y (OpY.pure rfl)) ?_
                  refine Lex.q (v := .bool (decide ((ix xs ((k - 1) * 2 + 1)) ≥ (ix xs (k * 2 + 1))))) rfl (OpQ.y (OpY.pure rfl)) ?_
                  refine Lex.q (v := .bool (decide ((ix xs ((k - 1) * 2 + 1)) ≥ (ix xs (k * 2 + 1))))) rfl (OpQ.y (OpY.pure rfl)) ?_
                  refine Lex.done ?_
                  refine Run.cond (b := decide ((ix xs ((k - 1) * 2 + 1)) ≥ (ix xs (k * 2 + 1)))) rfl (fun h66 => ?_) (fun h66 => ?_)
                  · have p66 := h66; try simp only [bs] at p66
                    refine Run.seq ?_
                    have hbad : edgesOk N xs n = false := by
                      simp only [edgesOk, decide_eq_false_iff_not]; intro h; have h1 := h k hlt; simp only [edgeOk] at *; omega
                    refine Run.region ?_
                    refine Run.q (v := .bool false) rfl (OpQ.y (OpY.pure rfl)) ?_
                    refine Run.done ?_
                    refine Run.ret ?_
                    refine ⟨.bool false, [], Out.one rfl rfl, (Some'.weak (.nil _)), ?_⟩
                    show _ = _; simp_all
                  · have p66 := h66; try simp only [bs] at p66
                    refine Run.skip ?_
                    refine Run.blockEnd ?_
                    have hgood : edgeOk N xs k := by
                      simp only [edgeOk] at *; omega
                    refine Run.region ?_
                    refine Run.q (v := .int .i64 ((((k : Nat) : Int)) + 1)) rfl (OpQ.y (OpY.add rfl rfl rfl (by omega) (by omega))) ?_
                    refine Run.q (v := .int .i64 ((((k : Nat) : Int)) + 1)) rfl (OpQ.y (OpY.pure rfl)) ?_
                    refine Run.done ?_
                    refine Run.goal ⟨(by repeat (first | exact Same.refl _ _ | refine Same.put rfl ?_ | refine Same.over rfl rfl ?_)), k + 1, ?_, ?_, ?_, ?_⟩
                    · refine ⟨by omega, fun i hi => ?_⟩
                      rcases Nat.lt_succ_iff_lt_or_eq.1 hi with h | h
                      · exact hinv.2 i h
                      · rw [h]; exact hgood
                    · omega
                    · exact ⟨(by first | rfl | (congr 1; omega) | simp), trivial⟩
                    · exact (Some'.weak (.nil _))
                · refine Lex.q (v := .bool false) rfl (OpQ.y (OpY.moveB rfl h53)) ?_
                  have p53 := h53; try simp only [bs] at p53
                  refine Lex.pass rfl ?_
                  refine Lex.pass rfl ?_
                  refine Lex.pass rfl ?_
                  refine Lex.pass rfl ?_
                  refine Lex.pass rfl ?_
                  refine Lex.pass rfl ?_
                  refine Lex.pass rfl ?_
                  refine Lex.pass rfl ?_
                  refine Lex.pass rfl ?_
                  refine Lex.q (v := .bool false) rfl (OpQ.y (OpY.pure rfl)) ?_
                  refine Lex.q (v := .bool false) rfl (OpQ.y (OpY.pure rfl)) ?_
                  refine Lex.q (v := .bool false) rfl (OpQ.y (OpY.pure rfl)) ?_
                  refine Lex.q (v := .bool false) rfl (OpQ.y (OpY.pure rfl)) ?_
                  refine Lex.done ?_
                  refine Run.cond (b := false) rfl (fun h => nomatch h) (fun _ => ?_)
                  refine Run.skip ?_
                  refine Run.blockEnd ?_
                  have hgood : edgeOk N xs k := by
                    simp only [edgeOk] at *; omega
                  refine Run.region ?_
                  refine Run.q (v := .int .i64 ((((k : Nat) : Int)) + 1)) rfl (OpQ.y (OpY.add rfl rfl rfl (by omega) (by omega))) ?_
                  refine Run.q (v := .int .i64 ((((k : Nat) : Int)) + 1)) rfl (OpQ.y (OpY.pure rfl)) ?_
                  refine Run.done ?_
                  refine Run.goal ⟨(by repeat (first | exact Same.refl _ _ | refine Same.put rfl ?_ | refine Same.over rfl rfl ?_)), k + 1, ?_, ?_, ?_, ?_⟩
                  · refine ⟨by omega, fun i hi => ?_⟩
                    rcases Nat.lt_succ_iff_lt_or_eq.1 hi with h | h
                    · exact hinv.2 i h
                    · rw [h]; exact hgood
                  · omega
                  · exact ⟨(by first | rfl | (congr 1; omega) | simp), trivial⟩
                  · exact (Some'.weak (.nil _))
            · refine Lex.q (v := .bool false) rfl (OpQ.y (OpY.moveB rfl h33)) ?_
              have p33 := h33; try simp only [bs] at p33
              refine Lex.pass rfl ?_
              refine Lex.pass rfl ?_
              refine Lex.pass rfl ?_
              refine Lex.pass rfl ?_
              refine Lex.pass rfl ?_
              refine Lex.pass rfl ?_
              refine Lex.pass rfl ?_
              refine Lex.pass rfl ?_
              refine Lex.pass rfl ?_
              refine Lex.pass rfl ?_
              refine Lex.pass rfl ?_
              refine Lex.pass rfl ?_
              refine Lex.pass rfl ?_
              refine Lex.pass rfl ?_
              refine Lex.pass rfl ?_
              refine Lex.pass rfl ?_
              refine Lex.pass rfl ?_
              refine Lex.pass rfl ?_
              refine Lex.pass rfl ?_
              refine Lex.pass rfl ?_
              refine Lex.pass rfl ?_
              refine Lex.pass rfl ?_
              refine Lex.pass rfl ?_
              refine Lex.pass rfl ?_
              refine Lex.pass rfl ?_
              refine Lex.pass rfl ?_
              refine Lex.pass rfl ?_
              refine Lex.pass rfl ?_
              refine Lex.pass rfl ?_
              refine Lex.pass rfl ?_
              refine Lex.pass rfl ?_
              refine Lex.q (v := .bool false) rfl (OpQ.y (OpY.pure rfl)) ?_
              refine Lex.q (v := .bool false) rfl (OpQ.y (OpY.pure rfl)) ?_
              refine Lex.done ?_
              refine Run.cond (b := false) rfl (fun h => nomatch h) (fun _ => ?_)
              refine Run.skip ?_
              refine Run.blockEnd ?_
              have hgood : edgeOk N xs k := by
                simp only [edgeOk] at *; omega
              refine Run.region ?_
              refine Run.q (v := .int .i64 ((((k : Nat) : Int)) + 1)) rfl (OpQ.y (OpY.add rfl rfl rfl (by omega) (by omega))) ?_
              refine Run.q (v := .int .i64 ((((k : Nat) : Int)) + 1)) rfl (OpQ.y (OpY.pure rfl)) ?_
              refine Run.done ?_
              refine Run.goal ⟨(by repeat (first | exact Same.refl _ _ | refine Same.put rfl ?_ | refine Same.over rfl rfl ?_)), k + 1, ?_, ?_, ?_, ?_⟩
              · refine ⟨by omega, fun i hi => ?_⟩
                rcases Nat.lt_succ_iff_lt_or_eq.1 hi with h | h
                · exact hinv.2 i h
                · rw [h]; exact hgood
              · omega
              · exact ⟨(by first | rfl | (congr 1; omega) | simp), trivial⟩
              · exact (Some'.weak (.nil _))
    · have p10 := h10; try simp only [bs] at p10
      have hkn : k = n := by simp at h10; omega
      have hall : edgesOk N xs n = true := by simp only [edgesOk, decide_eq_true_eq]; rw [← hkn]; exact hinv.2
      refine Run.exit rfl ?_
      refine Run.seq ?_
      refine Run.region ?_
      refine Run.q (v := .bool true) rfl (OpQ.y (OpY.pure rfl)) ?_
      refine Run.done ?_
      refine Run.ret ?_
      refine ⟨.bool true, [], Out.one rfl rfl, (Some'.weak (.nil _)), ?_⟩
      show _ = _; simp_all

set_option maxHeartbeats 1000000 in
set_option maxRecDepth 20000 in
theorem IsValidCouplingGraph_spec {N : Int} {va : Value} {n : Nat} {xs : List Int} {w : World} (ha : Sl w va 2 n (ints xs)) : Calls Try.prog 86 #[.agg #[.int .i64 N, va]] w (Post No w fun v _ => v = .bool (cgOk N xs n)) := by
  refine enter (n := 13) (args := [.agg #[.int .i64 N, va]]) Try.func86 rfl rfl (St.empty _ _) ?_
  refine Run.seq ?_
  refine Run.region ?_
  refine Run.step rfl (OpStep.box (us := [.int .i64 N, va]) rfl fun b1 => ?_)
  refine Run.q (v := .bool false) rfl (OpQ.y (OpY.pure rfl)) ?_
  refine Run.done ?_
  refine Run.seq ?_
  refine Run.region ?_
  refine Run.q (v := .pointer (some ⟨b1, 0, none⟩)) rfl (OpQ.y (OpY.fieldAddr Tfo_35_0 rfl rfl)) ?_
  refine Run.q (v := .int .i64 N) rfl (OpQ.y (OpY.load1 Tone_3 rfl (Cells.blk (.head _) ⟨rfl, trivial⟩))) ?_
  refine Run.q (v := .bool (within N 1 8)) rfl (OpQ.call (vs := [.int .i64 N, .int .i64 1, .int .i64 8]) (caps := []) Tcall_73 rfl rfl (fun w hs => within_spec _ _ _ w)) ?_
  rcases Bool.eq_false_or_eq_true (within N 1 8) with h6 | h6
  · refine Run.q (v := .bool true) rfl (OpQ.y (OpY.moveB rfl h6)) ?_
    have p6 := h6; try simp only [bs] at p6
    refine Run.q (v := .pointer (some ⟨b1, 0, none⟩)) rfl (OpQ.y (OpY.fieldAddr Tfo_35_0 rfl rfl)) ?_
    refine Run.q (v := .int .i64 N) rfl (OpQ.y (OpY.load1 Tone_3 rfl (Cells.blk (.head _) ⟨rfl, trivial⟩))) ?_
    refine Run.q (v := .pointer (some ⟨b1, 1, none⟩)) rfl (OpQ.y (OpY.fieldAddr Tfo_35_1 rfl rfl)) ?_
    refine Run.q (v := va) rfl (OpQ.y (OpY.load1 Tone_33 rfl (Cells.blk (.head _) ⟨rfl, trivial⟩))) ?_
    refine Run.q (v := .bool (edgesOk N xs n)) rfl (OpQ.call (vs := [.int .i64 N, va]) (caps := []) Tcall_94 rfl rfl (fun w hs => areEdges_spec (hs.sl ha))) ?_
    refine Run.q (v := .bool (edgesOk N xs n)) rfl (OpQ.y (OpY.pure rfl)) ?_
    refine Run.q (v := .bool (edgesOk N xs n)) rfl (OpQ.y (OpY.pure rfl)) ?_
    refine Run.done ?_
    refine Run.ret ?_
    refine ⟨.bool (edgesOk N xs n), [], Out.one rfl rfl, (Some'.weak (.nil _)), ?_⟩
    show _ = _; simp_all [cgOk]
  · refine Run.q (v := .bool false) rfl (OpQ.y (OpY.moveB rfl h6)) ?_
    have p6 := h6; try simp only [bs] at p6
    refine Run.pass rfl ?_
    refine Run.pass rfl ?_
    refine Run.pass rfl ?_
    refine Run.pass rfl ?_
    refine Run.pass rfl ?_
    refine Run.q (v := .bool false) rfl (OpQ.y (OpY.pure rfl)) ?_
    refine Run.q (v := .bool false) rfl (OpQ.y (OpY.pure rfl)) ?_
    refine Run.done ?_
    refine Run.ret ?_
    refine ⟨.bool false, [], Out.one rfl rfl, (Some'.weak (.nil _)), ?_⟩
    show _ = _; simp_all [cgOk]

set_option maxHeartbeats 1000000 in
set_option maxRecDepth 20000 in
theorem l22Valid_spec {N : Int} {va : Value} {n : Nat} {xs : List Int} {w : World} (hN : In64 N) (ha : Sl w va 2 n (ints xs)) (hw : ∀ x ∈ xs, In64 x) : Calls Try.prog 80 #[.agg #[.int .i64 N, va]] w (Post No w fun v _ => v = .bool (cgOk N xs n)) := by
  have hxl := ha.len
  have hn := ha.le
  obtain ⟨A, c, rfl, _, _⟩ := ha.form0
  have hdN := dec_cases N
  refine enter (n := 71) (args := [.agg #[.int .i64 N, .slice A n c]]) Try.func80 rfl rfl (St.empty _ _) ?_
  refine Run.seq ?_
  refine Run.region ?_
  refine Run.step rfl (OpStep.box (us := [.int .i64 N, .slice A n c]) rfl fun b1 => ?_)
  refine Run.q (v := .bool false) rfl (OpQ.y (OpY.pure rfl)) ?_
  refine Run.done ?_
  refine Run.seq ?_
  refine Run.seq ?_
  refine Run.region ?_
  refine Run.q (v := .pointer (some ⟨b1, 1, none⟩)) rfl (OpQ.y (OpY.fieldAddr Tfo_35_1 rfl rfl)) ?_
  refine Run.q (v := .slice A n c) rfl (OpQ.y (OpY.load1 Tone_33 rfl (Cells.blk (.head _) ⟨rfl, trivial⟩))) ?_
  refine Run.q (v := .int .i64 (((n : Nat) : Int))) rfl (OpQ.y (OpY.len Tsl_33 rfl)) ?_
  refine Run.q (v := .int .i64 0) rfl (OpQ.y (OpY.pure rfl)) ?_
  refine Run.done ?_
  refine Run.block ?_
  refine Run.loop (ι := Nat) ([2, 3, 4, 8, 9, 10, 11, 12, 13, 14, 15, 16, 17, 18, 19, 20, 21, 22, 23, 24, 25, 26, 27, 28, 29, 30, 31, 32, 33, 34, 35, 36, 37, 38, 39, 40, 41, 42, 43, 44, 45, 46, 47, 48, 49, 50, 51, 52, 53, 54] ++ [55, 56, 57, 58, 59, 60, 61, 62, 63, 64, 65, 66, 67]) (fun k => [(8, .int .i64 (((k : Nat) : Int)))]) (fun k => [.blk b1 35 [.int .i64 N, .slice A n c]]) (fun k => k ≤ n ∧ ∀ i, i < k → edgeOk (dec N + 1) xs i) (fun k => n - k) 0 ?_ ?_ ?_ ?_
  · exact ⟨Nat.zero_le _, fun i hi => by omega⟩
  · exact ⟨rfl, trivial⟩
  · exact (Some'.weak (.take (.nil _)))
  · rintro k fr hinv
    show Run _ _ (over _ _ [(8, .int .i64 (((k : Nat) : Int)))] fr) [.blk b1 35 [.int .i64 N, .slice A n c]]
    try dsimp only at hinv
    refine Run.seq ?_
    refine Run.region ?_
    refine Run.q (v := .bool (decide ((((k : Nat) : Int)) < (((n : Nat) : Int))))) rfl (OpQ.y (OpY.pure rfl)) ?_
    refine Run.done ?_
    refine Run.seq ?_
    refine Run.cond (b := decide ((((k : Nat) : Int)) < (((n : Nat) : Int)))) rfl (fun h9 => ?_) (fun h9 => ?_)
    · have p9 := h9; try simp only [bs] at p9
      have hlt : k < n := by simp at h9; omega
      obtain ⟨b, o, rfl⟩ := ha.opn (by omega)
      have hb1 := hw _ (ix_mem (show k * 2 + 1 < xs.length by omega))
      have hdB := dec_cases (ix xs (k * 2 + 1))
      refine Run.skip ?_
      refine Run.seq ?_
      refine Run.block ?_
      refine Run.seq ?_
      refine Run.region ?_
      refine Run.q (v := .int .i64 (((k : Nat) : Int))) rfl (OpQ.y (OpY.pure rfl)) ?_
      refine Run.q (v := .pointer (some ⟨b, o + k * 2, none⟩)) rfl (OpQ.y (OpY.index (kk := k) Tsl_33 rfl rfl (by omega) (by omega) (by first | rfl | omega))) ?_
      refine Run.q (v := .agg #[.int .i64 (ix xs (k * 2)), .int .i64 (ix xs (k * 2 + 1))]) rfl (OpQ.y (OpY.loadN (cs := [.int .i64 (ix xs (k * 2)), .int .i64 (ix xs (k * 2 + 1))]) Tagg_77 rfl (Cells.arg (k := k * 2) ha rfl (by omega) (pre2 (by omega))))) ?_
      refine Run.step rfl (OpStep.alloc (zs := [.int .i64 0, .int .i64 0]) Tzero_77 fun b2 => ?_)
      refine Run.q (v := .int .i64 (((k : Nat) : Int))) rfl (OpQ.y (OpY.pure rfl)) ?_
      refine Run.step rfl (OpStep.storeAll (us := [.int .i64 (ix xs (k * 2)), .int .i64 (ix xs (k * 2 + 1))]) Tsize_77 rfl rfl rfl (.here _) rfl ?_)
      refine Run.done ?_
      refine Run.seq ?_
      refine Run.seq ?_
      refine Run.region ?_
      refine Run.q (v := .pointer (some ⟨b2, 0, none⟩)) rfl (OpQ.y (OpY.fieldAddr Tfo_77_0 rfl rfl)) ?_
      refine Run.q (v := .int .i64 (ix xs (k * 2))) rfl (OpQ.y (OpY.load1 Tone_3 rfl (Cells.blk (.head _) ⟨rfl, trivial⟩))) ?_
      refine Run.q (v := .pointer (some ⟨b2, 1, none⟩)) rfl (OpQ.y (OpY.fieldAddr Tfo_77_1 rfl rfl)) ?_
      refine Run.q (v := .int .i64 (ix xs (k * 2 + 1))) rfl (OpQ.y (OpY.load1 Tone_3 rfl (Cells.blk (.head _) ⟨rfl, trivial⟩))) ?_
      refine Run.q (v := .int .i64 (dec (ix xs (k * 2 + 1)))) rfl (OpQ.y (OpY.subW rfl rfl (wrap_dec hb1))) ?_
      refine Run.q (v := .bool (within (ix xs (k * 2)) 0 (dec (ix xs (k * 2 + 1))))) rfl (OpQ.call (vs := [.int .i64 (ix xs (k * 2)), .int .i64 0, .int .i64 (dec (ix xs (k * 2 + 1)))]) (caps := []) Tcall_61 rfl rfl (fun w hs => l1In_spec _ _ _ w)) ?_
      refine Run.q (v := .bool (!(within (ix xs (k * 2)) 0 (dec (ix xs (k * 2 + 1)))))) rfl (OpQ.y (OpY.pure rfl)) ?_
      rcases Bool.eq_false_or_eq_true (!(within (ix xs (k * 2)) 0 (dec (ix xs (k * 2 + 1))))) with h20 | h20
      · refine Run.q (v := .bool true) rfl (OpQ.y (OpY.moveB rfl h20)) ?_
        have p20 := h20; try simp only [bs] at p20
        refine Run.pass rfl ?_
        refine Run.pass rfl ?_
        refine Run.pass rfl ?_
        refine Run.pass rfl ?_
        refine Run.pass rfl ?_
        refine Run.pass rfl ?_
        refine Run.pass rfl ?_
        refine Run.q (v := .bool true) rfl (OpQ.y (OpY.pure rfl)) ?_
        refine Run.done ?_
        refine Run.cond (b := true) rfl (fun _ => ?_) (fun h => nomatch h)
        refine Run.seq ?_
        have hbad : edgesOk (dec N + 1) xs n = false := by
          simp only [edgesOk, decide_eq_false_iff_not]; intro h; have h1 := h k hlt; simp only [edgeOk, within, Bool.and_eq_false_iff, Bool.and_eq_true, decide_eq_true_eq, decide_eq_false_iff_not, Bool.not_eq_true', Bool.not_eq_false'] at *; omega
        refine Run.region ?_
        refine Run.q (v := .bool false) rfl (OpQ.y (OpY.pure rfl)) ?_
        refine Run.done ?_
        refine Run.ret ?_
        refine ⟨.bool false, [], Out.one rfl rfl, (Some'.weak (.nil _)), ?_⟩
        show _ = _
        rcases Bool.eq_false_or_eq_true (within N 1 8) with hw8 | hw8
        · have hdd : dec N + 1 = N := by simp only [within_iff] at hw8; omega
          first | rw [hdd] at hbad | rw [hdd] at hall
          simp_all [cgOk]
        · simp_all [cgOk]
      · refine Run.q (v := .bool false) rfl (OpQ.y (OpY.moveB rfl h20)) ?_
        have p20 := h20; try simp only [bs] at p20
        refine Run.q (v := .pointer (some ⟨b2, 1, none⟩)) rfl (OpQ.y (OpY.fieldAddr Tfo_77_1 rfl rfl)) ?_
        refine Run.q (v := .int .i64 (ix xs (k * 2 + 1))) rfl (OpQ.y (OpY.load1 Tone_3 rfl (Cells.blk (.head _) ⟨rfl, trivial⟩))) ?_
        refine Run.q (v := .pointer (some ⟨b1, 0, none⟩)) rfl (OpQ.y (OpY.fieldAddr Tfo_35_0 rfl rfl)) ?_
        refine Run.q (v := .int .i64 N) rfl (OpQ.y (OpY.load1 Tone_3 rfl (Cells.blk (.tail _ (List.Mem.head _)) ⟨rfl, trivial⟩))) ?_
        refine Run.q (v := .int .i64 (dec N)) rfl (OpQ.y (OpY.subW rfl rfl (wrap_dec hN))) ?_
        refine Run.q (v := .bool (within (ix xs (k * 2 + 1)) 0 (dec N))) rfl (OpQ.call (vs := [.int .i64 (ix xs (k * 2 + 1)), .int .i64 0, .int .i64 (dec N)]) (caps := []) Tcall_61 rfl rfl (fun w hs => l1In_spec _ _ _ w)) ?_
        refine Run.q (v := .bool (!(within (ix xs (k * 2 + 1)) 0 (dec N)))) rfl (OpQ.y (OpY.pure rfl)) ?_
        refine Run.q (v := .bool (!(within (ix xs (k * 2 + 1)) 0 (dec N)))) rfl (OpQ.y (OpY.pure rfl)) ?_
        refine Run.done ?_
        refine Run.cond (b := !(within (ix xs (k * 2 + 1)) 0 (dec N))) rfl (fun h28 => ?_) (fun h28 => ?_)
        · have p28 := h28; try simp only [bs] at p28
          refine Run.seq ?_
          have hbad : edgesOk (dec N + 1) xs n = false := by
            simp only [edgesOk, decide_eq_false_iff_not]; intro h; have h1 := h k hlt; simp only [edgeOk, within, Bool.and_eq_false_iff, Bool.and_eq_true, decide_eq_true_eq, decide_eq_false_iff_not, Bool.not_eq_true', Bool.not_eq_false'] at *; omega
          refine Run.region ?_
          refine Run.q (v := .bool false) rfl (OpQ.y (OpY.pure rfl)) ?_
          refine Run.done ?_
          refine Run.ret ?_
          refine ⟨.bool false, [], Out.one rfl rfl, (Some'.weak (.nil _)), ?_⟩
          show _ = _
          rcases Bool.eq_false_or_eq_true (within N 1 8) with hw8 | hw8
          · have hdd : dec N + 1 = N := by simp only [within_iff] at hw8; omega
            first | rw [hdd] at hbad | rw [hdd] at hall
            simp_all [cgOk]
          · simp_all [cgOk]
        · have p28 := h28; try simp only [bs] at p28
          refine Run.skip ?_
          refine Run.seq ?_
          refine Run.draws (by kernel_rfl) (by kernel_rfl) ?_
          refine Lex.q (v := .int .i64 (((k : Nat) : Int))) rfl (OpQ.y (OpY.pure rfl)) ?_
          refine Lex.q (v := .bool (decide ((((k : Nat) : Int)) > 0))) rfl (OpQ.y (OpY.pure rfl)) ?_
          rcases Bool.eq_false_or_eq_true (decide ((((k : Nat) : Int)) > 0)) with h31 | h31
          · have hk0 : 0 < k := by simp at h31; omega
            refine Lex.q (v := .bool true) rfl (OpQ.y (OpY.moveB rfl h31)) ?_
            have p31 := h31; try simp only [bs] at p31
            refine Lex.q (v := .pointer (some ⟨b1, 1, none⟩)) rfl (OpQ.y (OpY.fieldAddr Tfo_35_1 rfl rfl)) ?_
            refine Lex.q (v := .slice (some ⟨b, o, none⟩) n c) rfl (OpQ.y (OpY.load1 Tone_33 rfl (Cells.blk (.tail _ (List.Mem.head _)) ⟨rfl, trivial⟩))) ?_
            refine Lex.q (v := .int .i64 (((k : Nat) : Int))) rfl (OpQ.y (OpY.pure rfl)) ?_
            refine Lex.q (v := .int .i64 ((((k : Nat) : Int)) - 1)) rfl (OpQ.y (OpY.sub rfl rfl rfl (by omega) (by omega))) ?_
            refine Lex.q (v := .pointer (some ⟨b, o + (k - 1) * 2, none⟩)) rfl (OpQ.y (OpY.index (kk := k - 1) Tsl_33 rfl rfl (by omega) (by omega) (by first | rfl | omega))) ?_
            refine Lex.q (v := .pointer (some ⟨b, o + (k - 1) * 2, none⟩)) rfl (OpQ.y (OpY.fieldAddr Tfo_77_0 rfl rfl)) ?_
            refine Lex.q (v := .int .i64 (ix xs ((k - 1) * 2))) rfl (OpQ.y (OpY.load1 Tone_3 rfl (Cells.arg (k := (k - 1) * 2) ha rfl (by omega) (pre1 (by omega))))) ?_
            refine Lex.q (v := .pointer (some ⟨b2, 0, none⟩)) rfl (OpQ.y (OpY.fieldAddr Tfo_77_0 rfl rfl)) ?_
            refine Lex.q (v := .int .i64 (ix xs (k * 2))) rfl (OpQ.y (OpY.load1 Tone_3 rfl (Cells.blk (.head _) ⟨rfl, trivial⟩))) ?_
            refine Lex.q (v := .bool (decide ((ix xs ((k - 1) * 2)) > (ix xs (k * 2))))) rfl (OpQ.y (OpY.pure rfl)) ?_
            rcases Bool.eq_false_or_eq_true (decide ((ix xs ((k - 1) * 2)) > (ix xs (k * 2)))) with h42 | h42
            · refine Lex.q (v := .bool true) rfl (OpQ.y (OpY.moveB rfl h42)) ?_
              have p42 := h42; try simp only [bs] at p42
              refine Lex.pass rfl ?_
              refine Lex.pass rfl ?_
              refine Lex.pass rfl ?_
              refine Lex.pass rfl ?_
              refine Lex.pass rfl ?_
              refine Lex.pass rfl ?_
              refine Lex.pass rfl ?_
              refine Lex.pass rfl ?_
              refine Lex.pass rfl ?_
              refine Lex.pass rfl ?_
              refine Lex.pass rfl ?_
              refine Lex.pass rfl ?_
              refine Lex.pass rfl ?_
              refine Lex.pass rfl ?_
              refine Lex.pass rfl ?_
              refine Lex.pass rfl ?_
              refine Lex.pass rfl ?_
              refine Lex.pass rfl ?_
              refine Lex.pass rfl ?_
              refine Lex.pass rfl ?_
              refine Lex.pass rfl ?_
              refine Lex.pass rfl ?_
              refine Lex.q (v := .bool true) rfl (OpQ.y (OpY.pure rfl)) ?_
              refine Lex.q (v := .bool true) rfl (OpQ.y (OpY.pure rfl)) ?_
              refine Lex.done ?_
              refine Run.cond (b := true) rfl (fun _ => ?_) (fun h => nomatch h)
              refine Run.seq ?_
              have hbad : edgesOk (dec N + 1) xs n = false := by
                simp only [edgesOk, decide_eq_false_iff_not]; intro h; have h1 := h k hlt; simp only [edgeOk] at *; omega
              refine Run.region ?_
              refine Run.q (v := .bool false) rfl (OpQ.y (OpY.pure rfl)) ?_
              refine Run.done ?_
              refine Run.ret ?_
              refine ⟨.bool false, [], Out.one rfl rfl, (Some'.weak (.nil _)), ?_⟩
              show _ = _
              rcases Bool.eq_false_or_eq_true (within N 1 8) with hw8 | hw8
              · have hdd : dec N + 1 = N := by simp only [within_iff] at hw8; omega
                first | rw [hdd] at hbad | rw [hdd] at hall
                simp_all [cgOk]
              · simp_all [cgOk]
            · refine Lex.q (v := .bool false) rfl (OpQ.y (OpY.moveB rfl h42)) ?_
              have p42 := h42; try simp only [bs] at p42
              refine Lex.q (v := .pointer (some ⟨b1, 1, none⟩)) rfl (OpQ.y (OpY.fieldAddr Tfo_35_1 rfl rfl)) ?_
              refine Lex.q (v := .slice (some ⟨b, o, none⟩) n c) rfl (OpQ.y (OpY.load1 Tone_33 rfl (Cells.blk (.tail _ (List.Mem.head _)) ⟨rfl, trivial⟩))) ?_
              refine Lex.q (v := .int .i64 (((k : Nat) : Int))) rfl (OpQ.y (OpY.pure rfl)) ?_
              refine Lex.q (v := .int .i64 ((((k : Nat) : Int)) - 1)) rfl (OpQ.y (OpY.sub rfl rfl rfl (by omega) (by omega))) ?_
              refine Lex.q (v := .pointer (some ⟨b, o + (k - 1) * 2, none⟩)) rfl (OpQ.y (OpY.index (kk := k - 1) Tsl_33 rfl rfl (by omega) (by omega) (by first | rfl | omega))) ?_
              refine Lex.q (v := .pointer (some ⟨b, o + (k - 1) * 2, none⟩)) rfl (OpQ.y (OpY.fieldAddr Tfo_77_0 rfl rfl)) ?_
              refine Lex.q (v := .int .i64 (ix xs ((k - 1) * 2))) rfl (OpQ.y (OpY.load1 Tone_3 rfl (Cells.arg (k := (k - 1) * 2) ha rfl (by omega) (pre1 (by omega))))) ?_
              refine Lex.q (v := .pointer (some ⟨b2, 0, none⟩)) rfl (OpQ.y (OpY.fieldAddr Tfo_77_0 rfl rfl)) ?_
              refine Lex.q (v := .int .i64 (ix xs (k * 2))) rfl (OpQ.y (OpY.load1 Tone_3 rfl (Cells.blk (.head _) ⟨rfl, trivial⟩))) ?_
              refine Lex.q (v := .bool ((ix xs ((k - 1) * 2)) == (ix xs (k * 2)))) rfl (OpQ.y (OpY.pure rfl)) ?_
              rcases Bool.eq_false_or_eq_true ((ix xs ((k - 1) * 2)) == (ix xs (k * 2))) with h53 | h53
              · refine Lex.q (v := .bool true) rfl (OpQ.y (OpY.moveB rfl h53)) ?_
                have p53 := h53; try simp only [bs] at p53
                refine Lex.q (v := .pointer (some ⟨b1, 1, none⟩)) rfl (OpQ.y (OpY.fieldAddr Tfo_35_1 rfl rfl)) ?_
                refine Lex.q (v := .slice (some ⟨b, o, none⟩) n c) rfl (OpQ.y (OpY.load1 Tone_33 rfl (Cells.blk (.tail _ (List.Mem.head _)) ⟨rfl, trivial⟩))) ?_
                refine Lex.q (v := .int .i64 (((k : Nat) : Int))) rfl (OpQ.y (OpY.pure rfl)) ?_
                refine Lex.q (v := .int .i64 ((((k : Nat) : Int)) - 1)) rfl (OpQ.y (OpY.sub rfl rfl rfl (by omega) (by omega))) ?_
                refine Lex.q (v := .pointer (some ⟨b, o + (k - 1) * 2, none⟩)) rfl (OpQ.y (OpY.index (kk := k - 1) Tsl_33 rfl rfl (by omega) (by omega) (by first | rfl | omega))) ?_
                refine Lex.q (v := .pointer (some ⟨b, o + (k - 1) * 2 + 1, none⟩)) rfl (OpQ.y (OpY.fieldAddr Tfo_77_1 rfl rfl)) ?_
                refine Lex.q (v := .int .i64 (ix xs ((k - 1) * 2 + 1))) rfl (OpQ.y (OpY.load1 Tone_3 rfl (Cells.arg (k := (k - 1) * 2 + 1) ha rfl (by omega) (pre1 (by omega))))) ?_
                refine Lex.q (v := .pointer (some ⟨b2, 1, none⟩)) rfl (OpQ.y (OpY.fieldAddr Tfo_77_1 rfl rfl)) ?_
                refine Lex.q (v := .int .i64 (ix xs (k * 2 + 1))) rfl (OpQ.y (OpY.load1 Tone_3 rfl (Cells.blk (.head _) ⟨rfl, trivial⟩))) ?_
                refine Lex.q (v := .bool (decide ((ix xs ((k - 1) * 2 + 1)) ≥ (ix xs (k * 2 + 1))))) rfl (OpQ.y (OpY.pure rfl)) ?_
                refine Lex.q (v := .bool (decide ((ix xs ((k - 1) * 2 + 1)) ≥ (ix xs (k * 2 + 1))))) rfl (OpQ.y (OpY.pure rfl)) ?_
                refine Lex.q (v := .bool (decide ((ix xs ((k - 1) * 2 + 1)) ≥ (ix xs (k * 2 + 1))))) rfl (OpQ.y (OpY.pure rfl)) ?_
                refine Lex.q (v := .bool (decide ((ix xs ((k - 1) * 2 + 1)) ≥ (ix xs (k * 2 + 1))))) rfl (OpQ.y (OpY.pure rfl)) ?_
                refine Lex.done ?_
                refine Run.cond (b := decide ((ix xs ((k - 1) * 2 + 1)) ≥ (ix xs (k * 2 + 1)))) rfl (fun h66 => ?_) (fun h66 => ?_)
                · have p66 := h66; try simp only [bs] at p66
                  refine Run.seq ?_
                  have hbad : edgesOk (dec N + 1) xs n = false := by
                    simp only [edgesOk, decide_eq_false_iff_not]; intro h; have h1 := h k hlt; simp only [edgeOk] at *; omega
                  refine Run.region ?_
                  refine Run.q (v := .bool false) rfl (OpQ.y (OpY.pure rfl)) ?_
                  refine Run.done ?_
                  refine Run.ret ?_
                  refine ⟨.bool false, [], Out.one rfl rfl, (Some'.weak (.nil _)), ?_⟩
                  show _ = _
                  rcases Bool.eq_false_or_eq_true (within N 1 8) with hw8 | hw8
                  · have hdd : dec N + 1 = N := by simp only [within_iff] at hw8; omega
                    first | rw [hdd] at hbad | rw [hdd] at hall
                    simp_all [cgOk]
                  · simp_all [cgOk]
                · have p66 := h66; try simp only [bs] at p66
                  refine Run.skip ?_
                  refine Run.blockEnd ?_
                  have hgood : edgeOk (dec N + 1) xs k := by
                    simp only [edgeOk, within, Bool.and_eq_false_iff, Bool.and_eq_true, decide_eq_true_eq, decide_eq_false_iff_not, Bool.not_eq_true', Bool.not_eq_false'] at *; omega
                  refine Run.region ?_
                  refine Run.q (v := .int .i64 ((((k : Nat) : Int)) + 1)) rfl (OpQ.y (OpY.add rfl rfl rfl (by omega) (by omega))) ?_
                  refine Run.q (v := .int .i64 ((((k : Nat) : Int)) + 1)) rfl (OpQ.y (OpY.pure rfl)) ?_
                  refine Run.done ?_
                  refine Run.goal ⟨(by repeat (first | exact Same.refl _ _ | refine Same.put rfl ?_ | refine Same.over rfl rfl ?_)), k + 1, ?_, ?_, ?_, ?_⟩
                  · refine ⟨by omega, fun i hi => ?_⟩
                    rcases Nat.lt_succ_iff_lt_or_eq.1 hi with h | h
                    · exact hinv.2 i h
                    · rw [h]; exact hgood
                  · omega
                  · exact ⟨(by first | rfl | (congr 1; omega) | simp), trivial⟩
                  · exact (Some'.weak (.skip (.takeEq (by first | rfl | simp) (.nil _))))
              · refine Lex.q (v := .bool false) rfl (OpQ.y (OpY.moveB rfl h53)) ?_
                have p53 := h53; try simp only [bs] at p53
                refine Lex.pass rfl ?_
                refine Lex.pass rfl ?_
                refine Lex.pass rfl ?_
                refine Lex.pass rfl ?_
                refine Lex.pass rfl ?_
                refine Lex.pass rfl ?_
                refine Lex.pass rfl ?_
                refine Lex.pass rfl ?_
                refine Lex.pass rfl ?_
                refine Lex.pass rfl ?_
                refine Lex.q (v := .bool false) rfl (OpQ.y (OpY.pure rfl)) ?_
                refine Lex.q (v := .bool false) rfl (OpQ.y (OpY.pure rfl)) ?_
                refine Lex.q (v := .bool false) rfl (OpQ.y (OpY.pure rfl)) ?_
                refine Lex.done ?_
                refine Run.cond (b := false) rfl (fun h => nomatch h) (fun _ => ?_)
                refine Run.skip ?_
                refine Run.blockEnd ?_
                have hgood : edgeOk (dec N + 1) xs k := by
                  simp only [edgeOk, within, Bool.and_eq_false_iff, Bool.and_eq_true, decide_eq_true_eq, decide_eq_false_iff_not, Bool.not_eq_true', Bool.not_eq_false'] at *; omega
                refine Run.region ?_
                refine Run.q (v := .int .i64 ((((k : Nat) : Int)) + 1)) rfl (OpQ.y (OpY.add rfl rfl rfl (by omega) (by omega))) ?_
                refine Run.q (v := .int .i64 ((((k : Nat) : Int)) + 1)) rfl (OpQ.y (OpY.pure rfl)) ?_
                refine Run.done ?_
                refine Run.goal ⟨(by repeat (first | exact Same.refl _ _ | refine Same.put rfl ?_ | refine Same.over rfl rfl ?_)), k + 1, ?_, ?_, ?_, ?_⟩
                · refine ⟨by omega, fun i hi => ?_⟩
                  rcases Nat.lt_succ_iff_lt_or_eq.1 hi with h | h
                  · exact hinv.2 i h
                  · rw [h]; exact hgood
                · omega
                · exact ⟨(by first | rfl | (congr 1; omega) | simp), trivial⟩
                · exact (Some'.weak (.skip (.takeEq (by first | rfl | simp) (.nil _))))
          · refine Lex.q (v := .bool false) rfl (OpQ.y (OpY.moveB rfl h31)) ?_
            have p31 := h31; try simp only [bs] at p31
            refine Lex.pass rfl ?_
            refine Lex.pass rfl ?_
            refine Lex.pass rfl ?_
            refine Lex.pass rfl ?_
            refine Lex.pass rfl ?_
            refine Lex.pass rfl ?_
            refine Lex.pass rfl ?_
            refine Lex.pass rfl ?_
            refine Lex.pass rfl ?_
            refine Lex.pass rfl ?_
            refine Lex.pass rfl ?_
            refine Lex.pass rfl ?_
            refine Lex.pass rfl ?_
            refine Lex.pass rfl ?_
            refine Lex.pass rfl ?_
            refine Lex.pass rfl ?_
            refine Lex.pass rfl ?_
            refine Lex.pass rfl ?_
            refine Lex.pass rfl ?_
            refine Lex.pass rfl ?_
            refine Lex.pass rfl ?_
            refine Lex.pass rfl ?_
            refine Lex.pass rfl ?_
            refine Lex.pass rfl ?_
            refine Lex.pass rfl ?_
            refine Lex.pass rfl ?_
            refine Lex.pass rfl ?_
            refine Lex.pass rfl ?_
            refine Lex.pass rfl ?_
            refine Lex.pass rfl ?_
            refine Lex.pass rfl ?_
            refine Lex.pass rfl ?_
            refine Lex.pass rfl ?_
            refine Lex.pass rfl ?_
            refine Lex.q (v := .bool false) rfl (OpQ.y (OpY.pure rfl)) ?_
            refine Lex.done ?_
            refine Run.cond (b := false) rfl (fun h => nomatch h) (fun _ => ?_)
            refine Run.skip ?_
            refine Run.blockEnd ?_
            have hgood : edgeOk (dec N + 1) xs k := by
              simp only [edgeOk, within, Bool.and_eq_false_iff, Bool.and_eq_true, decide_eq_true_eq, decide_eq_false_iff_not, Bool.not_eq_true', Bool.not_eq_false'] at *; omega
            refine Run.region ?_
            refine Run.q (v := .int .i64 ((((k : Nat) : Int)) + 1)) rfl (OpQ.y (OpY.add rfl rfl rfl (by omega) (by omega))) ?_
            refine Run.q (v := .int .i64 ((((k : Nat) : Int)) + 1)) rfl (OpQ.y (OpY.pure rfl)) ?_
            refine Run.done ?_
            refine Run.goal ⟨(by repeat (first | exact Same.refl _ _ | refine Same.put rfl ?_ | refine Same.over rfl rfl ?_)), k + 1, ?_, ?_, ?_, ?_⟩
            · refine ⟨by omega, fun i hi => ?_⟩
              rcases Nat.lt_succ_iff_lt_or_eq.1 hi with h | h
              · exact hinv.2 i h
              · rw [h]; exact hgood
            · omega
            · exact ⟨(by first | rfl | (congr 1; omega) | simp), trivial⟩
            · exact (Some'.weak (.skip (.takeEq (by first | rfl | simp) (.nil _))))
    · have p9 := h9; try simp only [bs] at p9
      have hkn : k = n := by simp at h9; omega
      have hall : edgesOk (dec N + 1) xs n = true := by simp only [edgesOk, decide_eq_true_eq]; rw [← hkn]; exact hinv.2
      refine Run.exit rfl ?_
      refine Run.seq ?_
      refine Run.region ?_
      refine Run.q (v := .pointer (some ⟨b1, 0, none⟩)) rfl (OpQ.y (OpY.fieldAddr Tfo_35_0 rfl rfl)) ?_
      refine Run.q (v := .int .i64 N) rfl (OpQ.y (OpY.load1 Tone_3 rfl (Cells.blk (.head _) ⟨rfl, trivial⟩))) ?_
      refine Run.q (v := .bool (within N 1 8)) rfl (OpQ.call (vs := [.int .i64 N, .int .i64 1, .int .i64 8]) (caps := []) Tcall_61 rfl rfl (fun w hs => l1In_spec _ _ _ w)) ?_
      refine Run.q (v := .bool (within N 1 8)) rfl (OpQ.y (OpY.pure rfl)) ?_
      refine Run.done ?_
      refine Run.ret ?_
      refine ⟨.bool (within N 1 8), [], Out.one rfl rfl, (Some'.weak (.nil _)), ?_⟩
      show _ = _
      rcases Bool.eq_false_or_eq_true (within N 1 8) with hw8 | hw8
      · have hdd : dec N + 1 = N := by simp only [within_iff] at hw8; omega
        first | rw [hdd] at hbad | rw [hdd] at hall
        simp_all [cgOk]
      · simp_all [cgOk]

end Go.Proofs.Ytekikmdjldincaa
