/- Plain laws: keys tell maps apart. -/
import Derived.Test.YteehfidjofcfmaaKl
import Derived.Test.YteehfidjofcfmaaLbf
set_option linter.unusedSimpArgs false
set_option linter.unusedVariables false
namespace Go.Proofs.Yteehfidjofcfmaa
open Go Go.RowKit

theorem keyV_inj {l l' : List Nat} {f f' : Int} (hl : l.length = l'.length) (h5 : l.length ≤ 5) (h : keyV l f = keyV l' f') : l = l' ∧ f = f' := by
  simp only [keyV, Value.agg.injEq, Array.mk.injEq, List.cons.injEq, Value.int.injEq, true_and, and_true] at h
  obtain ⟨h0, h1, h2, h3, h4, h6⟩ := h
  refine ⟨List.ext_getElem hl fun i hi hi' => ?_, h6⟩
  have e : ∀ i (hi : i < l.length) (hi' : i < l'.length), nx l i = nx l' i → l[i] = l'[i] := fun i hi hi' h => by simpa [nx, List.getD, hi, hi'] using h
  refine e i hi hi' ?_
  rcases (by omega : i = 0 ∨ i = 1 ∨ i = 2 ∨ i = 3 ∨ i = 4) with rfl | rfl | rfl | rfl | rfl <;> omega
theorem wf_nat {x : Nat} (h : x < 9223372036854775808) : (Lit.int .i64 (x : Int)).wf = true := by
  show (decide (-9223372036854775808 ≤ (x : Int)) && decide ((x : Int) ≤ 9223372036854775807)) = true
  rw [Bool.and_eq_true, decide_eq_true_eq, decide_eq_true_eq]; omega
theorem keyV_can {l : List Nat} {f : Nat} (hl : ∀ i, nx l i < 9223372036854775808) (hf : f < 9223372036854775808) : Keyable Try.prog 108 (keyV l f) :=
  kl_can (wf_nat (hl 0)) (wf_nat (hl 1)) (wf_nat (hl 2)) (wf_nat (hl 3)) (wf_nat (hl 4)) (wf_nat hf)
/-- A key's six numbers. -/
def kc (l : List Nat) (f : Nat) : List Int := [(nx l 0 : Nat), (nx l 1 : Nat), (nx l 2 : Nat), (nx l 3 : Nat), (nx l 4 : Nat), (f : Nat)]
theorem keyV_kc (l : List Nat) (f : Nat) : keyV l f = .agg (ints (kc l f)).toArray := rfl
theorem ix_kc {l : List Nat} {f b : Nat} (hb : b < 5) : ix (kc l f) b = (nx l b : Nat) := by
  rcases (by omega : b = 0 ∨ b = 1 ∨ b = 2 ∨ b = 3 ∨ b = 4) with rfl | rfl | rfl | rfl | rfl <;> rfl
theorem ix_kc5 (l : List Nat) (f : Nat) : ix (kc l f) 5 = (f : Nat) := rfl
theorem kc_found (l : List Nat) (f y : Nat) : (kc l f).set 5 (y : Int) = kc l y := rfl
theorem nx_setK {l : List Nat} {b x i : Nat} (hb : b < l.length) : nx (l.set b x) i = if b = i then x else nx l i := by
  unfold nx
  simp only [List.getD, List.getElem?_set]
  split
  · rename_i e; subst e; simp [hb]
  · rfl
theorem kc_set {l : List Nat} {f b x : Nat} (hb : b < l.length) (h5 : l.length ≤ 5) : (kc l f).set b (x : Int) = kc (l.set b x) f := by
  rcases (by omega : b = 0 ∨ b = 1 ∨ b = 2 ∨ b = 3 ∨ b = 4) with rfl | rfl | rfl | rfl | rfl <;> simp [kc, nx_setK hb]

end Go.Proofs.Yteehfidjofcfmaa
