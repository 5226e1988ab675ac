/- The type of the keys of routes, as a key of sets. -/
import Derived.Test.YtekikmdjldincaaLsl
import Derived.Test.YtekikmdjldincaaMaps
import Derived.DeepKeys4
set_option linter.unusedSimpArgs false
set_option linter.unusedVariables false
namespace Go.Proofs.Ytekikmdjldincaa
open Go Go.RowKit
theorem rk_wide : (match Try.prog.underlying 94 with | some (.array _ _) | some (.struct _) => true | _ => false) = true := by kernel_rfl
theorem rk_type : Try.prog.keyTypeAt 3 94 = true := by kernel_rfl
theorem rk_row : (94 : TypeId) < Try.prog.types.size := of_decide_eq_true (by kernel_rfl)
set_option maxRecDepth 100000 in
theorem rk_laid : laidOutB Try.prog = true := by kernel_rfl
set_option maxRecDepth 100000 in
theorem rk_law : WideMaps.KeyLaw Try.prog 94 := deep_law_laid rk_laid (m := 3) (by omega) rk_row rk_type rk_wide
theorem rk_kt : Try.prog.keyType 94 = true := by kernel_rfl
theorem rk_c1 : Try.prog.cellsOf 92 = 1 := by kernel_rfl
theorem rk_ci : Try.prog.cellsOf 3 = 1 := by kernel_rfl
theorem rk_c5 : Try.prog.cellsOf 91 = 5 := by kernel_rfl
theorem rk_c6 : Try.prog.cellsOf 94 = 6 := by kernel_rfl
theorem rk_can {a b c d e f : Int} (ha : (Lit.int .i64 a).wf = true) (hb : (Lit.int .i64 b).wf = true) (hc : (Lit.int .i64 c).wf = true) (hd : (Lit.int .i64 d).wf = true) (he : (Lit.int .i64 e).wf = true) (hf : (Lit.int .u64 f).wf = true) : Keyable Try.prog 94 (.agg #[.int .i64 a, .int .i64 b, .int .i64 c, .int .i64 d, .int .i64 e, .int .u64 f]) := by
  obtain ⟨z, hz⟩ : ∃ z, Try.prog.types.size + 1 = z + 3 := ⟨Try.prog.types.size - 2, by have h : (94 : Nat) < Try.prog.types.size := rk_row; omega⟩
  refine Option.isSome_iff_exists.1 ?_
  unfold keyOf
  rw [Try.underlying94, hz]
  simp [Program.keyLits, Try.underlying94, Try.underlying91, Try.underlying92, rk_kt, rk_c1, rk_ci, Try.underlying3, rk_c5, rk_c6, Value.formed, Value.cells, List.range_succ, ha, hb, hc, hd, he, hf]


theorem wf_i {x : Int} (h : 0 ≤ x ∧ x < 5) : (Lit.int .i64 x).wf = true := by
  show (decide (-9223372036854775808 ≤ x) && decide (x ≤ 9223372036854775807)) = true
  rw [Bool.and_eq_true, decide_eq_true_eq, decide_eq_true_eq]; omega
theorem wf_u {x : Nat} (h : x < 9223372036854775808) : (Lit.int .u64 (x : Int)).wf = true := by
  show (decide (0 ≤ (x : Int)) && decide ((x : Int) ≤ 18446744073709551615)) = true
  rw [Bool.and_eq_true, decide_eq_true_eq, decide_eq_true_eq]; omega
theorem keyP_can {ps : List Int} {ds : List Bool} {pn n : Nat} (hl : ps.length = pn) (h40 : n ≤ 40) (hr : ∀ i, i < pn → 0 ≤ ix ps i ∧ ix ps i < 5) : Keyable Try.prog 94 (keyP ps ds n) := by
  have h : ∀ i, 0 ≤ ix ps i ∧ ix ps i < 5 := by
    intro i
    by_cases hi : i < pn
    · exact hr i hi
    · have : ix ps i = 0 := by simp only [ix, List.getD]; rw [List.getElem?_eq_none (by omega)]; rfl
      omega
  have h1 := mkD_lt ds n
  have h2 := pow40_le h40
  exact rk_can (wf_i (h 0)) (wf_i (h 1)) (wf_i (h 2)) (wf_i (h 3)) (wf_i (h 4)) (wf_u (by omega))
theorem keyP_inj {ps qs : List Int} {ds es : List Bool} {pn n : Nat} (h1 : ps.length = pn) (h2 : qs.length = pn) (h5 : pn ≤ 5) (h3 : ds.length = n) (h4 : es.length = n) (h : keyP ps ds n = keyP qs es n) : ps = qs ∧ ds = es := by
  simp only [keyP, Value.agg.injEq, Array.mk.injEq, List.cons.injEq, Value.int.injEq, true_and, and_true] at h
  obtain ⟨a0, a1, a2, a3, a4, a5⟩ := h
  refine ⟨list_ext_ix (by omega) fun j hj => ?_, mkD_inj h3 h4 (by omega)⟩
  rcases (by omega : j = 0 ∨ j = 1 ∨ j = 2 ∨ j = 3 ∨ j = 4) with rfl | rfl | rfl | rfl | rfl <;> assumption

end Go.Proofs.Ytekikmdjldincaa
