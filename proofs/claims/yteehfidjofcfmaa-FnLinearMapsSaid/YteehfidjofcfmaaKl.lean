/- The key's type, as a key of sets. -/
import Derived.Test.YteehfidjofcfmaaKey
import Derived.Test.YteehfidjofcfmaaMaps
import Derived.DeepKeys4
set_option linter.unusedSimpArgs false
set_option linter.unusedVariables false
namespace Go.Proofs.Yteehfidjofcfmaa
open Go Go.RowKit
theorem kl_wide : (match Try.prog.underlying 108 with | some (.array _ _) | some (.struct _) => true | _ => false) = true := by kernel_rfl
theorem kl_type : Try.prog.keyTypeAt 3 108 = true := by kernel_rfl
theorem kl_row : (108 : TypeId) < Try.prog.types.size := of_decide_eq_true (by kernel_rfl)
set_option maxRecDepth 100000 in
theorem kl_laid : laidOutB Try.prog = true := by kernel_rfl
set_option maxRecDepth 100000 in
theorem kl_law : WideMaps.KeyLaw Try.prog 108 := deep_law_laid kl_laid (m := 3) (by omega) kl_row kl_type kl_wide
theorem kl_kt : Try.prog.keyType 108 = true := by kernel_rfl
theorem kl_c1 : Try.prog.cellsOf 3 = 1 := by kernel_rfl
theorem kl_c5 : Try.prog.cellsOf 106 = 5 := by kernel_rfl
theorem kl_c6 : Try.prog.cellsOf 108 = 6 := by kernel_rfl
theorem kl_can {a b c d e f : Int} (ha : (Lit.int .i64 a).wf = true) (hb : (Lit.int .i64 b).wf = true) (hc : (Lit.int .i64 c).wf = true) (hd : (Lit.int .i64 d).wf = true) (he : (Lit.int .i64 e).wf = true) (hf : (Lit.int .i64 f).wf = true) : Keyable Try.prog 108 (.agg #[.int .i64 a, .int .i64 b, .int .i64 c, .int .i64 d, .int .i64 e, .int .i64 f]) := by
  obtain ⟨z, hz⟩ : ∃ z, Try.prog.types.size + 1 = z + 3 := ⟨Try.prog.types.size - 2, by have h : (108 : Nat) < Try.prog.types.size := kl_row; omega⟩
  refine Option.isSome_iff_exists.1 ?_
  unfold keyOf
  rw [Try.underlying108, hz]
  simp [Program.keyLits, Try.underlying108, Try.underlying106, Try.underlying3, kl_kt, kl_c1, kl_c5, kl_c6, Value.formed, Value.cells, List.range_succ, ha, hb, hc, hd, he, hf]

end Go.Proofs.Yteehfidjofcfmaa
