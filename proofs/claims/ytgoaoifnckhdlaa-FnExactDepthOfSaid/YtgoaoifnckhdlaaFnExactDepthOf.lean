/- For all arguments the program's DepthOf returns what the reference's returns, leaves its arguments as they are, and shares no memory: the law FnExactDepthOf returns true. No condition. -/
import Derived.Test.YtgoaoifnckhdlaaRows
import Derived.ProofKit
import Derived.OpenShut
import Derived.Carry
import Derived.Test.YtgoaoifnckhdlaaOpen
import Derived.Test.YtgoaoifnckhdlaaL11
namespace Go.Proofs.Ytgoaoifnckhdlaa.fnExactDepthOf
open Go Go.RowKit
open Go.ChangeShapes Go.WideShapes Go.ChangeAt
theorem own : ownKnob Try.prog.godebug = none := by kernel_rfl
theorem laidOut : laidOutB Try.prog = true := by kernel_rfl
set_option maxRecDepth 100000 in
theorem lifted (os : Os) (started : os.Started) (H : Type) (enc : TypeId × Value → H) :
    ReturnsInHanded {} Try.checked os 12 .any (Rows.fnExactDepthOfSpec.pre6 enc Try.prog Try.f12 Rows.fnExactDepthOfRow.domain false) (Rows.fnExactDepthOfSpec.post enc Try.prog Try.f12 false true false false) := by
  refine returnsInHanded_of_change (C := Try.checked) own started (by kernel_rfl) Try.func12
    (ChangeSpec.witness6 (enc := enc) (C := Try.checked) false ⟨#[], #[.agg #[.int .i64 0, .slice none 0 0]], []⟩ 8 (by kernel_rfl) (by kernel_rfl) (by kernel_rfl) (by kernel_rfl)) ?_
  intro W base args ds gs before hval0 hW _ _
  have hval : ∀ (j : Nat) t v, Try.f12.params[j]? = some t → args[j]? = some v → Value.okWide Try.prog W .any base t v := hval0
  have hW' := hW
  obtain ⟨p, q, hA0, hV, rfl, hfz, hnd⟩ := hW
  have hA : DataW.TrodAll enc Try.prog W 0 (fun _ => true) true Try.f12.params.toList args.toList ds p := hA0
  rw [Try.params12] at hA hval
  obtain ⟨v0, vs0, d0, ds0, p0, q0, hargs, rfl, rfl, h0, r0⟩ := trodAll_cons hA
  obtain ⟨rfl, rfl, rfl⟩ := trodAll_nil r0
  obtain rfl : args = #[v0] := by cases args; simp_all
  obtain ⟨rfl, rfl⟩ := trodVars_none hV
  clear hA0 hval0
  simp only [List.append_nil] at hW'
  have hlt0 : ∀ x ∈ p0, x.block < W.heap.size := fun x hx => hW'.lt x (by simp [hx])
  have k0 := h0
  have main : Calls Try.prog 12 #[v0] W (Post No W fun v _ => v = .bool true) := by
    obtain ⟨us, fu, rfl, hl, hf⟩ := open_aggN Try.underlying68 (by kernel_rfl) (by kernel_rfl) (hval 0 68 v0 rfl rfl) h0
    obtain ⟨cc0, cc1, rfl⟩ := list2 hl
    obtain ⟨u, y, hu, hy⟩ := hf 0 _ rfl
    obtain rfl : cc0 = u := by simpa using hu
    obtain ⟨cQubits, rfl, cwQubits⟩ := trod_num Try.underlying3 hy
    clear hu hy
    obtain ⟨u, y, hu, hy⟩ := hf 1 _ rfl
    obtain rfl : cc1 = u := by simpa using hu
    obtain ⟨cnGates, cxGates, chGates, cwGates⟩ := open_flat Try.underlying66 (FlatT.struct rfl (by kernel_rfl) Try.underlying146 (by kernel_rfl)) (by decide) hy
    clear hu hy
    clear hl hf
    exact law_spec cwQubits chGates cwGates
  refine main.mono fun e W' ⟨v, HH, he, hst, hv⟩ => ?_
  subst he; subst hv
  have hb := hst.below
  exact ⟨_, rfl, _, _, _, [], _, [], hW', (trodAll_cons_mk (shut_bool Try.underlying4 _) trodAll_mk0), (trodAll_cons_mk (Below.trod laidOut (by kernel_rfl) (of_decide_eq_true (by kernel_rfl)) k0 hb hlt0) trodAll_mk0), rfl, World.keptBut_mono (fun p hp => ⟨hp, .inr (.inl (by simpa using hp))⟩) (hb.frame _), fun h => by cases h⟩

/-- The given statement. -/
theorem proved : Rows.FnExactDepthOfSaid :=
  OpenClaim.holds_of_wide 12 Try.f12 rfl rfl rfl rfl rfl rfl rfl ⟨rfl, rfl, rfl, rfl, rfl⟩ rfl rfl rfl rfl rfl (by kernel_rfl) Try.func12 (by kernel_rfl)
    (of_decide_eq_true (by kernel_rfl)) (by unfold Func.isWrapper; first | (rw [if_pos (by decide +kernel)]; kernel_rfl) | (rw [if_neg (by decide +kernel)]; exact ⟨rfl, rfl⟩))
    (fun os started H enc _ => lifted os started H enc)
#print axioms proved
end Go.Proofs.Ytgoaoifnckhdlaa.fnExactDepthOf
