/- For all bytes, over the drawn open graph and flow: program and reference agree; a causal flow is found where there is one; it is one, its sets are a generalised flow, a generalised flow is found, its chains hold every node once and are as many as the outputs: the law FnCausalFlows returns true. No condition. -/
import Derived.Test.YtoiaibgcjfgbcaaRows
import Derived.Test.YtoiaibgcjfgbcaaFacts
import Derived.ProofKit
import Derived.OpenShut
import Derived.Carry
import Derived.Test.YtoiaibgcjfgbcaaOpen
import Derived.Test.YtoiaibgcjfgbcaaOpenb
import Derived.Test.YtoiaibgcjfgbcaaL48
namespace Go.Proofs.Ytoiaibgcjfgbcaa.fnCausalFlows
open Go Go.RowKit
open Go.ChangeShapes Go.WideShapes Go.ChangeAt
theorem own : ownKnob Try.prog.godebug = none := Facts.own
theorem laidOut : laidOutB Try.prog = true := Facts.laidOut
set_option maxRecDepth 100000 in
theorem lifted (os : Os) (started : os.Started) (H : Type) (enc : TypeId × Value → H) :
    ReturnsInHanded {} Try.checked os 3 .any (Rows.fnCausalFlowsSpec.pre6 enc Try.prog Try.f3 Rows.fnCausalFlowsRow.domain false) (Rows.fnCausalFlowsSpec.post enc Try.prog Try.f3 false true false false) := by
  refine returnsInHanded_of_change (C := Try.checked) own started (by kernel_rfl) Try.func3
    (ChangeSpec.witness6 (enc := enc) (C := Try.checked) false ⟨#[], #[.slice none 0 0, .slice none 0 0], []⟩ 8 (by kernel_rfl) (by kernel_rfl) (by kernel_rfl) (by kernel_rfl)) ?_
  intro W base args ds gs before hval0 hW _ _
  have hval : ∀ (j : Nat) t v, Try.f3.params[j]? = some t → args[j]? = some v → Value.okWide Try.prog W .any base t v := hval0
  have hW' := hW
  obtain ⟨p, q, hA0, hV, rfl, hfz, hnd⟩ := hW
  have hA : DataW.TrodAll enc Try.prog W 0 (fun _ => true) true Try.f3.params.toList args.toList ds p := hA0
  rw [Try.params3] at hA hval
  obtain ⟨v0, vs0, d0, ds0, p0, q0, hargs, rfl, rfl, h0, r0⟩ := trodAll_cons hA
  obtain ⟨v1, vs1, d1, ds1, p1, q1, rfl, rfl, rfl, h1, r1⟩ := trodAll_cons r0
  obtain ⟨rfl, rfl, rfl⟩ := trodAll_nil r1
  obtain rfl : args = #[v0, v1] := by cases args; simp_all
  obtain ⟨rfl, rfl⟩ := trodVars_none hV
  clear hA0 hval0
  simp only [List.append_nil] at hW'
  have hlt0 : ∀ x ∈ p0, x.block < W.heap.size := fun x hx => hW'.lt x (by simp [hx])
  have hlt1 : ∀ x ∈ p1, x.block < W.heap.size := fun x hx => hW'.lt x (by simp [hx])
  have k0 := h0
  have k1 := h1
  have main : Calls Try.prog 3 #[v0, v1] W (Post No W fun v _ => v = .bool true) := by
    obtain ⟨fu0, hu0⟩ := open_sl Try.underlying22 (hval 0 22 v0 rfl rfl) h0
    obtain ⟨n0, c0, s0, y0⟩ := open_bytes Try.underlying22 Try.underlying5 (by kernel_rfl) hu0
    obtain ⟨fu1, hu1⟩ := open_sl Try.underlying22 (hval 1 22 v1 rfl rfl) h1
    obtain ⟨n1, c1, s1, y1⟩ := open_bytes Try.underlying22 Try.underlying5 (by kernel_rfl) hu1
    exact law_spec s0 y0 s1 y1
  refine main.mono fun e W' ⟨v, HH, he, hst, hv⟩ => ?_
  subst he; subst hv
  have hb := hst.below
  exact ⟨_, rfl, _, _, _, [], _, [], hW', (trodAll_cons_mk (shut_bool Try.underlying4 _) trodAll_mk0), (trodAll_cons_mk (Below.trod laidOut (by kernel_rfl) (of_decide_eq_true (by kernel_rfl)) k0 hb hlt0) (trodAll_cons_mk (Below.trod laidOut (by kernel_rfl) (of_decide_eq_true (by kernel_rfl)) k1 hb hlt1) trodAll_mk0)), rfl, World.keptBut_mono (fun p hp => ⟨hp, .inr (.inl (by simpa using hp))⟩) (hb.frame _), fun h => by cases h⟩

theorem band {a b : Bool} (ha : a = true) (hb : b = true) : (a && b) = true := by rw [ha, hb]; rfl
set_option maxRecDepth 100000 in
theorem k0 : Rows.fnCausalFlowsRow.wf (OpenSpec.ofChange Rows.fnCausalFlowsSpec) = true := by kernel_rfl
theorem k1 : laidOutB Try.checked.prog = true := Facts.laid
theorem k2 : mapsRowed Try.checked.prog = true := Facts.mapsRowed
set_option maxRecDepth 100000 in
theorem k3 : Try.f3.params.all (Try.checked.prog.readableRec ·) = true := by kernel_rfl
set_option maxRecDepth 100000 in
theorem k4 : namedTie Try.checked.prog Rows.fnCausalFlowsRow.named Rows.fnCausalFlowsSpec.vars = true := by kernel_rfl
set_option maxRecDepth 100000 in
theorem k5 : (Rows.fnCausalFlowsRow.stops == []) = true := by kernel_rfl
theorem k6 : (Try.checked.prog.stops == []) = true := Facts.stops
set_option maxRecDepth 100000 in
theorem k7 : (Rows.fnCausalFlowsRow.knobs == []) = true := by kernel_rfl
theorem k8 : (Try.checked.prog.stopKnobs == []) = true := Facts.stopKnobs
set_option maxRecDepth 100000 in
theorem k9 : (Rows.fnCausalFlowsRow.inPlace == Try.checked.prog.inPlace 3) = true := by kernel_rfl
set_option maxRecDepth 100000 in
theorem k10 : (Rows.fnCausalFlowsRow.unfollowed == Try.checked.prog.unfollowed 3) = true := by kernel_rfl
set_option maxRecDepth 100000 in
theorem k11 : (Rows.fnCausalFlowsRow.recurses == Try.checked.prog.recurses 3) = true := by kernel_rfl
set_option maxRecDepth 100000 in
theorem k12 : (Rows.fnCausalFlowsRow.named == Try.checked.prog.varsNamed 3) = true := by kernel_rfl
set_option maxRecDepth 100000 in
theorem k13 : (Rows.fnCausalFlowsRow.maps == (Try.f3.params.toList ++ Rows.fnCausalFlowsSpec.plain.varTypes Try.checked.prog).any (Try.checked.prog.mapsRec ·)) = true := by kernel_rfl
set_option maxRecDepth 100000 in
theorem k14 : (Rows.fnCausalFlowsRow.ifaces == (Try.f3.params.toList ++ Rows.fnCausalFlowsSpec.plain.varTypes Try.checked.prog).any (Try.checked.prog.ifacesRec ·)) = true := by kernel_rfl
set_option maxRecDepth 100000 in
theorem k15 : (Rows.fnCausalFlowsRow.mapsOut == Try.checked.prog.mapsAmong Try.f3.resultTypes.toList) = true := by kernel_rfl
set_option maxRecDepth 100000 in
theorem k16 : (Rows.fnCausalFlowsRow.loops == (Try.f3.params.toList ++ Rows.fnCausalFlowsSpec.plain.varTypes Try.checked.prog).any (Try.checked.prog.loopsFrom ·)) = true := by kernel_rfl
set_option maxRecDepth 100000 in
theorem k17 : (Rows.fnCausalFlowsRow.wideKeys == (Try.f3.params.toList ++ Rows.fnCausalFlowsSpec.plain.varTypes Try.checked.prog ++ Try.f3.resultTypes.toList).any (Try.checked.prog.wideKeysFrom ·)) = true := by kernel_rfl
set_option maxRecDepth 100000 in
theorem k18 : Rows.fnCausalFlowsSpec.vars.all (Try.checked.prog.varReadable ·) = true := by kernel_rfl
set_option maxRecDepth 100000 in
theorem k19 : Try.f3.resultTypes.all (fun t => Try.checked.prog.readableRec t && decide (t < Try.checked.prog.types.size)) = true := by kernel_rfl
set_option maxRecDepth 100000 in
theorem k20 : (Rows.fnCausalFlowsRow.ifacesOut == Try.f3.resultTypes.toList.any (Try.checked.prog.ifacesRec ·)) = true := by kernel_rfl
set_option maxRecDepth 100000 in
theorem k21 : (Rows.fnCausalFlowsRow.loopsOut == Try.f3.resultTypes.toList.any (Try.checked.prog.loopsFrom ·)) = true := by kernel_rfl
theorem k22 : (Rows.fnCausalFlowsRow.plainKeys == Try.checked.prog.plainKeys) = true := Facts.plainKeys
set_option maxRecDepth 100000 in
theorem k23 : Rows.fnCausalFlowsRow.shortTexts.isNone = true := by kernel_rfl
theorem k24 : Try.checked.prog.stopsHeard = true := Facts.stopsHeard
theorem k25 : Try.checked.prog.mayEnter = true := Facts.mayEnter
theorem k26 : (Rows.fnCausalFlowsRow.lifted == Try.checked.prog.liftsFinal) = true := Facts.lifts
theorem k27 : (Try.checked.prog.make == some Rows.fnCausalFlowsRow.make) = true := Facts.make
set_option maxRecDepth 100000 in
theorem k28 : (Rows.fnCausalFlowsRow.kinds == (if Rows.fnCausalFlowsRow.domain.isEmpty then [] else Try.f3.params.toList.map fun t => match Try.checked.prog.underlying t with | some (.int k) => some k | _ => none)) = true := by kernel_rfl
set_option maxRecDepth 100000 in
theorem k29 : (Rows.fnCausalFlowsRow.pinned == Rows.fnCausalFlowsRow.pinnedBy) = true := by kernel_rfl
set_option maxRecDepth 100000 in
theorem k30 : (Rows.fnCausalFlowsRow.veiled == (Try.f3.params.toList ++ Rows.fnCausalFlowsSpec.plain.varTypes Try.checked.prog ++ Try.f3.resultTypes.toList).any (Try.checked.prog.veiledRec ·)) = true := by kernel_rfl
set_option maxRecDepth 100000 in
theorem k31 : Rows.fnCausalFlowsRow.veiledFits Try.checked.prog Try.f3.params.toList (Try.f3.params.toList ++ Rows.fnCausalFlowsSpec.plain.varTypes Try.checked.prog ++ Try.f3.resultTypes.toList) = true := by kernel_rfl
set_option maxRecDepth 100000 in
theorem closed : joinedFacts Try.checked.prog 3 Try.f3 Rows.fnCausalFlowsSpec Rows.fnCausalFlowsRow = true := by
  unfold joinedFacts
  exact (band (band (band (band (band (band (band (band (band (band (band (band (band (band (band (band (band (band (band (band (band (band (band (band (band (band (band (band (band (band (band k0 k1) k2) k3) k4) k5) k6) k7) k8) k9) k10) k11) k12) k13) k14) k15) k16) k17) k18) k19) k20) k21) k22) k23) k24) k25) k26) k27) k28) k29) k30) k31)
theorem named : Try.checked.prog.funcNamed Rows.fnCausalFlowsRow.func = some 3 := by kernel_rfl
theorem inst : Try.f3.isInstance Try.checked.prog Rows.fnCausalFlowsRow.origin Rows.fnCausalFlowsRow.targs := of_decide_eq_true (by kernel_rfl)
theorem wrap : Try.f3.isWrapper Try.checked.prog Rows.fnCausalFlowsRow.wrapper Rows.fnCausalFlowsRow.mainSum := by
  unfold Func.isWrapper; first | (rw [if_pos (by decide +kernel)]; kernel_rfl) | (rw [if_neg (by decide +kernel)]; exact ⟨rfl, rfl⟩)
/-- The given statement. -/
theorem proved : Rows.FnCausalFlowsSaid :=
  OpenClaim.holds_of_wide 3 Try.f3 rfl rfl rfl rfl rfl rfl rfl ⟨rfl, rfl, rfl, rfl, rfl⟩ rfl rfl rfl rfl rfl named Try.func3 closed inst wrap
    (fun os started H enc _ => lifted os started H enc)
#print axioms proved
end Go.Proofs.Ytoiaibgcjfgbcaa.fnCausalFlows
