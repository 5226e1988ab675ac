/- For all bytes, over the drawn open graph and flow: program and reference agree; a generalised flow is found where there is one, with no more layers than measured nodes; it is one; in the order of measuring what was measured lies outside the sets and odd neighbours of those that follow: the law FnGeneralFlows returns true. No condition. -/
import Derived.Test.YtoiaibgcjfgbcaaRows
import Derived.Test.YtoiaibgcjfgbcaaG1
import Derived.ProofKit
import Derived.OpenShut
import Derived.Carry
import Derived.Test.YtoiaibgcjfgbcaaG2
import Derived.Test.YtoiaibgcjfgbcaaG3
import Derived.Test.YtoiaibgcjfgbcaaG13
namespace Go.Proofs.Ytoiaibgcjfgbcaa.fnGeneralFlows
open Go Go.RowKit
open Go.ChangeShapes Go.WideShapes Go.ChangeAt
theorem own : ownKnob Try.prog.godebug = none := Facts.own
theorem laidOut : laidOutB Try.prog = true := Facts.laidOut
set_option maxRecDepth 100000 in
theorem lifted (os : Os) (started : os.Started) (H : Type) (enc : TypeId × Value → H) :
    ReturnsInHanded {} Try.checked os 4 .any (Rows.fnGeneralFlowsSpec.pre6 enc Try.prog Try.f4 Rows.fnGeneralFlowsRow.domain false) (Rows.fnGeneralFlowsSpec.post enc Try.prog Try.f4 false true false false) := by
  refine returnsInHanded_of_change (C := Try.checked) own started (by kernel_rfl) Try.func4
    (ChangeSpec.witness6 (enc := enc) (C := Try.checked) false ⟨#[], #[.slice none 0 0, .slice none 0 0], []⟩ 8 (by kernel_rfl) (by kernel_rfl) (by kernel_rfl) (by kernel_rfl)) ?_
  intro W base args ds gs before hval0 hW _ _
  have hval : ∀ (j : Nat) t v, Try.f4.params[j]? = some t → args[j]? = some v → Value.okWide Try.prog W .any base t v := hval0
  have hW' := hW
  obtain ⟨p, q, hA0, hV, rfl, hfz, hnd⟩ := hW
  have hA : DataW.TrodAll enc Try.prog W 0 (fun _ => true) true Try.f4.params.toList args.toList ds p := hA0
  rw [Try.params4] at hA hval
  obtain ⟨v0, vs0, d0, ds0, p0, q0, hargs, rfl, rfl, h0, r0⟩ := trodAll_cons hA
  obtain ⟨v1, vs1, d1, ds1, p1, q1, rfl, rfl, rfl, h1, r1⟩ := trodAll_cons r0
  obtain ⟨rfl, rfl, rfl⟩ := trodAll_nil r1
  obtain rfl : args = #[v0, v1] := by cases args; simp_all
  obtain ⟨rfl, rfl⟩ := trodVars_none hV
  clear hA0 hval0
  simp only [List.append_nil] at hW'
  have hlt0 : ∀ x ∈ p0, x.block < W.heap.size := fun x hx => hW'.lt x (by simp [hx])
  have hlt1 : ∀ x ∈ p1, x.block < W.heap.size := fun x hx => hW'.lt x (by simp [hx])
  have k0 := h0
  have k1 := h1
  have main : Calls Try.prog 4 #[v0, v1] W (Post No W fun v _ => v = .bool true) := by
    obtain ⟨fu0, hu0⟩ := open_sl Try.underlying22 (hval 0 22 v0 rfl rfl) h0
    obtain ⟨n0, c0, s0, y0⟩ := open_bytes Try.underlying22 Try.underlying5 (by kernel_rfl) hu0
    obtain ⟨fu1, hu1⟩ := open_sl Try.underlying22 (hval 1 22 v1 rfl rfl) h1
    obtain ⟨n1, c1, s1, y1⟩ := open_bytes Try.underlying22 Try.underlying5 (by kernel_rfl) hu1
    exact law_spec s0 y0 s1 y1
  refine main.mono fun e W' ⟨v, HH, he, hst, hv⟩ => ?_
  subst he; subst hv
  have hb := hst.below
  exact ⟨_, rfl, _, _, _, [], _, [], hW', (trodAll_cons_mk (shut_bool Try.underlying4 _) trodAll_mk0), (trodAll_cons_mk (Below.trod laidOut (by kernel_rfl) (of_decide_eq_true (by kernel_rfl)) k0 hb hlt0) (trodAll_cons_mk (Below.trod laidOut (by kernel_rfl) (of_decide_eq_true (by kernel_rfl)) k1 hb hlt1) trodAll_mk0)), rfl, World.keptBut_mono (fun p hp => ⟨hp, .inr (.inl (by simpa using hp))⟩) (hb.frame _), fun h => by cases h⟩

theorem band {a b : Bool} (ha : a = true) (hb : b = true) : (a && b) = true := by rw [ha, hb]; rfl
set_option maxRecDepth 100000 in
theorem k0 : Rows.fnGeneralFlowsRow.wf (OpenSpec.ofChange Rows.fnGeneralFlowsSpec) = true := by kernel_rfl
theorem k1 : laidOutB Try.checked.prog = true := Facts.laid
theorem k2 : mapsRowed Try.checked.prog = true := Facts.mapsRowed
set_option maxRecDepth 100000 in
theorem k3 : Try.f4.params.all (Try.checked.prog.readableRec ·) = true := by kernel_rfl
set_option maxRecDepth 100000 in
theorem k4 : namedTie Try.checked.prog Rows.fnGeneralFlowsRow.named Rows.fnGeneralFlowsSpec.vars = true := by kernel_rfl
set_option maxRecDepth 100000 in
theorem k5 : (Rows.fnGeneralFlowsRow.stops == []) = true := by kernel_rfl
theorem k6 : (Try.checked.prog.stops == []) = true := Facts.stops
set_option maxRecDepth 100000 in
theorem k7 : (Rows.fnGeneralFlowsRow.knobs == []) = true := by kernel_rfl
theorem k8 : (Try.checked.prog.stopKnobs == []) = true := Facts.stopKnobs
set_option maxRecDepth 100000 in
theorem k9 : (Rows.fnGeneralFlowsRow.inPlace == Try.checked.prog.inPlace 4) = true := by kernel_rfl
set_option maxRecDepth 100000 in
theorem k10 : (Rows.fnGeneralFlowsRow.unfollowed == Try.checked.prog.unfollowed 4) = true := by kernel_rfl
set_option maxRecDepth 100000 in
theorem k11 : (Rows.fnGeneralFlowsRow.recurses == Try.checked.prog.recurses 4) = true := by kernel_rfl
set_option maxRecDepth 100000 in
theorem k12 : (Rows.fnGeneralFlowsRow.named == Try.checked.prog.varsNamed 4) = true := by kernel_rfl
set_option maxRecDepth 100000 in
theorem k13 : (Rows.fnGeneralFlowsRow.maps == (Try.f4.params.toList ++ Rows.fnGeneralFlowsSpec.plain.varTypes Try.checked.prog).any (Try.checked.prog.mapsRec ·)) = true := by kernel_rfl
set_option maxRecDepth 100000 in
theorem k14 : (Rows.fnGeneralFlowsRow.ifaces == (Try.f4.params.toList ++ Rows.fnGeneralFlowsSpec.plain.varTypes Try.checked.prog).any (Try.checked.prog.ifacesRec ·)) = true := by kernel_rfl
set_option maxRecDepth 100000 in
theorem k15 : (Rows.fnGeneralFlowsRow.mapsOut == Try.checked.prog.mapsAmong Try.f4.resultTypes.toList) = true := by kernel_rfl
set_option maxRecDepth 100000 in
theorem k16 : (Rows.fnGeneralFlowsRow.loops == (Try.f4.params.toList ++ Rows.fnGeneralFlowsSpec.plain.varTypes Try.checked.prog).any (Try.checked.prog.loopsFrom ·)) = true := by kernel_rfl
set_option maxRecDepth 100000 in
theorem k17 : (Rows.fnGeneralFlowsRow.wideKeys == (Try.f4.params.toList ++ Rows.fnGeneralFlowsSpec.plain.varTypes Try.checked.prog ++ Try.f4.resultTypes.toList).any (Try.checked.prog.wideKeysFrom ·)) = true := by kernel_rfl
set_option maxRecDepth 100000 in
theorem k18 : Rows.fnGeneralFlowsSpec.vars.all (Try.checked.prog.varReadable ·) = true := by kernel_rfl
set_option maxRecDepth 100000 in
theorem k19 : Try.f4.resultTypes.all (fun t => Try.checked.prog.readableRec t && decide (t < Try.checked.prog.types.size)) = true := by kernel_rfl
set_option maxRecDepth 100000 in
theorem k20 : (Rows.fnGeneralFlowsRow.ifacesOut == Try.f4.resultTypes.toList.any (Try.checked.prog.ifacesRec ·)) = true := by kernel_rfl
set_option maxRecDepth 100000 in
theorem k21 : (Rows.fnGeneralFlowsRow.loopsOut == Try.f4.resultTypes.toList.any (Try.checked.prog.loopsFrom ·)) = true := by kernel_rfl
theorem k22 : (Rows.fnGeneralFlowsRow.plainKeys == Try.checked.prog.plainKeys) = true := Facts.plainKeys
set_option maxRecDepth 100000 in
theorem k23 : Rows.fnGeneralFlowsRow.shortTexts.isNone = true := by kernel_rfl
theorem k24 : Try.checked.prog.stopsHeard = true := Facts.stopsHeard
theorem k25 : Try.checked.prog.mayEnter = true := Facts.mayEnter
theorem k26 : (Rows.fnGeneralFlowsRow.lifted == Try.checked.prog.liftsFinal) = true := Facts.lifts
theorem k27 : (Try.checked.prog.make == some Rows.fnGeneralFlowsRow.make) = true := Facts.make
set_option maxRecDepth 100000 in
theorem k28 : (Rows.fnGeneralFlowsRow.kinds == (if Rows.fnGeneralFlowsRow.domain.isEmpty then [] else Try.f4.params.toList.map fun t => match Try.checked.prog.underlying t with | some (.int k) => some k | _ => none)) = true := by kernel_rfl
set_option maxRecDepth 100000 in
theorem k29 : (Rows.fnGeneralFlowsRow.pinned == Rows.fnGeneralFlowsRow.pinnedBy) = true := by kernel_rfl
set_option maxRecDepth 100000 in
theorem k30 : (Rows.fnGeneralFlowsRow.veiled == (Try.f4.params.toList ++ Rows.fnGeneralFlowsSpec.plain.varTypes Try.checked.prog ++ Try.f4.resultTypes.toList).any (Try.checked.prog.veiledRec ·)) = true := by kernel_rfl
set_option maxRecDepth 100000 in
theorem k31 : Rows.fnGeneralFlowsRow.veiledFits Try.checked.prog Try.f4.params.toList (Try.f4.params.toList ++ Rows.fnGeneralFlowsSpec.plain.varTypes Try.checked.prog ++ Try.f4.resultTypes.toList) = true := by kernel_rfl
set_option maxRecDepth 100000 in
theorem closed : joinedFacts Try.checked.prog 4 Try.f4 Rows.fnGeneralFlowsSpec Rows.fnGeneralFlowsRow = true := by
  unfold joinedFacts
  exact (band (band (band (band (band (band (band (band (band (band (band (band (band (band (band (band (band (band (band (band (band (band (band (band (band (band (band (band (band (band (band k0 k1) k2) k3) k4) k5) k6) k7) k8) k9) k10) k11) k12) k13) k14) k15) k16) k17) k18) k19) k20) k21) k22) k23) k24) k25) k26) k27) k28) k29) k30) k31)
theorem named : Try.checked.prog.funcNamed Rows.fnGeneralFlowsRow.func = some 4 := by kernel_rfl
theorem inst : Try.f4.isInstance Try.checked.prog Rows.fnGeneralFlowsRow.origin Rows.fnGeneralFlowsRow.targs := of_decide_eq_true (by kernel_rfl)
theorem wrap : Try.f4.isWrapper Try.checked.prog Rows.fnGeneralFlowsRow.wrapper Rows.fnGeneralFlowsRow.mainSum := by
  unfold Func.isWrapper; first | (rw [if_pos (by decide +kernel)]; kernel_rfl) | (rw [if_neg (by decide +kernel)]; exact ⟨rfl, rfl⟩)
/-- The given statement. -/
theorem proved : Rows.FnGeneralFlowsSaid :=
  OpenClaim.holds_of_wide 4 Try.f4 rfl rfl rfl rfl rfl rfl rfl ⟨rfl, rfl, rfl, rfl, rfl⟩ rfl rfl rfl rfl rfl named Try.func4 closed inst wrap
    (fun os started H enc _ => lifted os started H enc)
#print axioms proved
end Go.Proofs.Ytoiaibgcjfgbcaa.fnGeneralFlows
