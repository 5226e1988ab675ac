/- For all arguments the program's DiagramOf returns what the reference's returns, leaves its arguments as they are, and shares no memory: the law FnExactDiagramOf returns true. No condition. -/
import Derived.Test.YtnnkoeknejeieaaRows
import Derived.Test.YtnnkoeknejeieaaFacts
import Derived.ProofKit
import Derived.OpenShut
import Derived.Carry
import Derived.Test.YtnnkoeknejeieaaOpen
import Derived.Test.YtnnkoeknejeieaaL58
namespace Go.Proofs.Ytnnkoeknejeieaa.fnExactDiagramOf
open Go Go.RowKit
open Go.ChangeShapes Go.WideShapes Go.ChangeAt
theorem own : ownKnob Try.prog.godebug = none := Facts.own
theorem laidOut : laidOutB Try.prog = true := Facts.laidOut
set_option maxRecDepth 100000 in
theorem lifted (os : Os) (started : os.Started) (H : Type) (enc : TypeId × Value → H) :
    ReturnsInHanded {} Try.checked os 3 .any (Rows.fnExactDiagramOfSpec.pre6 enc Try.prog Try.f3 Rows.fnExactDiagramOfRow.domain false) (Rows.fnExactDiagramOfSpec.post enc Try.prog Try.f3 false true false false) := by
  refine returnsInHanded_of_change (C := Try.checked) own started (by kernel_rfl) Try.func3
    (ChangeSpec.witness6 (enc := enc) (C := Try.checked) false ⟨#[], #[.agg #[.int .i64 0, .slice none 0 0]], []⟩ 8 (by kernel_rfl) (by kernel_rfl) (by kernel_rfl) (by kernel_rfl)) ?_
  intro W base args ds gs before hval0 hW _ _
  have hval : ∀ (j : Nat) t v, Try.f3.params[j]? = some t → args[j]? = some v → Value.okWide Try.prog W .any base t v := hval0
  have hW' := hW
  obtain ⟨p, q, hA0, hV, rfl, hfz, hnd⟩ := hW
  have hA : DataW.TrodAll enc Try.prog W 0 (fun _ => true) true Try.f3.params.toList args.toList ds p := hA0
  rw [Try.params3] at hA hval
  obtain ⟨v0, vs0, d0, ds0, p0, q0, hargs, rfl, rfl, h0, r0⟩ := trodAll_cons hA
  obtain ⟨rfl, rfl, rfl⟩ := trodAll_nil r0
  obtain rfl : args = #[v0] := by cases args; simp_all
  obtain ⟨rfl, rfl⟩ := trodVars_none hV
  clear hA0 hval0
  simp only [List.append_nil] at hW'
  have hlt0 : ∀ x ∈ p0, x.block < W.heap.size := fun x hx => hW'.lt x (by simp [hx])
  have k0 := h0
  have main : Calls Try.prog 3 #[v0] W (Post No W fun v _ => v = .bool true) := by
    obtain ⟨us, fu, rfl, hl, hf⟩ := open_aggN Try.underlying24 (by kernel_rfl) (by kernel_rfl) (hval 0 24 v0 rfl rfl) h0
    obtain ⟨pc0, pc1, rfl⟩ := list2 hl
    obtain ⟨u, y, hu, hy⟩ := hf 0 _ rfl
    obtain rfl : pc0 = u := by simpa using hu
    obtain ⟨pQubits, rfl, pwQubits⟩ := trod_num Try.underlying3 hy
    clear hu hy
    obtain ⟨u, y, hu, hy⟩ := hf 1 _ rfl
    obtain rfl : pc1 = u := by simpa using hu
    obtain ⟨pnGates, pxGates, phGates, pwGates⟩ := open_flat Try.underlying22 (FlatT.struct rfl (by kernel_rfl) Try.underlying75 (by kernel_rfl)) (by decide) hy
    clear hu hy
    clear hl hf
    exact law_spec pwQubits phGates pwGates
  refine main.mono fun e W' ⟨v, HH, he, hst, hv⟩ => ?_
  subst he; subst hv
  have hb := hst.below
  exact ⟨_, rfl, _, _, _, [], _, [], hW', (trodAll_cons_mk (shut_bool Try.underlying4 _) trodAll_mk0), (trodAll_cons_mk (Below.trod laidOut (by kernel_rfl) (of_decide_eq_true (by kernel_rfl)) k0 hb hlt0) trodAll_mk0), rfl, World.keptBut_mono (fun p hp => ⟨hp, .inr (.inl (by simpa using hp))⟩) (hb.frame _), fun h => by cases h⟩

theorem band {a b : Bool} (ha : a = true) (hb : b = true) : (a && b) = true := by rw [ha, hb]; rfl
set_option maxRecDepth 100000 in
theorem k0 : Rows.fnExactDiagramOfRow.wf (OpenSpec.ofChange Rows.fnExactDiagramOfSpec) = true := by kernel_rfl
theorem k1 : laidOutB Try.checked.prog = true := Facts.laid
theorem k2 : mapsRowed Try.checked.prog = true := Facts.mapsRowed
set_option maxRecDepth 100000 in
theorem k3 : Try.f3.params.all (Try.checked.prog.readableRec ·) = true := by kernel_rfl
set_option maxRecDepth 100000 in
theorem k4 : namedTie Try.checked.prog Rows.fnExactDiagramOfRow.named Rows.fnExactDiagramOfSpec.vars = true := by kernel_rfl
set_option maxRecDepth 100000 in
theorem k5 : (Rows.fnExactDiagramOfRow.stops == []) = true := by kernel_rfl
theorem k6 : (Try.checked.prog.stops == []) = true := Facts.stops
set_option maxRecDepth 100000 in
theorem k7 : (Rows.fnExactDiagramOfRow.knobs == []) = true := by kernel_rfl
theorem k8 : (Try.checked.prog.stopKnobs == []) = true := Facts.stopKnobs
set_option maxRecDepth 100000 in
theorem k9 : (Rows.fnExactDiagramOfRow.inPlace == Try.checked.prog.inPlace 3) = true := by kernel_rfl
set_option maxRecDepth 100000 in
theorem k10 : (Rows.fnExactDiagramOfRow.unfollowed == Try.checked.prog.unfollowed 3) = true := by kernel_rfl
set_option maxRecDepth 100000 in
theorem k11 : (Rows.fnExactDiagramOfRow.recurses == Try.checked.prog.recurses 3) = true := by kernel_rfl
set_option maxRecDepth 100000 in
theorem k12 : (Rows.fnExactDiagramOfRow.named == Try.checked.prog.varsNamed 3) = true := by kernel_rfl
set_option maxRecDepth 100000 in
theorem k13 : (Rows.fnExactDiagramOfRow.maps == (Try.f3.params.toList ++ Rows.fnExactDiagramOfSpec.plain.varTypes Try.checked.prog).any (Try.checked.prog.mapsRec ·)) = true := by kernel_rfl
set_option maxRecDepth 100000 in
theorem k14 : (Rows.fnExactDiagramOfRow.ifaces == (Try.f3.params.toList ++ Rows.fnExactDiagramOfSpec.plain.varTypes Try.checked.prog).any (Try.checked.prog.ifacesRec ·)) = true := by kernel_rfl
set_option maxRecDepth 100000 in
theorem k15 : (Rows.fnExactDiagramOfRow.mapsOut == Try.checked.prog.mapsAmong Try.f3.resultTypes.toList) = true := by kernel_rfl
set_option maxRecDepth 100000 in
theorem k16 : (Rows.fnExactDiagramOfRow.loops == (Try.f3.params.toList ++ Rows.fnExactDiagramOfSpec.plain.varTypes Try.checked.prog).any (Try.checked.prog.loopsFrom ·)) = true := by kernel_rfl
set_option maxRecDepth 100000 in
theorem k17 : (Rows.fnExactDiagramOfRow.wideKeys == (Try.f3.params.toList ++ Rows.fnExactDiagramOfSpec.plain.varTypes Try.checked.prog ++ Try.f3.resultTypes.toList).any (Try.checked.prog.wideKeysFrom ·)) = true := by kernel_rfl
set_option maxRecDepth 100000 in
theorem k18 : Rows.fnExactDiagramOfSpec.vars.all (Try.checked.prog.varReadable ·) = true := by kernel_rfl
set_option maxRecDepth 100000 in
theorem k19 : Try.f3.resultTypes.all (fun t => Try.checked.prog.readableRec t && decide (t < Try.checked.prog.types.size)) = true := by kernel_rfl
set_option maxRecDepth 100000 in
theorem k20 : (Rows.fnExactDiagramOfRow.ifacesOut == Try.f3.resultTypes.toList.any (Try.checked.prog.ifacesRec ·)) = true := by kernel_rfl
set_option maxRecDepth 100000 in
theorem k21 : (Rows.fnExactDiagramOfRow.loopsOut == Try.f3.resultTypes.toList.any (Try.checked.prog.loopsFrom ·)) = true := by kernel_rfl
theorem k22 : (Rows.fnExactDiagramOfRow.plainKeys == Try.checked.prog.plainKeys) = true := Facts.plainKeys
set_option maxRecDepth 100000 in
theorem k23 : Rows.fnExactDiagramOfRow.shortTexts.isNone = true := by kernel_rfl
theorem k24 : Try.checked.prog.stopsHeard = true := Facts.stopsHeard
theorem k25 : Try.checked.prog.mayEnter = true := Facts.mayEnter
theorem k26 : (Rows.fnExactDiagramOfRow.lifted == Try.checked.prog.liftsFinal) = true := Facts.lifts
theorem k27 : (Try.checked.prog.make == some Rows.fnExactDiagramOfRow.make) = true := Facts.make
set_option maxRecDepth 100000 in
theorem k28 : (Rows.fnExactDiagramOfRow.kinds == (if Rows.fnExactDiagramOfRow.domain.isEmpty then [] else Try.f3.params.toList.map fun t => match Try.checked.prog.underlying t with | some (.int k) => some k | _ => none)) = true := by kernel_rfl
set_option maxRecDepth 100000 in
theorem k29 : (Rows.fnExactDiagramOfRow.pinned == Rows.fnExactDiagramOfRow.pinnedBy) = true := by kernel_rfl
set_option maxRecDepth 100000 in
theorem k30 : (Rows.fnExactDiagramOfRow.veiled == (Try.f3.params.toList ++ Rows.fnExactDiagramOfSpec.plain.varTypes Try.checked.prog ++ Try.f3.resultTypes.toList).any (Try.checked.prog.veiledRec ·)) = true := by kernel_rfl
set_option maxRecDepth 100000 in
theorem k31 : Rows.fnExactDiagramOfRow.veiledFits Try.checked.prog Try.f3.params.toList (Try.f3.params.toList ++ Rows.fnExactDiagramOfSpec.plain.varTypes Try.checked.prog ++ Try.f3.resultTypes.toList) = true := by kernel_rfl
set_option maxRecDepth 100000 in
theorem closed : joinedFacts Try.checked.prog 3 Try.f3 Rows.fnExactDiagramOfSpec Rows.fnExactDiagramOfRow = true := by
  unfold joinedFacts
  exact (band (band (band (band (band (band (band (band (band (band (band (band (band (band (band (band (band (band (band (band (band (band (band (band (band (band (band (band (band (band (band k0 k1) k2) k3) k4) k5) k6) k7) k8) k9) k10) k11) k12) k13) k14) k15) k16) k17) k18) k19) k20) k21) k22) k23) k24) k25) k26) k27) k28) k29) k30) k31)
theorem named : Try.checked.prog.funcNamed Rows.fnExactDiagramOfRow.func = some 3 := by kernel_rfl
theorem inst : Try.f3.isInstance Try.checked.prog Rows.fnExactDiagramOfRow.origin Rows.fnExactDiagramOfRow.targs := of_decide_eq_true (by kernel_rfl)
theorem wrap : Try.f3.isWrapper Try.checked.prog Rows.fnExactDiagramOfRow.wrapper Rows.fnExactDiagramOfRow.mainSum := by
  unfold Func.isWrapper; first | (rw [if_pos (by decide +kernel)]; kernel_rfl) | (rw [if_neg (by decide +kernel)]; exact ⟨rfl, rfl⟩)
/-- The given statement. -/
theorem proved : Rows.FnExactDiagramOfSaid :=
  OpenClaim.holds_of_wide 3 Try.f3 rfl rfl rfl rfl rfl rfl rfl ⟨rfl, rfl, rfl, rfl, rfl⟩ rfl rfl rfl rfl rfl named Try.func3 closed inst wrap
    (fun os started H enc _ => lifted os started H enc)
#print axioms proved
end Go.Proofs.Ytnnkoeknejeieaa.fnExactDiagramOf
