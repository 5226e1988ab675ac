/- For all arguments the program's RouteFrom returns what the reference's returns, leaves its arguments as they are, and shares no memory: the law FnExactRouteFrom returns true. No condition. -/
import Derived.Test.YtekikmdjldincaaRows
import Derived.Test.YtekikmdjldincaaFacts
import Derived.ProofKit
import Derived.OpenShut
import Derived.Carry
import Derived.Test.YtekikmdjldincaaOpen
import Derived.Test.YtekikmdjldincaaL49
namespace Go.Proofs.Ytekikmdjldincaa.fnExactRouteFrom
open Go Go.RowKit
open Go.ChangeShapes Go.WideShapes Go.ChangeAt
theorem own : ownKnob Try.prog.godebug = none := Facts.own
theorem laidOut : laidOutB Try.prog = true := Facts.laidOut
set_option maxRecDepth 100000 in
theorem lifted (os : Os) (started : os.Started) (H : Type) (enc : TypeId × Value → H) :
    ReturnsInHanded {} Try.checked os 4 .any (Rows.fnExactRouteFromSpec.pre6 enc Try.prog Try.f4 Rows.fnExactRouteFromRow.domain false) (Rows.fnExactRouteFromSpec.post enc Try.prog Try.f4 false true false false) := by
  refine returnsInHanded_of_change (C := Try.checked) own started (by kernel_rfl) Try.func4
    (ChangeSpec.witness6 (enc := enc) (C := Try.checked) false ⟨#[], #[.agg #[.int .i64 0, .slice none 0 0], .agg #[.int .i64 0, .slice none 0 0], .slice none 0 0], []⟩ 8 (by kernel_rfl) (by kernel_rfl) (by kernel_rfl) (by kernel_rfl)) ?_
  intro W base args ds gs before hval0 hW _ _
  have hval : ∀ (j : Nat) t v, Try.f4.params[j]? = some t → args[j]? = some v → Value.okWide Try.prog W .any base t v := hval0
  have hW' := hW
  obtain ⟨p, q, hA0, hV, rfl, hfz, hnd⟩ := hW
  have hA : DataW.TrodAll enc Try.prog W 0 (fun _ => true) true Try.f4.params.toList args.toList ds p := hA0
  rw [Try.params4] at hA hval
  obtain ⟨v0, vs0, d0, ds0, p0, q0, hargs, rfl, rfl, h0, r0⟩ := trodAll_cons hA
  obtain ⟨v1, vs1, d1, ds1, p1, q1, rfl, rfl, rfl, h1, r1⟩ := trodAll_cons r0
  obtain ⟨v2, vs2, d2, ds2, p2, q2, rfl, rfl, rfl, h2, r2⟩ := trodAll_cons r1
  obtain ⟨rfl, rfl, rfl⟩ := trodAll_nil r2
  obtain rfl : args = #[v0, v1, v2] := by cases args; simp_all
  obtain ⟨rfl, rfl⟩ := trodVars_none hV
  clear hA0 hval0
  simp only [List.append_nil] at hW'
  have hlt0 : ∀ x ∈ p0, x.block < W.heap.size := fun x hx => hW'.lt x (by simp [hx])
  have hlt1 : ∀ x ∈ p1, x.block < W.heap.size := fun x hx => hW'.lt x (by simp [hx])
  have hlt2 : ∀ x ∈ p2, x.block < W.heap.size := fun x hx => hW'.lt x (by simp [hx])
  have k0 := h0
  have k1 := h1
  have k2 := h2
  have main : Calls Try.prog 4 #[v0, v1, v2] W (Post No W fun v _ => v = .bool true) := by
    obtain ⟨us, fu, rfl, hl, hf⟩ := open_aggN Try.underlying24 (by kernel_rfl) (by kernel_rfl) (hval 0 24 v0 rfl rfl) h0
    obtain ⟨gc0, gc1, rfl⟩ := list2 hl
    obtain ⟨u, y, hu, hy⟩ := hf 0 _ rfl
    obtain rfl : gc0 = u := by simpa using hu
    obtain ⟨gNodes, rfl, gwNodes⟩ := trod_num Try.underlying3 hy
    clear hu hy
    obtain ⟨u, y, hu, hy⟩ := hf 1 _ rfl
    obtain rfl : gc1 = u := by simpa using hu
    obtain ⟨gnEdges, gxEdges, ghEdges, gwEdges⟩ := open_flat Try.underlying22 (FlatT.struct rfl (by kernel_rfl) Try.underlying79 (by kernel_rfl)) (by decide) hy
    clear hu hy
    clear hl hf
    obtain ⟨us, fu, rfl, hl, hf⟩ := open_aggN Try.underlying27 (by kernel_rfl) (by kernel_rfl) (hval 1 27 v1 rfl rfl) h1
    obtain ⟨cc0, cc1, rfl⟩ := list2 hl
    obtain ⟨u, y, hu, hy⟩ := hf 0 _ rfl
    obtain rfl : cc0 = u := by simpa using hu
    obtain ⟨cQubits, rfl, cwQubits⟩ := trod_num Try.underlying3 hy
    clear hu hy
    obtain ⟨u, y, hu, hy⟩ := hf 1 _ rfl
    obtain rfl : cc1 = u := by simpa using hu
    obtain ⟨cnGates, cxGates, chGates, cwGates⟩ := open_flat Try.underlying25 (FlatT.struct rfl (by kernel_rfl) Try.underlying83 (by kernel_rfl)) (by decide) hy
    clear hu hy
    clear hl hf
    obtain ⟨fu2, hu2⟩ := open_sl Try.underlying28 (hval 2 28 v2 rfl rfl) h2
    obtain ⟨pn, px, ph, pw⟩ := open_flat Try.underlying28 (FlatT.int (by kernel_rfl) Try.underlying3) (by decide) hu2
    exact law_spec gwNodes ghEdges gwEdges cwQubits chGates cwGates ph pw
  refine main.mono fun e W' ⟨v, HH, he, hst, hv⟩ => ?_
  subst he; subst hv
  have hb := hst.below
  exact ⟨_, rfl, _, _, _, [], _, [], hW', (trodAll_cons_mk (shut_bool Try.underlying4 _) trodAll_mk0), (trodAll_cons_mk (Below.trod laidOut (by kernel_rfl) (of_decide_eq_true (by kernel_rfl)) k0 hb hlt0) (trodAll_cons_mk (Below.trod laidOut (by kernel_rfl) (of_decide_eq_true (by kernel_rfl)) k1 hb hlt1) (trodAll_cons_mk (Below.trod laidOut (by kernel_rfl) (of_decide_eq_true (by kernel_rfl)) k2 hb hlt2) trodAll_mk0))), rfl, World.keptBut_mono (fun p hp => ⟨hp, .inr (.inl (by simpa using hp))⟩) (hb.frame _), fun h => by cases h⟩

theorem band {a b : Bool} (ha : a = true) (hb : b = true) : (a && b) = true := by rw [ha, hb]; rfl
set_option maxRecDepth 100000 in
theorem k0 : Rows.fnExactRouteFromRow.wf (OpenSpec.ofChange Rows.fnExactRouteFromSpec) = true := by kernel_rfl
theorem k1 : laidOutB Try.checked.prog = true := Facts.laid
theorem k2 : mapsRowed Try.checked.prog = true := Facts.mapsRowed
set_option maxRecDepth 100000 in
theorem k3 : Try.f4.params.all (Try.checked.prog.readableRec ·) = true := by kernel_rfl
set_option maxRecDepth 100000 in
theorem k4 : namedTie Try.checked.prog Rows.fnExactRouteFromRow.named Rows.fnExactRouteFromSpec.vars = true := by kernel_rfl
set_option maxRecDepth 100000 in
theorem k5 : (Rows.fnExactRouteFromRow.stops == []) = true := by kernel_rfl
theorem k6 : (Try.checked.prog.stops == []) = true := Facts.stops
set_option maxRecDepth 100000 in
theorem k7 : (Rows.fnExactRouteFromRow.knobs == []) = true := by kernel_rfl
theorem k8 : (Try.checked.prog.stopKnobs == []) = true := Facts.stopKnobs
set_option maxRecDepth 100000 in
theorem k9 : (Rows.fnExactRouteFromRow.inPlace == Try.checked.prog.inPlace 4) = true := by kernel_rfl
set_option maxRecDepth 100000 in
theorem k10 : (Rows.fnExactRouteFromRow.unfollowed == Try.checked.prog.unfollowed 4) = true := by kernel_rfl
set_option maxRecDepth 100000 in
theorem k11 : (Rows.fnExactRouteFromRow.recurses == Try.checked.prog.recurses 4) = true := by kernel_rfl
set_option maxRecDepth 100000 in
theorem k12 : (Rows.fnExactRouteFromRow.named == Try.checked.prog.varsNamed 4) = true := by kernel_rfl
set_option maxRecDepth 100000 in
theorem k13 : (Rows.fnExactRouteFromRow.maps == (Try.f4.params.toList ++ Rows.fnExactRouteFromSpec.plain.varTypes Try.checked.prog).any (Try.checked.prog.mapsRec ·)) = true := by kernel_rfl
set_option maxRecDepth 100000 in
theorem k14 : (Rows.fnExactRouteFromRow.ifaces == (Try.f4.params.toList ++ Rows.fnExactRouteFromSpec.plain.varTypes Try.checked.prog).any (Try.checked.prog.ifacesRec ·)) = true := by kernel_rfl
set_option maxRecDepth 100000 in
theorem k15 : (Rows.fnExactRouteFromRow.mapsOut == Try.checked.prog.mapsAmong Try.f4.resultTypes.toList) = true := by kernel_rfl
set_option maxRecDepth 100000 in
theorem k16 : (Rows.fnExactRouteFromRow.loops == (Try.f4.params.toList ++ Rows.fnExactRouteFromSpec.plain.varTypes Try.checked.prog).any (Try.checked.prog.loopsFrom ·)) = true := by kernel_rfl
set_option maxRecDepth 100000 in
theorem k17 : (Rows.fnExactRouteFromRow.wideKeys == (Try.f4.params.toList ++ Rows.fnExactRouteFromSpec.plain.varTypes Try.checked.prog ++ Try.f4.resultTypes.toList).any (Try.checked.prog.wideKeysFrom ·)) = true := by kernel_rfl
set_option maxRecDepth 100000 in
theorem k18 : Rows.fnExactRouteFromSpec.vars.all (Try.checked.prog.varReadable ·) = true := by kernel_rfl
set_option maxRecDepth 100000 in
theorem k19 : Try.f4.resultTypes.all (fun t => Try.checked.prog.readableRec t && decide (t < Try.checked.prog.types.size)) = true := by kernel_rfl
set_option maxRecDepth 100000 in
theorem k20 : (Rows.fnExactRouteFromRow.ifacesOut == Try.f4.resultTypes.toList.any (Try.checked.prog.ifacesRec ·)) = true := by kernel_rfl
set_option maxRecDepth 100000 in
theorem k21 : (Rows.fnExactRouteFromRow.loopsOut == Try.f4.resultTypes.toList.any (Try.checked.prog.loopsFrom ·)) = true := by kernel_rfl
theorem k22 : (Rows.fnExactRouteFromRow.plainKeys == Try.checked.prog.plainKeys) = true := Facts.plainKeys
set_option maxRecDepth 100000 in
theorem k23 : Rows.fnExactRouteFromRow.shortTexts.isNone = true := by kernel_rfl
theorem k24 : Try.checked.prog.stopsHeard = true := Facts.stopsHeard
theorem k25 : Try.checked.prog.mayEnter = true := Facts.mayEnter
theorem k26 : (Rows.fnExactRouteFromRow.lifted == Try.checked.prog.liftsFinal) = true := Facts.lifts
theorem k27 : (Try.checked.prog.make == some Rows.fnExactRouteFromRow.make) = true := Facts.make
set_option maxRecDepth 100000 in
theorem k28 : (Rows.fnExactRouteFromRow.kinds == (if Rows.fnExactRouteFromRow.domain.isEmpty then [] else Try.f4.params.toList.map fun t => match Try.checked.prog.underlying t with | some (.int k) => some k | _ => none)) = true := by kernel_rfl
set_option maxRecDepth 100000 in
theorem k29 : (Rows.fnExactRouteFromRow.pinned == Rows.fnExactRouteFromRow.pinnedBy) = true := by kernel_rfl
set_option maxRecDepth 100000 in
theorem k30 : (Rows.fnExactRouteFromRow.veiled == (Try.f4.params.toList ++ Rows.fnExactRouteFromSpec.plain.varTypes Try.checked.prog ++ Try.f4.resultTypes.toList).any (Try.checked.prog.veiledRec ·)) = true := by kernel_rfl
set_option maxRecDepth 100000 in
theorem k31 : Rows.fnExactRouteFromRow.veiledFits Try.checked.prog Try.f4.params.toList (Try.f4.params.toList ++ Rows.fnExactRouteFromSpec.plain.varTypes Try.checked.prog ++ Try.f4.resultTypes.toList) = true := by kernel_rfl
set_option maxRecDepth 100000 in
theorem closed : joinedFacts Try.checked.prog 4 Try.f4 Rows.fnExactRouteFromSpec Rows.fnExactRouteFromRow = true := by
  unfold joinedFacts
  exact (band (band (band (band (band (band (band (band (band (band (band (band (band (band (band (band (band (band (band (band (band (band (band (band (band (band (band (band (band (band (band k0 k1) k2) k3) k4) k5) k6) k7) k8) k9) k10) k11) k12) k13) k14) k15) k16) k17) k18) k19) k20) k21) k22) k23) k24) k25) k26) k27) k28) k29) k30) k31)
theorem named : Try.checked.prog.funcNamed Rows.fnExactRouteFromRow.func = some 4 := by kernel_rfl
theorem inst : Try.f4.isInstance Try.checked.prog Rows.fnExactRouteFromRow.origin Rows.fnExactRouteFromRow.targs := of_decide_eq_true (by kernel_rfl)
theorem wrap : Try.f4.isWrapper Try.checked.prog Rows.fnExactRouteFromRow.wrapper Rows.fnExactRouteFromRow.mainSum := by
  unfold Func.isWrapper; first | (rw [if_pos (by decide +kernel)]; kernel_rfl) | (rw [if_neg (by decide +kernel)]; exact ⟨rfl, rfl⟩)
/-- The given statement. -/
theorem proved : Rows.FnExactRouteFromSaid :=
  OpenClaim.holds_of_wide 4 Try.f4 rfl rfl rfl rfl rfl rfl rfl ⟨rfl, rfl, rfl, rfl, rfl⟩ rfl rfl rfl rfl rfl named Try.func4 closed inst wrap
    (fun os started H enc _ => lifted os started H enc)
#print axioms proved
end Go.Proofs.Ytekikmdjldincaa.fnExactRouteFrom
