/- The card of FnExactDefinedNames. -/
import Derived.Test.YtgpkpopbajkklaaGreatDoorRows
import Derived.Test.YtgpkpopbajkklaaGreatDoorTie
import Derived.Test.YtgpkpopbajkklaaGreatDoorCards
import Derived.Test.YtgpkpopbajkklaaGreatDoorK1
import Derived.Test.YtgpkpopbajkklaaGreatDoorK15
import Derived.ProofKit
import Derived.OpenShut
import Derived.Carry
import Derived.OpenVars
import Derived.Lay
import Derived.SevenTiedAt
import Derived.MakeChecks
import Derived.ChangeMaps5
namespace Go.Proofs.YtgpkpopbajkklaaGreatDoor.fnExactDefinedNames
open Go Go.RowKit
open Go.ChangeShapes Go.WideShapes Go.ChangeAt
theorem own : ownKnob Tryz.prog.godebug = none := Facts.own
theorem laidOut : laidOutB Tryz.prog = true := Facts.laidOut
set_option maxRecDepth 100000 in
theorem lifted (os : Os) (started : os.Started) (H : Type) (enc : TypeId × Value → H) :
    ReturnsInHanded {} Tryz.checked os 6 .any (fun w args => (Rows.fnExactDefinedNamesSpec.pre enc Tryz.prog Tryz.f6 [] false w args ∧ laidMetH Tryz.prog Rows.fnExactDefinedNamesRow.laid w) ∧ sizedMet enc Tryz.prog Tryz.f6 (OpenSpec.ofChange Rows.fnExactDefinedNamesSpec) false w args) (Rows.fnExactDefinedNamesSpec.post enc Tryz.prog Tryz.f6 false true false false) := by
  refine rih_and_shaped (C := Tryz.checked) (X := fun w _ => laidMetH Tryz.prog Rows.fnExactDefinedNamesRow.laid w) (fun _ _ _ hh h => h.of_heap hh) own started (by kernel_rfl) Tryz.func6
    (ChangeSpec.witness_shaped (enc := enc) (C := Tryz.checked) (os := os) (X := fun w _ => laidMetH Tryz.prog Rows.fnExactDefinedNamesRow.laid w) false (World.laidAll Tryz.prog os Rows.fnExactDefinedNamesRow.laid) #[.string ⟨#[]⟩] 8 (World.laidAll_os _ _ _)
      (World.shaped_of_ZipB (by kernel_rfl) (by kernel_rfl)) (by kernel_rfl) (by kernel_rfl) (by kernel_rfl)
      (by rw [MakeChecks.laidMetH_plain _ _ _ (by kernel_rfl)]; exact laidMet_laidAll _ (by kernel_rfl) (by kernel_rfl))) ?_
  intro W base args ds gs before hval0 hW hL hsh
  have hval : ∀ (j : Nat) t v, Tryz.f6.params[j]? = some t → args[j]? = some v → Value.okWide Tryz.prog W .any base t v := hval0
  have hg : Gl W := gl_of hL hsh
  have hW' := hW
  obtain ⟨p, q, hA0, hV, rfl, hfz, hnd⟩ := hW
  have hA : DataW.TrodAll enc Tryz.prog W 0 (fun _ => true) true Tryz.f6.params.toList args.toList ds p := hA0
  rw [Tryz.params6] at hA hval
  obtain ⟨v0, vs0, d0, ds0, p0, q0, hargs, rfl, rfl, h0, r0⟩ := trodAll_cons hA
  obtain ⟨rfl, rfl, rfl⟩ := trodAll_nil r0
  obtain rfl : args = #[v0] := by cases args; simp_all
  obtain ⟨gv, tv, cv, fv, dv0, pv, rfl, _⟩ := trodVars_one hV
  clear hA0 hval0
  have hlt0 : ∀ x ∈ p0, x.block < W.heap.size := fun x hx => hW'.lt x (by simp [hx])
  have k0 := h0
  have main : Calls Tryz.prog 6 #[v0] W (Post No W fun v _ => v = .bool true) := by
    obtain ⟨s0, rfl, rfl, rfl, hs0⟩ := Go.ChangeMaps.open_string Tryz.underlying9 (hval 0 9 v0 rfl rfl) h0
    have hm : maxLen ≤ 9223372036854775807 := by decide
    exact law_spec hg (by show s0.data.toList.length ≤ _; rw [Array.length_toList]; exact Nat.le_trans hs0 hm)
  refine main.mono fun e W' ⟨v, HH, he, hst, hv⟩ => ?_
  subst he; subst hv
  have hb := hst.below
  exact ⟨_, rfl, _, _, _, [], _, _, hW', (trodAll_cons_mk (shut_bool Tryz.underlying4 _) trodAll_mk0), (trodAll_cons_mk (Below.trod laidOut (by kernel_rfl) (of_decide_eq_true (by kernel_rfl)) k0 hb hlt0) trodAll_mk0), Below.trodVars laidOut hb (by kernel_rfl) hV, World.keptBut_mono (fun p hp => ⟨hp, .inr ((List.mem_append.1 hp).elim (fun h => .inl (by simpa using h)) .inr)⟩) (hb.frame _), fun h => by cases h⟩

theorem band {a b : Bool} (ha : a = true) (hb : b = true) : (a && b) = true := by rw [ha, hb]; rfl
set_option maxRecDepth 100000 in
theorem k0 : Rows.fnExactDefinedNamesRow.wf (OpenSpec.ofChange Rows.fnExactDefinedNamesSpec) = true := by kernel_rfl
theorem k1 : laidOutB Tryz.checked.prog = true := Facts.laid
theorem k2 : mapsRowed Tryz.checked.prog = true := Facts.mapsRowed
set_option maxRecDepth 100000 in
theorem k3 : Tryz.f6.params.all (Tryz.checked.prog.readableRec ·) = true := by kernel_rfl
set_option maxRecDepth 100000 in
theorem k4 : namedTie Tryz.checked.prog Rows.fnExactDefinedNamesRow.named Rows.fnExactDefinedNamesSpec.vars = true := by kernel_rfl
set_option maxRecDepth 100000 in
theorem k5 : (Rows.fnExactDefinedNamesRow.stops == []) = true := by kernel_rfl
theorem k6 : (Tryz.checked.prog.stops == []) = true := Facts.stops
set_option maxRecDepth 100000 in
theorem k7 : (Rows.fnExactDefinedNamesRow.knobs == []) = true := by kernel_rfl
theorem k8 : (Tryz.checked.prog.stopKnobs == []) = true := Facts.stopKnobs
set_option maxRecDepth 100000 in
theorem k9 : (Rows.fnExactDefinedNamesRow.inPlace == Tryz.checked.prog.inPlace 6) = true := by kernel_rfl
set_option maxRecDepth 100000 in
theorem k10 : (Rows.fnExactDefinedNamesRow.unfollowed == Tryz.checked.prog.unfollowed 6) = true := by kernel_rfl
set_option maxRecDepth 100000 in
theorem k11 : (Rows.fnExactDefinedNamesRow.recurses == Tryz.checked.prog.recurses 6) = true := by kernel_rfl
set_option maxRecDepth 100000 in
theorem k12 : (Rows.fnExactDefinedNamesRow.named == Tryz.checked.prog.varsNamed 6) = true := by kernel_rfl
set_option maxRecDepth 100000 in
theorem k13 : (Rows.fnExactDefinedNamesRow.maps == (Tryz.f6.params.toList ++ Rows.fnExactDefinedNamesSpec.plain.varTypes Tryz.checked.prog).any (Tryz.checked.prog.mapsRec ·)) = true := by kernel_rfl
set_option maxRecDepth 100000 in
theorem k14 : (Rows.fnExactDefinedNamesRow.ifaces == (Tryz.f6.params.toList ++ Rows.fnExactDefinedNamesSpec.plain.varTypes Tryz.checked.prog).any (Tryz.checked.prog.ifacesRec ·)) = true := by kernel_rfl
set_option maxRecDepth 100000 in
theorem k15 : (Rows.fnExactDefinedNamesRow.mapsOut == Tryz.checked.prog.mapsAmong Tryz.f6.resultTypes.toList) = true := by kernel_rfl
set_option maxRecDepth 100000 in
theorem k16 : (Rows.fnExactDefinedNamesRow.loops == (Tryz.f6.params.toList ++ Rows.fnExactDefinedNamesSpec.plain.varTypes Tryz.checked.prog).any (Tryz.checked.prog.loopsFrom ·)) = true := by kernel_rfl
set_option maxRecDepth 100000 in
theorem k17 : (Rows.fnExactDefinedNamesRow.wideKeys == (Tryz.f6.params.toList ++ Rows.fnExactDefinedNamesSpec.plain.varTypes Tryz.checked.prog ++ Tryz.f6.resultTypes.toList).any (Tryz.checked.prog.wideKeysFrom ·)) = true := by kernel_rfl
set_option maxRecDepth 100000 in
theorem k18 : Rows.fnExactDefinedNamesSpec.vars.all (Tryz.checked.prog.varReadable ·) = true := by kernel_rfl
set_option maxRecDepth 100000 in
theorem k19 : Tryz.f6.resultTypes.all (fun t => Tryz.checked.prog.readableRec t && decide (t < Tryz.checked.prog.types.size)) = true := by kernel_rfl
set_option maxRecDepth 100000 in
theorem k20 : (Rows.fnExactDefinedNamesRow.ifacesOut == Tryz.f6.resultTypes.toList.any (Tryz.checked.prog.ifacesRec ·)) = true := by kernel_rfl
set_option maxRecDepth 100000 in
theorem k21 : (Rows.fnExactDefinedNamesRow.loopsOut == Tryz.f6.resultTypes.toList.any (Tryz.checked.prog.loopsFrom ·)) = true := by kernel_rfl
theorem k22 : (Rows.fnExactDefinedNamesRow.plainKeys == Tryz.checked.prog.plainKeys) = true := Facts.plainKeys
set_option maxRecDepth 100000 in
theorem k23 : Rows.fnExactDefinedNamesRow.shortTexts.isNone = true := by kernel_rfl
theorem k24 : Tryz.checked.prog.stopsHeard = true := Facts.stopsHeard
theorem k25 : Tryz.checked.prog.mayEnter = true := Facts.mayEnter
theorem k26 : (Rows.fnExactDefinedNamesRow.lifted == Tryz.checked.prog.liftsFinal) = true := Facts.lifts
theorem k27 : (Tryz.checked.prog.make == some Rows.fnExactDefinedNamesRow.make) = true := Facts.make
set_option maxRecDepth 100000 in
theorem k28 : (Rows.fnExactDefinedNamesRow.kinds == (if Rows.fnExactDefinedNamesRow.domain.isEmpty then [] else Tryz.f6.params.toList.map fun t => match Tryz.checked.prog.underlying t with | some (.int k) => some k | _ => none)) = true := by kernel_rfl
set_option maxRecDepth 100000 in
theorem k29 : (Rows.fnExactDefinedNamesRow.pinned == Rows.fnExactDefinedNamesRow.pinnedBy) = true := by kernel_rfl
set_option maxRecDepth 100000 in
theorem k30 : (Rows.fnExactDefinedNamesRow.veiled == (Tryz.f6.params.toList ++ Rows.fnExactDefinedNamesSpec.plain.varTypes Tryz.checked.prog ++ Tryz.f6.resultTypes.toList).any (Tryz.checked.prog.veiledRec ·)) = true := by kernel_rfl
set_option maxRecDepth 100000 in
theorem k31 : Rows.fnExactDefinedNamesRow.veiledFits Tryz.checked.prog Tryz.f6.params.toList (Tryz.f6.params.toList ++ Rows.fnExactDefinedNamesSpec.plain.varTypes Tryz.checked.prog ++ Tryz.f6.resultTypes.toList) = true := by kernel_rfl
set_option maxRecDepth 100000 in
theorem closed : joinedFacts Tryz.checked.prog 6 Tryz.f6 Rows.fnExactDefinedNamesSpec Rows.fnExactDefinedNamesRow = true := by
  unfold joinedFacts
  exact (band (band (band (band (band (band (band (band (band (band (band (band (band (band (band (band (band (band (band (band (band (band (band (band (band (band (band (band (band (band (band k0 k1) k2) k3) k4) k5) k6) k7) k8) k9) k10) k11) k12) k13) k14) k15) k16) k17) k18) k19) k20) k21) k22) k23) k24) k25) k26) k27) k28) k29) k30) k31)
theorem named : Tryz.checked.prog.funcNamed Rows.fnExactDefinedNamesRow.func = some 6 := by kernel_rfl
theorem inst : Tryz.f6.isInstance Tryz.checked.prog Rows.fnExactDefinedNamesRow.origin Rows.fnExactDefinedNamesRow.targs := of_decide_eq_true (by kernel_rfl)
theorem wrap : Tryz.f6.isWrapper Tryz.checked.prog Rows.fnExactDefinedNamesRow.wrapper Rows.fnExactDefinedNamesRow.mainSum := by
  unfold Func.isWrapper; first | (rw [if_pos (by decide +kernel)]; kernel_rfl) | (rw [if_neg (by decide +kernel)]; exact ⟨rfl, rfl⟩)
theorem said : Rows.FnExactDefinedNamesSaid :=
  OpenClaim.holds_of_wide 6 Tryz.f6 rfl rfl rfl rfl rfl rfl rfl ⟨rfl, rfl, rfl, rfl, rfl⟩ rfl rfl rfl rfl rfl named Tryz.func6 closed inst wrap
    (fun os started H enc _ => lifted os started H enc)
/-- The given statement. -/
theorem proved : Rows.FnExactDefinedNamesCardSaid :=
  Claim7.holds_tied_plain_at .later [] [.data, .data, .data, .data, .sentinel, .sentinel, .widerDeep, .pinned] true (true, "f71588391801e6e25296ab63b04e81ddbc4a055ec0d51b628fc19d6c8fca9db0") true said (fun _ h => by cases h) (by kernel_rfl) (fun _ h => by cases h) fnExactDefinedNames_row_tie rfl ⟨rfl, rfl⟩ (by kernel_rfl) rfl
    (fun f fn hf hfn => by
      obtain rfl : f = 6 := Option.some.inj ((show Tryz.prog.funcNamed "loop.example/g00864/laws.FnExactDefinedNames" = some 6 by kernel_rfl).symm.trans hf) |>.symm
      obtain rfl : fn = Tryz.f6 := (Option.some.inj (Tryz.func6.symm.trans hfn)).symm
      exact ⟨by kernel_rfl, fun j t ht => by
        rw [Tryz.params6] at ht
        have hm : t ∈ [9] := by simpa using Array.mem_of_getElem? ht
        have hall : ([9].all fun u => !Tryz.prog.wantsStandIn u) = true := by kernel_rfl
        exact (show Tryz.prog.wantsStandIn t = false by simpa using List.all_eq_true.1 hall t hm)⟩)
    (by kernel_rfl)
#print axioms proved
end Go.Proofs.YtgpkpopbajkklaaGreatDoor.fnExactDefinedNames
