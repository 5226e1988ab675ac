/- The card of FnCircuitTexts. -/
import Derived.Test.YtgpkpopbajkklaaGreatDoorRows
import Derived.Test.YtgpkpopbajkklaaGreatDoorTie
import Derived.Test.YtgpkpopbajkklaaGreatDoorCards
import Derived.Test.YtgpkpopbajkklaaGreatDoorV1
import Derived.Test.YtgpkpopbajkklaaGreatDoorV12
import Derived.Test.YtgpkpopbajkklaaGreatDoorV15
import Derived.ProofKit
import Derived.OpenShut
import Derived.Carry
import Derived.OpenVars
import Derived.Lay
import Derived.SevenTiedAt
import Derived.MakeChecks
import Derived.ChangeMaps5
namespace Go.Proofs.YtgpkpopbajkklaaGreatDoor.fnCircuitTexts
open Go Go.RowKit
open Go.ChangeShapes Go.WideShapes Go.ChangeAt
theorem own : ownKnob Tryz.prog.godebug = none := Facts.own
theorem laidOut : laidOutB Tryz.prog = true := Facts.laidOut
set_option maxRecDepth 100000 in
theorem lifted (os : Os) (started : os.Started) (H : Type) (enc : TypeId × Value → H) :
    ReturnsInHanded {} Tryz.checked os 4 .any (fun w args => (Rows.fnCircuitTextsSpec.pre enc Tryz.prog Tryz.f4 [] false w args ∧ laidMetH Tryz.prog Rows.fnCircuitTextsRow.laid w) ∧ sizedMet enc Tryz.prog Tryz.f4 (OpenSpec.ofChange Rows.fnCircuitTextsSpec) false w args) (Rows.fnCircuitTextsSpec.post enc Tryz.prog Tryz.f4 false true false false) := by
  refine rih_and_shaped (C := Tryz.checked) (X := fun w _ => laidMetH Tryz.prog Rows.fnCircuitTextsRow.laid w) (fun _ _ _ hh h => h.of_heap hh) own started (by kernel_rfl) Tryz.func4
    (ChangeSpec.witness_shaped (enc := enc) (C := Tryz.checked) (os := os) (X := fun w _ => laidMetH Tryz.prog Rows.fnCircuitTextsRow.laid w) false (World.laidAll Tryz.prog os Rows.fnCircuitTextsRow.laid) #[.slice none 0 0, .slice none 0 0] 8 (World.laidAll_os _ _ _)
      (World.shaped_of_ZipB (by kernel_rfl) (by kernel_rfl)) (by kernel_rfl) (by kernel_rfl) (by kernel_rfl)
      (by rw [MakeChecks.laidMetH_plain _ _ _ (by kernel_rfl)]; exact laidMet_laidAll _ (by kernel_rfl) (by kernel_rfl))) ?_
  intro W base args ds gs before hval0 hW hL hsh
  have hval : ∀ (j : Nat) t v, Tryz.f4.params[j]? = some t → args[j]? = some v → Value.okWide Tryz.prog W .any base t v := hval0
  have hg : Gl W := gl_of hL hsh
  have hW' := hW
  obtain ⟨p, q, hA0, hV, rfl, hfz, hnd⟩ := hW
  have hA : DataW.TrodAll enc Tryz.prog W 0 (fun _ => true) true Tryz.f4.params.toList args.toList ds p := hA0
  rw [Tryz.params4] at hA hval
  obtain ⟨v0, vs0, d0, ds0, p0, q0, hargs, rfl, rfl, h0, r0⟩ := trodAll_cons hA
  obtain ⟨v1, vs1, d1, ds1, p1, q1, rfl, rfl, rfl, h1, r1⟩ := trodAll_cons r0
  obtain ⟨rfl, rfl, rfl⟩ := trodAll_nil r1
  obtain rfl : args = #[v0, v1] := by cases args; simp_all
  obtain ⟨gv, tv, cv, fv, dv0, pv, rfl, _⟩ := trodVars_one hV
  clear hA0 hval0
  have hlt0 : ∀ x ∈ p0, x.block < W.heap.size := fun x hx => hW'.lt x (by simp [hx])
  have k0 := h0
  have hlt1 : ∀ x ∈ p1, x.block < W.heap.size := fun x hx => hW'.lt x (by simp [hx])
  have k1 := h1
  have main : Calls Tryz.prog 4 #[v0, v1] W (Post No W fun v _ => v = .bool true) := by
    obtain ⟨fu0, hu0⟩ := open_sl Tryz.underlying30 (hval 0 30 v0 rfl rfl) h0
    obtain ⟨n0, c0, s0, y0⟩ := open_bytes Tryz.underlying30 Tryz.underlying5 (by kernel_rfl) hu0
    obtain ⟨fu1, hu1⟩ := open_sl Tryz.underlying30 (hval 1 30 v1 rfl rfl) h1
    obtain ⟨n1, c1, s1, y1⟩ := open_bytes Tryz.underlying30 Tryz.underlying5 (by kernel_rfl) hu1
    exact law_spec hg s0 y0 s1 y1
  refine main.mono fun e W' ⟨v, HH, he, hst, hv⟩ => ?_
  subst he; subst hv
  have hb := hst.below
  exact ⟨_, rfl, _, _, _, [], _, _, hW', (trodAll_cons_mk (shut_bool Tryz.underlying4 _) trodAll_mk0), (trodAll_cons_mk (Below.trod laidOut (by kernel_rfl) (of_decide_eq_true (by kernel_rfl)) k0 hb hlt0) (trodAll_cons_mk (Below.trod laidOut (by kernel_rfl) (of_decide_eq_true (by kernel_rfl)) k1 hb hlt1) trodAll_mk0)), Below.trodVars laidOut hb (by kernel_rfl) hV, World.keptBut_mono (fun p hp => ⟨hp, .inr ((List.mem_append.1 hp).elim (fun h => .inl (by simpa using h)) .inr)⟩) (hb.frame _), fun h => by cases h⟩

theorem band {a b : Bool} (ha : a = true) (hb : b = true) : (a && b) = true := by rw [ha, hb]; rfl
set_option maxRecDepth 100000 in
theorem k0 : Rows.fnCircuitTextsRow.wf (OpenSpec.ofChange Rows.fnCircuitTextsSpec) = true := by kernel_rfl
theorem k1 : laidOutB Tryz.checked.prog = true := Facts.laid
theorem k2 : mapsRowed Tryz.checked.prog = true := Facts.mapsRowed
set_option maxRecDepth 100000 in
theorem k3 : Tryz.f4.params.all (Tryz.checked.prog.readableRec ·) = true := by kernel_rfl
set_option maxRecDepth 100000 in
theorem k4 : namedTie Tryz.checked.prog Rows.fnCircuitTextsRow.named Rows.fnCircuitTextsSpec.vars = true := by kernel_rfl
set_option maxRecDepth 100000 in
theorem k5 : (Rows.fnCircuitTextsRow.stops == []) = true := by kernel_rfl
theorem k6 : (Tryz.checked.prog.stops == []) = true := Facts.stops
set_option maxRecDepth 100000 in
theorem k7 : (Rows.fnCircuitTextsRow.knobs == []) = true := by kernel_rfl
theorem k8 : (Tryz.checked.prog.stopKnobs == []) = true := Facts.stopKnobs
set_option maxRecDepth 100000 in
theorem k9 : (Rows.fnCircuitTextsRow.inPlace == Tryz.checked.prog.inPlace 4) = true := by kernel_rfl
set_option maxRecDepth 100000 in
theorem k10 : (Rows.fnCircuitTextsRow.unfollowed == Tryz.checked.prog.unfollowed 4) = true := by kernel_rfl
set_option maxRecDepth 100000 in
theorem k11 : (Rows.fnCircuitTextsRow.recurses == Tryz.checked.prog.recurses 4) = true := by kernel_rfl
set_option maxRecDepth 100000 in
theorem k12 : (Rows.fnCircuitTextsRow.named == Tryz.checked.prog.varsNamed 4) = true := by kernel_rfl
set_option maxRecDepth 100000 in
theorem k13 : (Rows.fnCircuitTextsRow.maps == (Tryz.f4.params.toList ++ Rows.fnCircuitTextsSpec.plain.varTypes Tryz.checked.prog).any (Tryz.checked.prog.mapsRec ·)) = true := by kernel_rfl
set_option maxRecDepth 100000 in
theorem k14 : (Rows.fnCircuitTextsRow.ifaces == (Tryz.f4.params.toList ++ Rows.fnCircuitTextsSpec.plain.varTypes Tryz.checked.prog).any (Tryz.checked.prog.ifacesRec ·)) = true := by kernel_rfl
set_option maxRecDepth 100000 in
theorem k15 : (Rows.fnCircuitTextsRow.mapsOut == Tryz.checked.prog.mapsAmong Tryz.f4.resultTypes.toList) = true := by kernel_rfl
set_option maxRecDepth 100000 in
theorem k16 : (Rows.fnCircuitTextsRow.loops == (Tryz.f4.params.toList ++ Rows.fnCircuitTextsSpec.plain.varTypes Tryz.checked.prog).any (Tryz.checked.prog.loopsFrom ·)) = true := by kernel_rfl
set_option maxRecDepth 100000 in
theorem k17 : (Rows.fnCircuitTextsRow.wideKeys == (Tryz.f4.params.toList ++ Rows.fnCircuitTextsSpec.plain.varTypes Tryz.checked.prog ++ Tryz.f4.resultTypes.toList).any (Tryz.checked.prog.wideKeysFrom ·)) = true := by kernel_rfl
set_option maxRecDepth 100000 in
theorem k18 : Rows.fnCircuitTextsSpec.vars.all (Tryz.checked.prog.varReadable ·) = true := by kernel_rfl
set_option maxRecDepth 100000 in
theorem k19 : Tryz.f4.resultTypes.all (fun t => Tryz.checked.prog.readableRec t && decide (t < Tryz.checked.prog.types.size)) = true := by kernel_rfl
set_option maxRecDepth 100000 in
theorem k20 : (Rows.fnCircuitTextsRow.ifacesOut == Tryz.f4.resultTypes.toList.any (Tryz.checked.prog.ifacesRec ·)) = true := by kernel_rfl
set_option maxRecDepth 100000 in
theorem k21 : (Rows.fnCircuitTextsRow.loopsOut == Tryz.f4.resultTypes.toList.any (Tryz.checked.prog.loopsFrom ·)) = true := by kernel_rfl
theorem k22 : (Rows.fnCircuitTextsRow.plainKeys == Tryz.checked.prog.plainKeys) = true := Facts.plainKeys
set_option maxRecDepth 100000 in
theorem k23 : Rows.fnCircuitTextsRow.shortTexts.isNone = true := by kernel_rfl
theorem k24 : Tryz.checked.prog.stopsHeard = true := Facts.stopsHeard
theorem k25 : Tryz.checked.prog.mayEnter = true := Facts.mayEnter
theorem k26 : (Rows.fnCircuitTextsRow.lifted == Tryz.checked.prog.liftsFinal) = true := Facts.lifts
theorem k27 : (Tryz.checked.prog.make == some Rows.fnCircuitTextsRow.make) = true := Facts.make
set_option maxRecDepth 100000 in
theorem k28 : (Rows.fnCircuitTextsRow.kinds == (if Rows.fnCircuitTextsRow.domain.isEmpty then [] else Tryz.f4.params.toList.map fun t => match Tryz.checked.prog.underlying t with | some (.int k) => some k | _ => none)) = true := by kernel_rfl
set_option maxRecDepth 100000 in
theorem k29 : (Rows.fnCircuitTextsRow.pinned == Rows.fnCircuitTextsRow.pinnedBy) = true := by kernel_rfl
set_option maxRecDepth 100000 in
theorem k30 : (Rows.fnCircuitTextsRow.veiled == (Tryz.f4.params.toList ++ Rows.fnCircuitTextsSpec.plain.varTypes Tryz.checked.prog ++ Tryz.f4.resultTypes.toList).any (Tryz.checked.prog.veiledRec ·)) = true := by kernel_rfl
set_option maxRecDepth 100000 in
theorem k31 : Rows.fnCircuitTextsRow.veiledFits Tryz.checked.prog Tryz.f4.params.toList (Tryz.f4.params.toList ++ Rows.fnCircuitTextsSpec.plain.varTypes Tryz.checked.prog ++ Tryz.f4.resultTypes.toList) = true := by kernel_rfl
set_option maxRecDepth 100000 in
theorem closed : joinedFacts Tryz.checked.prog 4 Tryz.f4 Rows.fnCircuitTextsSpec Rows.fnCircuitTextsRow = true := by
  unfold joinedFacts
  exact (band (band (band (band (band (band (band (band (band (band (band (band (band (band (band (band (band (band (band (band (band (band (band (band (band (band (band (band (band (band (band k0 k1) k2) k3) k4) k5) k6) k7) k8) k9) k10) k11) k12) k13) k14) k15) k16) k17) k18) k19) k20) k21) k22) k23) k24) k25) k26) k27) k28) k29) k30) k31)
theorem named : Tryz.checked.prog.funcNamed Rows.fnCircuitTextsRow.func = some 4 := by kernel_rfl
theorem inst : Tryz.f4.isInstance Tryz.checked.prog Rows.fnCircuitTextsRow.origin Rows.fnCircuitTextsRow.targs := of_decide_eq_true (by kernel_rfl)
theorem wrap : Tryz.f4.isWrapper Tryz.checked.prog Rows.fnCircuitTextsRow.wrapper Rows.fnCircuitTextsRow.mainSum := by
  unfold Func.isWrapper; first | (rw [if_pos (by decide +kernel)]; kernel_rfl) | (rw [if_neg (by decide +kernel)]; exact ⟨rfl, rfl⟩)
theorem said : Rows.FnCircuitTextsSaid :=
  OpenClaim.holds_of_wide 4 Tryz.f4 rfl rfl rfl rfl rfl rfl rfl ⟨rfl, rfl, rfl, rfl, rfl⟩ rfl rfl rfl rfl rfl named Tryz.func4 closed inst wrap
    (fun os started H enc _ => lifted os started H enc)
/-- The given statement. -/
theorem proved : Rows.FnCircuitTextsCardSaid :=
  Claim7.holds_tied_plain_at .later [] [.data, .data, .data, .data, .sentinel, .sentinel, .widerDeep, .pinned] true (true, "f71588391801e6e25296ab63b04e81ddbc4a055ec0d51b628fc19d6c8fca9db0") true said (fun _ h => by cases h) (by kernel_rfl) (fun _ h => by cases h) fnCircuitTexts_row_tie rfl ⟨rfl, rfl⟩ (by kernel_rfl) rfl
    (fun f fn hf hfn => by
      obtain rfl : f = 4 := Option.some.inj ((show Tryz.prog.funcNamed "loop.example/g00864/laws.FnCircuitTexts" = some 4 by kernel_rfl).symm.trans hf) |>.symm
      obtain rfl : fn = Tryz.f4 := (Option.some.inj (Tryz.func4.symm.trans hfn)).symm
      exact ⟨by kernel_rfl, fun j t ht => by
        rw [Tryz.params4] at ht
        have hm : t ∈ [30, 30] := by simpa using Array.mem_of_getElem? ht
        have hall : ([30, 30].all fun u => !Tryz.prog.wantsStandIn u) = true := by kernel_rfl
        exact (show Tryz.prog.wantsStandIn t = false by simpa using List.all_eq_true.1 hall t hm)⟩)
    (by kernel_rfl)
#print axioms proved
end Go.Proofs.YtgpkpopbajkklaaGreatDoor.fnCircuitTexts
