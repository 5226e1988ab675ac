/- Plain: what the program and the reference find in a circuit text. -/
import Derived.Test.YtgpkpopbajkklaaGreatDoorV11
import Derived.Test.YtgpkpopbajkklaaGreatDoorProg
import Derived.Test.YtgpkpopbajkklaaGreatDoorRows
import Derived.OpenShut
import Derived.ProofKit
import Derived.Lib.LaidTab
import Derived.MakeChecks
import Derived.LaidMore
import Derived.Lay
import Derived.Handed
import Derived.OpenVars
import Derived.Test.YtgpkpopbajkklaaGreatDoorV3
import Derived.Laws.BytesArg
import Derived.Test.YtgpkpopbajkklaaGreatDoorV7
set_option linter.unusedSimpArgs false
set_option linter.unusedVariables false
namespace Go.Proofs.YtgpkpopbajkklaaGreatDoor
open Go Go.RowKit
theorem anyI_neg {p : Nat → Bool} {n : Nat} (h : findI p n + 1 = 0) : ∀ i, i < n → p i = false := by
  intro i hi
  cases hp : p i with
  | false => rfl
  | true => have := findI_nonneg.2 (anyI_true hi hp); omega
/-- The fault that the program tells: names first, then gates. -/
theorem pq_eq (T : List Dn) (X : List Li) : ∀ k,
    (anyI (fun i => evN T (liAt X i) ((i : Nat) : Int)) k = true → pq T X k = (4, findI (fun i => evN T (liAt X i) ((i : Nat) : Int)) k + 1)) ∧
    (anyI (fun i => evN T (liAt X i) ((i : Nat) : Int)) k = false → anyI (fun i => evG T X (liAt X i) ((i : Nat) : Int)) k = true → pq T X k = (5, findI (fun i => evG T X (liAt X i) ((i : Nat) : Int)) k + 1)) ∧
    (anyI (fun i => evN T (liAt X i) ((i : Nat) : Int)) k = false → anyI (fun i => evG T X (liAt X i) ((i : Nat) : Int)) k = false → pq T X k = (0, 0))
  | 0 => ⟨fun h => by simp [anyI] at h, fun _ h => by simp [anyI] at h, fun _ _ => rfl⟩
  | k + 1 => by
    obtain ⟨h1, h2, h3⟩ := pq_eq T X k
    have e1 : anyI (fun i => evN T (liAt X i) ((i : Nat) : Int)) (k + 1) = (anyI (fun i => evN T (liAt X i) ((i : Nat) : Int)) k || evN T (liAt X k) ((k : Nat) : Int)) := by rw [anyI]
    have e2 : anyI (fun i => evG T X (liAt X i) ((i : Nat) : Int)) (k + 1) = (anyI (fun i => evG T X (liAt X i) ((i : Nat) : Int)) k || evG T X (liAt X k) ((k : Nat) : Int)) := by rw [anyI]
    rw [pq, findI, findI, e1, e2, stepP]
    cases hN : anyI (fun i => evN T (liAt X i) ((i : Nat) : Int)) k with
    | true =>
      rw [h1 hN]
      have ht : ∀ c l : Int, ¬ c < 4 → tellP c l (4, findI (fun i => evN T (liAt X i) ((i : Nat) : Int)) k + 1) = (4, findI (fun i => evN T (liAt X i) ((i : Nat) : Int)) k + 1) := fun c l hc => if_neg (by simp; omega)
      refine ⟨fun _ => ?_, fun h => by simp at h, fun h => by simp at h⟩
      rw [if_pos rfl]
      split
      · exact ht _ _ (by decide)
      · split
        · exact ht _ _ (by decide)
        · rfl
    | false =>
      cases hG : anyI (fun i => evG T X (liAt X i) ((i : Nat) : Int)) k with
      | true =>
        rw [h2 hN hG]
        refine ⟨fun h => ?_, fun h _ => ?_, fun _ h => by simp at h⟩
        · rw [Bool.false_or] at h
          rw [if_pos h, if_neg (by decide), if_pos h]; rfl
        · rw [Bool.false_or] at h
          rw [if_neg (by rw [h]; decide), if_pos rfl]
          split
          · rfl
          · rfl
      | false =>
        rw [h3 hN hG]
        refine ⟨fun h => ?_, fun h h' => ?_, fun h h' => ?_⟩
        · rw [Bool.false_or] at h
          rw [if_pos h, if_neg (by decide), if_pos h]; rfl
        · rw [Bool.false_or] at h h'
          rw [if_neg (by rw [h]; decide), if_pos h', if_neg (by decide), if_pos h']; rfl
        · rw [Bool.false_or] at h h'
          rw [if_neg (by rw [h]; decide), if_neg (by rw [h']; decide)]
theorem Prog.body {X : List Li} {k : Nat} {ps : List (Nat × Nat)} (h : Prog X k ps) : ∀ j, j < ps.length → (liAt X (ps.getD j (0, 0)).1).word = wD ∧ SegE X ((ps.getD j (0, 0)).1 + 1) (ps.getD j (0, 0)).2 ∧ (liAt X (ps.getD j (0, 0)).2).word = wE ∧ (ps.getD j (0, 0)).2 < X.length := by
  induction h with
  | main hk hD h => intro j hj; simp at hj
  | dfn hk hs he hel h ih =>
    intro j hj
    cases j with
    | zero => exact ⟨hk, hs, he, hel⟩
    | succ j => simpa using ih j (by simpa using hj)
theorem Seg.congr {X : List Li} {cf cg : Nat → List G3} {a b : Nat} {L : List G3} (h : Seg X cf a b L) : (∀ i, a ≤ i → i < b → (liAt X i).word = wC → cf i = cg i) → Seg X cg a b L := by
  induction h with
  | nil a => intro _; exact .nil a
  | gate h hs ih => intro hc; have := hs.le; exact .gate h (ih fun i h1 h2 => hc i (by omega) h2)
  | @call a b L h hs ih => intro hc; have := hs.le; rw [hc a (Nat.le_refl _) (by omega) h]; exact .call h (ih fun i h1 h2 => hc i (by omega) h2)
  | rep h hb he hel hs ih1 ih2 => intro hc; have := hs.le; have := hb.le; exact .rep h (ih1 fun i h1 h2 => hc i (by omega) (by omega)) he hel (ih2 fun i h1 h2 => hc i (by omega) h2)
theorem finR_body {X : List Li} {ps : List (Nat × Nat)} {k j i : Nat} (ho : Ord k ps) (hj : j < ps.length) (h1 : (ps.getD j (0, 0)).1 < i) (h2 : i < (ps.getD j (0, 0)).2) (nm : Bs) : finR (tt X ps) nm ((i : Nat) : Int) < (j : Int) := by
  rw [finR_lies (body_lies ho hj h1 (by omega))]; exact (findI_lt).2
theorem gsx_app {M : List (List G3)} {L : List G3} {q : Nat} (h : q < M.length) : gsx (M ++ [L]) q = gsx M q := by simp [gsx, List.getD, List.getElem?_append_left h]
theorem gsx_end {M : List (List G3)} {L : List G3} : gsx (M ++ [L]) M.length = L := by simp [gsx, List.getD]
theorem gsx_take {M : List (List G3)} {q j : Nat} (h : q < j) : gsx (M.take j) q = gsx M q := by simp [gsx, List.getD, List.getElem?_take, h]
theorem fd_ex {X : List Li} {ps : List (Nat × Nat)} (hp : Prog X 1 ps) (hev : NoEv (tt X ps) X 0 X.length) : ∀ j, j ≤ ps.length → ∃ FD : List (List G3), FD.length = j ∧ FdOk X ps FD 0 j
  | 0, _ => ⟨[], rfl, fun q h1 h2 => by omega⟩
  | j + 1, hj => by
    obtain ⟨FD, hl, hF⟩ := fd_ex hp hev j (by omega)
    obtain ⟨hw, hs, he, hel⟩ := hp.body j (by omega)
    obtain ⟨L, hL⟩ := hs (fun i => callG (tt X ps) FD (liAt X i) ((i : Nat) : Int))
    refine ⟨FD ++ [L], by simp [hl], fun q h1 h2 => ?_⟩
    have key : ∀ q, q ≤ j → ∀ i, (ps.getD q (0, 0)).1 + 1 ≤ i → i < (ps.getD q (0, 0)).2 → (liAt X i).word = wC → callG (tt X ps) FD (liAt X i) ((i : Nat) : Int) = callG (tt X ps) (FD ++ [L]) (liAt X i) ((i : Nat) : Int) := by
      intro q hq i h1 h2 hw
      have hel2 := (hp.body q (by omega)).2.2.2
      have hF0 := fin_ok (hev i (by omega) (by omega)).1 hw
      have hF1 := finR_body (X := X) hp.ord (show q < ps.length by omega) (by omega) h2 (liAt X i).nm
      rw [callG, callG, gsx_app (by omega)]
    by_cases hq : q < j
    · rw [gsx_app (by omega)]
      exact (hF q h1 hq).congr (key q (by omega))
    · have hqj : q = j := by omega
      subst hqj
      have e : gsx (FD ++ [L]) q = L := by rw [← hl]; exact gsx_end
      rw [e]
      exact hL.congr (key q (Nat.le_refl _))
/-! ### The gates are right -/
theorem seg_gs {X : List Li} {cf : Nat → List G3} {n : Int} {a b : Nat} {L : List G3} (h : Seg X cf a b L) : (∀ i, a ≤ i → i < b → (liAt X i).word = wG → gateOk n (liAt X i).g3.1 (liAt X i).g3.2.1 (liAt X i).g3.2.2 = true) → (∀ i, a ≤ i → i < b → (liAt X i).word = wC → GsOk n (cf i)) → GsOk n L := by
  induction h with
  | nil a => intro _ _; exact GsOk.nil n
  | @gate a b L h hs ih =>
    intro hg hc
    have := hs.le
    have h1 := ih (fun i h1 h2 => hg i (by omega) h2) (fun i h1 h2 => hc i (by omega) h2)
    intro g hgm
    rcases List.mem_cons.1 hgm with e | e
    · rw [e]; exact hg a (Nat.le_refl _) (by omega) h
    · exact h1 g e
  | @call a b L h hs ih =>
    intro hg hc
    have := hs.le
    exact (hc a (Nat.le_refl _) (by omega) h).app (ih (fun i h1 h2 => hg i (by omega) h2) (fun i h1 h2 => hc i (by omega) h2))
  | @rep a e b B L h hb he hel hs ih1 ih2 =>
    intro hg hc
    have := hs.le
    have := hb.le
    have hB := ih1 (fun i h1 h2 => hg i (by omega) (by omega)) (fun i h1 h2 => hc i (by omega) (by omega))
    refine GsOk.app ?_ (ih2 (fun i h1 h2 => hg i (by omega) h2) (fun i h1 h2 => hc i (by omega) h2))
    intro g hgm
    rw [repF, List.mem_flatten] at hgm
    obtain ⟨l, hl, hgl⟩ := hgm
    rw [List.eq_of_mem_replicate hl] at hgl
    exact hB g hgl
theorem gs_map {n : Int} {m : Nat} {L : List G3} (h : GsOk n L) (hm : ((m : Nat) : Int) = n) : MapOk m L := by
  intro g hg
  have := gateOk_split (h g hg)
  constructor <;> intro h1 <;> omega
/-- What a call's line is known to be. -/
theorem call_ok {T : List Dn} {X : List Li} {i : Nat} (hw : (liAt X i).word = wC) (heG : evG T X (liAt X i) ((i : Nat) : Int) = false) : (((liAt X i).ar.length : Nat) : Int) = (dnx T (finR T (liAt X i).nm ((i : Nat) : Int)).toNat).n ∧ anyI (badR (widR T X ((i : Nat) : Int)) (liAt X i).ar) (liAt X i).ar.length = false := by
  rw [evG, beq_iff_eq.2 hw, beq_eq_false_iff_ne.2 (show (liAt X i).word ≠ wG by rw [hw]; decide), Bool.true_and, Bool.false_and, Bool.false_or, Bool.or_eq_false_iff, decide_eq_false_iff_not] at heG
  exact ⟨Decidable.not_not.1 heG.1, heG.2⟩
theorem gate_ok {T : List Dn} {X : List Li} {i : Nat} (hw : (liAt X i).word = wG) (heG : evG T X (liAt X i) ((i : Nat) : Int) = false) : gateOk (widR T X ((i : Nat) : Int)) (liAt X i).g3.1 (liAt X i).g3.2.1 (liAt X i).g3.2.2 = true := by
  rw [evG, beq_iff_eq.2 hw, beq_eq_false_iff_ne.2 (show (liAt X i).word ≠ wC by rw [hw]; decide), Bool.true_and, Bool.false_and, Bool.or_false, Bool.not_eq_false'] at heG
  exact heG
theorem callG_ok {T : List Dn} {X : List Li} {M : List (List G3)} {i : Nat} (hX : LiOk (liAt X i)) (hw : (liAt X i).word = wC) (heG : evG T X (liAt X i) ((i : Nat) : Int) = false) (hM : GsOk (dnx T (finR T (liAt X i).nm ((i : Nat) : Int)).toNat).n (gsx M (finR T (liAt X i).nm ((i : Nat) : Int)).toNat)) : GsOk (widR T X ((i : Nat) : Int)) (callG T M (liAt X i) ((i : Nat) : Int)) := by
  obtain ⟨h1, h2⟩ := call_ok hw heG
  intro g hg
  rw [callG, List.mem_map] at hg
  obtain ⟨g', hg', rfl⟩ := hg
  refine mapG_ok (hM g' hg') h1 ?_ (by rw [li_call hw]; exact hX.pos)
  rw [badC_any (by rw [li_call hw]; exact hX.call hw), h2, decide_eq_false (by rw [h1]; exact fun e => e rfl)]; rfl
theorem fd_gs {X : List Li} {ps : List (Nat × Nat)} {FD : List (List G3)} (hX : CallsOk X) (hp : Prog X 1 ps) (hev : NoEv (tt X ps) X 0 X.length) (hF : FdOk X ps FD 0 ps.length) : ∀ j, j < ps.length → GsOk (dnx (tt X ps) j).n (gsx FD j) := by
  intro j
  induction j using Nat.strongRecOn with
  | _ j ih =>
    intro hj
    have hel := (hp.body j hj).2.2.2
    have hwid : ∀ i, (ps.getD j (0, 0)).1 + 1 ≤ i → i < (ps.getD j (0, 0)).2 → widR (tt X ps) X ((i : Nat) : Int) = (dnx (tt X ps) j).n := fun i h1 h2 => by rw [dnx_tt hj]; exact widR_body hp.ord hj (by omega) h2
    refine seg_gs (hF j (Nat.zero_le _) hj) (fun i h1 h2 hw => ?_) (fun i h1 h2 hw => ?_)
    · rw [← hwid i h1 h2]; exact gate_ok hw (hev i (by omega) (by omega)).2
    · have hF0 := fin_ok (hev i (by omega) (by omega)).1 hw
      have hF1 := finR_body (X := X) hp.ord hj (show (ps.getD j (0, 0)).1 < i by omega) h2 (liAt X i).nm
      rw [← hwid i h1 h2]
      exact callG_ok (hX i (by omega)) hw (hev i (by omega) (by omega)).2 (ih _ (by omega) (by omega))
/-! ### Altogether -/
theorem wid_ok {X : List Li} {ps : List (Nat × Nat)} (hX : CallsOk X) (hp : Prog X 1 ps) (hq : (liAt X 0).word = wQ) (h1 : 1 ≤ X.length) : WidOk (tt X ps) X := by
  intro i hi
  unfold widR
  split
  · rename_i h
    have hlt := (findI_lt (p := fun k => decide ((dnx (tt X ps) k).a ≤ ((i : Nat) : Int)) && decide (((i : Nat) : Int) < (dnx (tt X ps) k).z)) (n := (tt X ps).length)).2
    rw [tt_length] at hlt h ⊢
    have hj : (findI (fun k => decide ((dnx (tt X ps) k).a ≤ ((i : Nat) : Int)) && decide (((i : Nat) : Int) < (dnx (tt X ps) k).z)) ps.length).toNat < ps.length := by omega
    have hb := hp.body _ hj
    have hlt2 := liAt_lt (X := X) (show (liAt X _).word ≠ wE by rw [hb.1]; decide)
    rw [dnx_tt hj]
    exact (hX _ hlt2).df hb.1
  · exact (hX 0 (by omega)).qb hq
structure FinalOk (X : List Li) (T : List Dn) (FD : List (List G3)) (FM : List G3) : Prop where
  len : FD.length = T.length
  nest : NestOk X
  rng : ∀ j, j < T.length → RngOk X (dnx T j).a.toNat (dnx T j).z.toNat
  rngM : RngOk X 1 X.length
  cal : ∀ j, j < T.length → CalOk X T (FD.take j) (dnx T j).a.toNat (dnx T j).z.toNat
  calM : CalOk X T FD 1 X.length
  ex : ∀ j, j < T.length → Tr (exc X T (FD.take j) (dnx T j).a.toNat (dnx T j).z.toNat []) (gsx FD j)
  exM : Tr (exc X T FD 1 X.length []) FM
  bnd : ∀ j, j < T.length → 0 ≤ (dnx T j).a ∧ (dnx T j).a ≤ X.length ∧ 0 ≤ (dnx T j).z ∧ (dnx T j).z ≤ X.length
  runD : (runL X).1.length = T.length ∧ ∀ j, j < T.length → (dfx (runL X).1 j).nm = (dnx T j).nm ∧ (dfx (runL X).1 j).n = (dnx T j).n ∧ (dfx (runL X).1 j).gs = trim (gsx FD j)
  runG : (runL X).2.1 = trim FM
theorem noEv_of {T : List Dn} {X : List Li} (hN : namR T X = 0) (hG : gatR T X = 0) : NoEv T X 0 X.length := fun i _ hi => ⟨anyI_neg hN i hi, anyI_neg hG i hi⟩
theorem run_all {X : List Li} {ps : List (Nat × Nat)} (hX : CallsOk X) (hp : Prog X 1 ps) (hq : (liAt X 0).word = wQ) (h1 : 1 ≤ X.length) : (runL X).2.2 = pq (tt X ps) X X.length ∧ (NoEv (tt X ps) X 0 X.length → ∃ FD FM, FinalOk X (tt X ps) FD FM) := by
  have hp1 : pq (tt X ps) X 1 = (0, 0) := stepP_no (by rw [hq]; decide) (by rw [hq]; decide) (by rw [hq]; decide)
  obtain ⟨D', e1, e2, e3, e4, e5, e6, e7⟩ := rn_prog hX hp.ord hp 0 [] rfl (Nat.zero_le _) ⟨rfl, fun q hq => by omega⟩ (fun q hq => by omega)
  rw [hp1] at e1
  have hblk := blk_main e6 e2
  obtain ⟨L0, hL0⟩ := e5 (fun _ => [])
  obtain ⟨o0, f1, _⟩ := bk_seg hX hL0 hblk []
  rw [bkc_end (a := X.length) (by omega)] at f1
  have hrun : runL X = (D', o0, pq (tt X ps) X X.length) := by
    rw [runL, e1]
    show (D', (bkc X D' D'.length _ (mst 1 ps) (pq (tt X ps) X (mst 1 ps)) []).1, (bkc X D' D'.length _ (mst 1 ps) (pq (tt X ps) X (mst 1 ps)) []).2.2) = _
    rw [e2.1, f1]
  refine ⟨by rw [hrun], fun hev => ?_⟩
  obtain ⟨FD, hl, hF⟩ := fd_ex hp hev ps.length (Nat.le_refl _)
  have hgs := fd_gs hX hp hev hF
  obtain ⟨FM, hFM⟩ := e5 (fun i => callG (tt X ps) FD (liAt X i) ((i : Nat) : Int))
  have hDg := e7 (fun i h1 h2 => hev i (by omega) (by omega)) FD hF (fun q hq => by omega)
  have hlast : ∀ i, mst 1 ps ≤ i → ∀ nm, finR (tt X ps) nm ((i : Nat) : Int) < (ps.length : Int) := fun i hi nm => by have := finR_lt (T := tt X ps) (nm := nm) (i := ((i : Nat) : Int)); rwa [tt_length] at this
  have hpos : ∀ j, j < ps.length → (dnx (tt X ps) j).a.toNat = (ps.getD j (0, 0)).1 + 1 ∧ (dnx (tt X ps) j).z.toNat = (ps.getD j (0, 0)).2 := fun j hj => by rw [dnx_tt hj]; simp only; omega
  have hcal : ∀ i, 1 ≤ i → i < X.length → (liAt X i).word = wC → 0 ≤ finR (tt X ps) (liAt X i).nm ((i : Nat) : Int) ∧ (finR (tt X ps) (liAt X i).nm ((i : Nat) : Int)).toNat < ps.length ∧ MapOk (liAt X i).ar.length (gsx FD (finR (tt X ps) (liAt X i).nm ((i : Nat) : Int)).toNat) := fun i h1 h2 hw => by
    have hF0 := fin_ok (hev i (by omega) h2).1 hw
    have hF1 := finR_lt (T := tt X ps) (nm := (liAt X i).nm) (i := ((i : Nat) : Int))
    rw [tt_length] at hF1
    exact ⟨hF0, by omega, gs_map (hgs _ (by omega)) (call_ok hw (hev i (by omega) h2).2).1⟩
  have hbody : ∀ j, j < ps.length → ∀ i, (ps.getD j (0, 0)).1 + 1 ≤ i → i < (ps.getD j (0, 0)).2 → (liAt X i).word = wC → (finR (tt X ps) (liAt X i).nm ((i : Nat) : Int)).toNat < j := fun j hj i h1 h2 hw => by
    have := finR_body (X := X) hp.ord hj (show (ps.getD j (0, 0)).1 < i by omega) h2 (liAt X i).nm
    have hF0 := fin_ok (hev i (by omega) (by have := (hp.body j hj).2.2.2; omega)).1 hw
    omega
  refine ⟨FD, FM, ?_, hp.nestOk hq, ?_, hp.nest.2, ?_, ?_, ?_, ?_, ?_, ?_, ?_⟩
  · rw [tt_length, hl]
  · intro j hj
    rw [tt_length] at hj
    rw [(hpos j hj).1, (hpos j hj).2]
    exact (hF j (Nat.zero_le _) hj).rng
  · intro j hj i h1 h2 hw
    rw [tt_length] at hj
    rw [(hpos j hj).1] at h1
    rw [(hpos j hj).2] at h2
    have hel := (hp.body j hj).2.2.2
    obtain ⟨g1, g2, g3⟩ := hcal i (by omega) (by omega) hw
    have g4 := hbody j hj i h1 h2 hw
    refine ⟨g1, by rw [List.length_take, hl]; omega, by rw [gsx_take g4]; exact g3⟩
  · intro i h1 h2 hw
    obtain ⟨g1, g2, g3⟩ := hcal i h1 h2 hw
    exact ⟨g1, by rw [hl]; exact g2, g3⟩
  · intro j hj
    rw [tt_length] at hj
    rw [(hpos j hj).1, (hpos j hj).2]
    have hel := (hp.body j hj).2.2.2
    obtain ⟨o', g1, g2⟩ := ex_seg (M := FD.take j) (T := tt X ps) (hF j (Nat.zero_le _) hj) (fun i h1 h2 hw => by rw [callG, callG, gsx_take (hbody j hj i h1 h2 hw)]) (ps.getD j (0, 0)).2 [] [] (Nat.le_refl _) (by omega) (Tr.refl _)
    rw [exc_end (by omega : ¬ ((ps.getD j (0, 0)).2 < (ps.getD j (0, 0)).2 ∧ o'.length ≤ 400))] at g1
    rw [g1]; rwa [List.nil_append] at g2
  · obtain ⟨o', g1, g2⟩ := ex_seg (M := FD) (T := tt X ps) hFM (fun i h1 h2 hw => rfl) X.length [] [] (Nat.le_refl _) (Nat.le_refl _) (Tr.refl _)
    rw [exc_end (by omega : ¬ (X.length < X.length ∧ o'.length ≤ 400))] at g1
    rw [ex_prog hp, g1]; rwa [List.nil_append] at g2
  · intro j hj
    rw [tt_length] at hj
    have hel := (hp.body j hj).2.2.2
    have ho := hp.ord.one hj
    rw [dnx_tt hj]; simp only; omega
  · rw [hrun, tt_length]
    refine ⟨e2.1, fun j hj => ?_⟩
    rw [dnx_tt hj]
    exact ⟨(e2.2 j hj).1, (e2.2 j hj).2, hDg j hj⟩
  · rw [hrun]
    obtain ⟨o2, g1, g2⟩ := bk_seg hX hFM hblk []
    rw [bkc_end (a := X.length) (by omega)] at g1
    have h3 : o2 = o0 := by rw [f1] at g1; injection g1 with g1; exact g1.symm
    have := g2 (fun i h1 h2 => hev i (Nat.zero_le _) h2) (fun i h1 h2 hw => by
      have hF0 := fin_ok (hev i (Nat.zero_le _) h2).1 hw
      have hF1 := hlast i h1 (liAt X i).nm
      rw [callG, trim_map, hDg _ (by omega)]) [] (by simp [trim])
    rw [List.nil_append] at this
    show o0 = trim FM
    rw [← h3]; exact this

end Go.Proofs.YtgpkpopbajkklaaGreatDoor
/- Plain: what is read of a circuit text, said by the reference. Walk: the reference cuts a text into lines. -/
set_option linter.unusedSimpArgs false
set_option linter.unusedVariables false
namespace Go.Proofs.YtgpkpopbajkklaaGreatDoor
open Go Go.RowKit
namespace TxzT
theorem Tcall_79 : callable Tryz.prog 79 = true := by kernel_rfl
theorem Tsl_40 : sliceOf Tryz.prog 40 = some (9, 1, 16, [sv ([])]) := by kernel_rfl
end TxzT
open TxzT
theorem szP_keep : ∀ (L : List Df) (p : Int × Int), 0 < p.1 → p.1 ≤ 6 → szP L p = p
  | [], p, _, _ => rfl
  | d :: L, p, h1, h2 => by
    have e : (if 400 < d.gs.length then tellP 6 0 p else p) = p := by
      split
      · exact if_neg (by omega)
      · rfl
    rw [szP, e]; exact szP_keep L p h1 h2
theorem szP_ok : ∀ (L : List Df), (∀ d ∈ L, d.gs.length ≤ 400) → szP L (0, 0) = (0, 0)
  | [], _ => rfl
  | d :: L, h => by
    rw [szP, if_neg (by have := h d (.head _); omega)]
    exact szP_ok L fun d hd => h d (.tail _ hd)
theorem szP_big : ∀ (L : List Df), (∃ d ∈ L, 400 < d.gs.length) → szP L (0, 0) = (6, 0)
  | [], h => by obtain ⟨d, hd, _⟩ := h; cases hd
  | d :: L, h => by
    rw [szP]
    by_cases hd : 400 < d.gs.length
    · rw [if_pos hd]
      have e : tellP 6 0 (0, 0) = (6, 0) := rfl
      rw [e]; exact szP_keep L (6, 0) (by decide) (by decide)
    · rw [if_neg hd]
      refine szP_big L ?_
      obtain ⟨d', hd', h'⟩ := h
      rcases List.mem_cons.1 hd' with e | e
      · rw [e] at h'; exact absurd h' hd
      · exact ⟨d', e, h'⟩
theorem trim_big {L : List G3} : 400 < (trim L).length ↔ 400 < L.length := by rw [trim, List.length_take]; omega
theorem trim_small {L : List G3} (h : L.length ≤ 400) : trim L = L := trim_id (by omega)
section
variable {s : Bs} {X : List Li} {T : List Dn} (hgo : ¬ (s = [] ∨ 8000 < s.length ∨ [10].isSuffixOf s = false)) (hf : ¬ 0 < fltL (piecesP s)) (hb : ¬ 0 < fbL (lnsP s)) (hX : lnsP s = X) (hp : (runL X).2.2 = pq T X X.length)
include hgo hf hb hX hp
theorem rt_nam (h : 0 < namR T X) : rt s = ((4, namR T X), 0, [], []) := by
  have h1 := (pq_eq T X X.length).1 (findI_nonneg.1 (by unfold namR at h; omega))
  have e : szP (allD (lnsP s)) (runL (lnsP s)).2.2 = (4, namR T X) := by rw [hX, hp, h1]; exact szP_keep _ _ (show (0 : Int) < 4 by decide) (show (4 : Int) ≤ 6 by decide)
  rw [rtC4 (p := 4) (q := namR T X) hgo hf hb e, if_neg (by decide)]
theorem rt_gat (h0 : namR T X = 0) (h : 0 < gatR T X) : rt s = ((5, gatR T X), 0, [], []) := by
  have h1 := (pq_eq T X X.length).2.1 (anyI_false (anyI_neg h0)) (findI_nonneg.1 (by unfold gatR at h; omega))
  have e : szP (allD (lnsP s)) (runL (lnsP s)).2.2 = (5, gatR T X) := by rw [hX, hp, h1]; exact szP_keep _ _ (show (0 : Int) < 5 by decide) (show (5 : Int) ≤ 6 by decide)
  rw [rtC4 (p := 5) (q := gatR T X) hgo hf hb e, if_neg (by decide)]
theorem rt_big {FD : List (List G3)} {FM : List G3} (h0 : namR T X = 0) (hg : gatR T X = 0) (hF : FinalOk X T FD FM) (h : (∃ j, j < T.length ∧ 400 < (gsx FD j).length) ∨ 400 < FM.length) : rt s = ((6, 0), 0, [], []) := by
  have h1 := (pq_eq T X X.length).2.2 (anyI_false (anyI_neg h0)) (anyI_false (anyI_neg hg))
  have e : szP (allD (lnsP s)) (runL (lnsP s)).2.2 = (6, 0) := by
    rw [hX, hp, h1]
    refine szP_big _ ?_
    rcases h with ⟨j, hj, h⟩ | h
    · have hj2 : j < (runL X).1.length := by rw [hF.runD.1]; exact hj
      refine ⟨dfx (runL X).1 j, List.mem_append_left _ ?_, ?_⟩
      · have : dfx (runL X).1 j = (runL X).1[j] := by simp [dfx, List.getD, hj2]
        rw [this]; exact List.getElem_mem hj2
      · rw [(hF.runD.2 j hj).2.2]; exact trim_big.2 h
    · exact ⟨⟨[], 0, (runL X).2.1⟩, List.mem_append_right _ (.head _), by show 400 < (runL X).2.1.length; rw [hF.runG]; exact trim_big.2 h⟩
  rw [rtC4 (p := 6) (q := 0) hgo hf hb e, if_neg (by decide)]
theorem rt_ok {FD : List (List G3)} {FM : List G3} (h0 : namR T X = 0) (hg : gatR T X = 0) (hF : FinalOk X T FD FM) (h : ∀ j, j < T.length → (gsx FD j).length ≤ 400) (hM : FM.length ≤ 400) : rt s = ((0, 0), (liAt X 0).num, FM, (runL X).1) := by
  have h1 := (pq_eq T X X.length).2.2 (anyI_false (anyI_neg h0)) (anyI_false (anyI_neg hg))
  have e : szP (allD (lnsP s)) (runL (lnsP s)).2.2 = (0, 0) := by
    rw [hX, hp, h1]
    refine szP_ok _ fun d hd => ?_
    rcases List.mem_append.1 hd with hd | hd
    · obtain ⟨j, hj, rfl⟩ := List.getElem_of_mem hd
      have hj2 : j < T.length := by rw [← hF.runD.1]; exact hj
      have : dfx (runL X).1 j = (runL X).1[j] := by simp [dfx, List.getD, hj]
      rw [← this, (hF.runD.2 j hj2).2.2, trim_small (h j hj2)]; exact h j hj2
    · simp only [List.mem_singleton] at hd
      subst hd
      show (runL X).2.1.length ≤ 400
      rw [hF.runG, trim_small hM]; exact hM
  rw [rtC4 (p := 0) (q := 0) hgo hf hb e, if_pos rfl, hX, hF.runG, trim_small hM]
end
theorem namR_ge (T : List Dn) (X : List Li) : 0 ≤ namR T X := by
  have := (findI_lt (p := fun i => evN T (liAt X i) ((i : Nat) : Int)) (n := X.length)).1
  unfold namR; omega
theorem gatR_ge (T : List Dn) (X : List Li) : 0 ≤ gatR T X := by
  have := (findI_lt (p := fun i => evG T X (liAt X i) ((i : Nat) : Int)) (n := X.length)).1
  unfold gatR; omega
theorem fin_okR {T : List Dn} {X : List Li} (h : namR T X = 0) : FinOk T X := fun i hi hw => fin_ok (anyI_neg h i hi) hw
/-! ### The lines of a text that ends with a line's end -/
theorem suffix_nl {s : Bs} (h : s ≠ []) : [10].isSuffixOf s = decide (byx s (s.length - 1) = 10) := by
  rcases List.eq_nil_or_concat s with e | ⟨t, c, e⟩
  · exact absurd e h
  · rw [List.concat_eq_append] at e
    subst e
    have e1 : byx (t ++ [c]) ((t ++ [c]).length - 1) = ((c.toNat : Nat) : Int) := by simp [byx, List.getD]
    have e2 : ([10].isSuffixOf (t ++ [c]) = true) ↔ c = 10 := by
      rw [List.isSuffixOf_iff_suffix]
      constructor
      · rintro ⟨u, hu⟩
        have := congrArg List.getLast? hu
        simpa [eq_comm] using this
      · rintro rfl; exact ⟨t, rfl⟩
    rw [e1]
    cases hb : [10].isSuffixOf (t ++ [c]) with
    | true => rw [e2.1 hb]; rfl
    | false =>
      refine (decide_eq_false fun e => ?_).symm
      have : c = 10 := by apply UInt8.toNat_inj.1; show c.toNat = 10; omega
      rw [e2.2 this] at hb; cases hb
theorem splitC_end {c : UInt8} : ∀ (l : Bs), splitC c (l ++ [c]) = splitC c l ++ [[]]
  | [] => by simp [splitC]
  | b :: r => by
    rw [List.cons_append, splitC, splitC, splitC_end r]
    split
    · rfl
    · cases h : splitC c r with
      | nil => exact absurd h (splitC_ne c r)
      | cons x y => rfl
theorem pieces_nl {s : Bs} (h : [10].isSuffixOf s = true) : splitC 10 s = piecesP s ++ [[]] := by
  obtain ⟨t, rfl⟩ := List.isSuffixOf_iff_suffix.1 h
  have e : Lib.trimSuffix (t ++ [10]) [10] = t := by
    unfold Lib.trimSuffix
    rw [if_pos (show Lib.hasSuffix (t ++ [10]) [10] = true from h)]; simp
  rw [piecesP, e, splitC_end]

set_option maxHeartbeats 1000000 in
set_option maxRecDepth 20000 in
theorem l5Lines_spec {s : Bs} {w : World} (h10 : [10].isSuffixOf s = true) (hl : s.length ≤ 16777216) : Calls Tryz.prog 49 #[sv s] w (Post No w fun v H => H = [.own v 9 1 (piecesP s).length (strs (piecesP s))]) := by
 obtain ⟨P, hP⟩ : ∃ P, piecesP s = P := ⟨_, rfl⟩
 have hsp := pieces_nl h10
 rw [hP] at hsp ⊢
 have hsl : (splitC 10 s).length = P.length + 1 := by rw [hsp]; simp
 have hs16 := splitC_length 10 s
 refine enter (n := 11) (args := [sv s]) Tryz.func49 rfl rfl (St.empty _ _) ?_
 refine .sr ?_
 refine .m ?_
 refine .dsr ?_
 refine .w (sv s) ?_
 refine .step rfl (.c [sv s, .int .u8 10] Tcall_79 (fun w hs => l1Split_spec (c := 10) (by omega)) ?_)
 rintro wv _ rfl
 show Run _ _ (putF _ _ _ wv) [.own wv 9 1 ((splitC 10 s).length) (strs (splitC 10 s))]
 refine .w wv ?_
 refine .dsr ?_
 refine .w wv ?_
 refine .w wv ?_
 refine Run.formOwn (.head _) (fun A_wv1 c_wv1 hv hcapc_wv1 hmaxc_wv1 => ?_) (fun _ _ _ => ⟨nofun, nofun, nofun⟩)
 subst hv
 refine .u (.int .i64 ((((splitC 10 s).length : Nat) : Int))) (.len Tsl_40 rfl) ?_
 refine .u (.int .i64 (((((splitC 10 s).length : Nat) : Int)) - 1)) (.sub rfl rfl rfl (by omega) (by omega)) ?_
 refine Run.weak (H' := [.own (.slice A_wv1 (P.length) c_wv1) 9 1 (P.length) (strs P)]) ((Weak.ownTake (m := P.length) (by rw [hsp]; simp)).trans (Some'.weak (.takeEq (by rw [hsp, strs_append, Nat.mul_one, List.take_left' (strs_length P)]) (.nil _)))) ?_ ⟨_, _, rfl, fun _ => nofun, fun _ => nofun⟩
 refine .u (.slice A_wv1 (P.length) c_wv1) (.sliceHN (h := P.length) Tsl_40 rfl rfl (by omega) (by omega)) ?_
 refine .m ?_
 refine .done ?_
 refine .ret ?_
 refine ⟨.slice A_wv1 (P.length) c_wv1, [.own (.slice A_wv1 (P.length) c_wv1) 9 1 (P.length) (strs P)], Out.one rfl rfl, (Some'.weak (.take (.nil _))), ?_⟩
 rfl

end Go.Proofs.YtgpkpopbajkklaaGreatDoor
/- Walks: the reference checks a circuit text. -/
set_option linter.unusedSimpArgs false
set_option linter.unusedVariables false
namespace Go.Proofs.YtgpkpopbajkklaaGreatDoor
open Go Go.RowKit
namespace TyaT
theorem Tagg_50 : aggOf Tryz.prog 50 = some 4 := by kernel_rfl
theorem Tagg_77 : aggOf Tryz.prog 77 = some 7 := by kernel_rfl
theorem Tcall_48 : callable Tryz.prog 48 = true := by kernel_rfl
theorem Tcall_49 : callable Tryz.prog 49 = true := by kernel_rfl
theorem Tcall_50 : callable Tryz.prog 50 = true := by kernel_rfl
theorem Tcall_51 : callable Tryz.prog 51 = true := by kernel_rfl
theorem Tcall_52 : callable Tryz.prog 52 = true := by kernel_rfl
theorem Tcall_53 : callable Tryz.prog 53 = true := by kernel_rfl
theorem Tcall_54 : callable Tryz.prog 54 = true := by kernel_rfl
theorem Tfo_50_2 : fieldOff Tryz.prog 50 2 = some 2 := by kernel_rfl
theorem Tfo_50_3 : fieldOff Tryz.prog 50 3 = some 3 := by kernel_rfl
theorem Tfo_54_0 : fieldOff Tryz.prog 54 0 = some 0 := by kernel_rfl
theorem Tfo_54_1 : fieldOff Tryz.prog 54 1 = some 1 := by kernel_rfl
theorem Tone_22 : oneOf Tryz.prog 22 = true := by kernel_rfl
theorem Tone_3 : oneOf Tryz.prog 3 = true := by kernel_rfl
theorem Tone_51 : oneOf Tryz.prog 51 = true := by kernel_rfl
theorem Tone_52 : oneOf Tryz.prog 52 = true := by kernel_rfl
theorem Tone_9 : oneOf Tryz.prog 9 = true := by kernel_rfl
theorem Tsize_50 : (Tryz.prog.info? 50).map (·.size) = some 4 := by kernel_rfl
theorem Tsize_51 : (Tryz.prog.info? 51).map (·.size) = some 1 := by kernel_rfl
theorem Tsize_52 : (Tryz.prog.info? 52).map (·.size) = some 1 := by kernel_rfl
theorem Tsize_77 : (Tryz.prog.info? 77).map (·.size) = some 7 := by kernel_rfl
theorem Tsl_22 : sliceOf Tryz.prog 22 = some (69, 3, 24, [.int .i64 0, .int .i64 0, .int .i64 0]) := by kernel_rfl
theorem Tsl_40 : sliceOf Tryz.prog 40 = some (9, 1, 16, [sv ([])]) := by kernel_rfl
theorem Tsl_46 : sliceOf Tryz.prog 46 = some (50, 4, 40, [sv ([]), .int .i64 0, .int .i64 0, .int .i64 0]) := by kernel_rfl
theorem Tsl_51 : sliceOf Tryz.prog 51 = some (77, 7, 88, [sv ([]), .int .i64 0, .int .i64 0, .int .i64 0, .int .i64 0, sv ([]), .slice none 0 0]) := by kernel_rfl
theorem Tsl_52 : sliceOf Tryz.prog 52 = some (22, 1, 24, [.slice none 0 0]) := by kernel_rfl
theorem Tstr_9 : strT Tryz.prog 9 = true := by kernel_rfl
theorem Tzero_50 : zeroOf Tryz.prog 50 = some [sv ([]), .int .i64 0, .int .i64 0, .int .i64 0] := by kernel_rfl
theorem Tzero_77 : zeroOf Tryz.prog 77 = some [sv ([]), .int .i64 0, .int .i64 0, .int .i64 0, .int .i64 0, sv ([]), .slice none 0 0] := by kernel_rfl
end TyaT
open TyaT
theorem Weak.rgrSnoc {H : List Res} {e : TypeId} {x : Li} {v : Value} {L : List LV} : Weak (.own v e 1 x.ar.length (ints x.ar) :: .grp e 1 (rgr L) :: H) (.grp e 1 (rgr (L ++ [lv x v])) :: H) :=
  Weak.grpSnocG (g := fun p : LV => (p.2, p.1.ar.length, ints p.1.ar)) rfl
abbrev gv (x : List G3) (v : Value) : GV := (x, v)
theorem Weak.ggrSnoc {H : List Res} {e : TypeId} {x : List G3} {v : Value} {L : List GV} : Weak (.own v e 3 x.length (ints (fl x)) :: .grp e 3 (ggr L) :: H) (.grp e 3 (ggr (L ++ [gv x v])) :: H) :=
  Weak.grpSnocG (g := fun p : GV => (p.2, p.1.length, ints (fl p.1))) rfl
theorem lns_one {P : List Bs} (h : fltL P = 0) : OneQ (lns P P.length) := by
  intro i hi
  by_cases hl : i < P.length
  · obtain ⟨x, hx⟩ := flt_good h hl
    rw [lns_at hl hx]
    have := (lnAt_some hx).2
    rw [beq_eq_false_iff_ne.2 (show i ≠ 0 by omega)] at this
    exact beq_eq_false_iff_ne.1 this
  · rw [liAt, List.getD, List.getElem?_eq_none (by rw [lns_length]; omega)]
    exact (show wE ≠ wQ by decide)
/-- What the check of a text leaves behind. -/
structure ChkOk (s : Bs) (L : List LV) (G : List GV) (T : List Dn) : Prop where
  len1 : 1 ≤ L.length
  len : L.length ≤ 8001
  tlen : T.length = (rt s).2.2.2.length
  glen : G.length = T.length
  defs : ∀ j, j < T.length → (dnx T j).nm = (dfx (rt s).2.2.2 j).nm ∧ (dnx T j).n = (dfx (rt s).2.2.2 j).n ∧ (gvx G j).1 = (dfx (rt s).2.2.2 j).gs
  num : (liAt (L.map (·.1)) 0).num = (rt s).2.1
  nest : NestOk (L.map (·.1))
  rng : RngOk (L.map (·.1)) 1 L.length
  cal : CalOk (L.map (·.1)) T (G.map (·.1)) 1 L.length
  m400 : ∀ k, (gsx (G.map (·.1)) k).length ≤ 400
  calls : CallsOk (L.map (·.1))
  exq : exc (L.map (·.1)) T (G.map (·.1)) 1 L.length [] = (rt s).2.2.1
theorem gsx_400 {FD : List (List G3)} {j : Nat} (h : ∀ q, q < j → (gsx FD q).length ≤ 400) : ∀ k, (gsx (FD.take j) k).length ≤ 400 := fun k => by
  by_cases hk : k < j
  · rw [gsx_take hk]; exact h k hk
  · have : gsx (FD.take j) k = [] := by
      rw [gsx, List.getD, List.getElem?_eq_none (by rw [List.length_take]; omega)]; rfl
    rw [this]; simp
theorem take_gsx {FD : List (List G3)} {j : Nat} (h : j < FD.length) : FD.take (j + 1) = FD.take j ++ [gsx FD j] := by
  rw [List.take_succ_eq_append_getElem h]; simp [gsx, List.getD, h]
theorem gvx_end (G : List GV) (p : GV) : gvx (G ++ [p]) G.length = p := by simp [gvx, List.getD]
theorem tr_big {o f : List G3} (h : Tr o f) (ho : 400 < o.length) : 400 < f.length := by
  by_cases hf : f.length ≤ 400
  · rw [h.1 hf] at ho; exact ho
  · omega

theorem ck_bad {s : Bs} {c l : Int} {b : Nat} {vt vl vd : Value} {L : List LV} {G : List GV} {T : List Dn} (h : rt s = ((c, l), 0, [], [])) (hc : c ≠ 0) : ∃ b' vt' vl' vd' L' G' T', Value.tuple #[.pointer (some ⟨b, 0, none⟩), vt, .int .i64 c, .int .i64 l] = .tuple #[.pointer (some ⟨b', 0, none⟩), vt', .int .i64 (rt s).1.1, .int .i64 (rt s).1.2] ∧ ([.blk b 54 [vl, vd], .own vl 77 7 L.length (rls L), .grp 3 1 (rgr L), .own vd 22 1 G.length (gvs G), .grp 69 3 (ggr G), .own vt 50 4 T.length (dns T)] : List Res) = [.blk b' 54 [vl', vd'], .own vl' 77 7 L'.length (rls L'), .grp 3 1 (rgr L'), .own vd' 22 1 G'.length (gvs G'), .grp 69 3 (ggr G'), .own vt' 50 4 T'.length (dns T')] ∧ ((rt s).1.1 = 0 → ChkOk s L' G' T') :=
  ⟨b, vt, vl, vd, L, G, T, by rw [h], rfl, fun h' => absurd h' (by rw [h]; exact hc)⟩
theorem fbGo_ge : ∀ (X : List Li) (num : Int) (st : List Int) (on : Bool), 0 < num → PosL st → 0 ≤ fbGo X num st on
  | [], num, st, on, _, hp => by
    rw [fbGo]
    rcases Nat.eq_zero_or_pos st.length with h | h
    · rw [List.length_eq_zero_iff.1 h]; decide
    · have := hp.last h; omega
  | x :: X, num, st, on, hn, hp => by
    have hd : PosL st.dropLast := fun v hv => hp v (by rw [List.dropLast_eq_take] at hv; exact List.mem_of_mem_take hv)
    rw [fbGo]
    split
    · split
      · omega
      · exact fbGo_ge X _ _ _ (by omega) hd
    · split
      · split
        · omega
        · exact fbGo_ge X _ _ _ (by omega) (hp.app hn)
      · split
        · exact fbGo_ge X _ _ _ (by omega) (hp.app hn)
        · exact fbGo_ge X _ _ _ (by omega) hp
theorem fbL_ge (X : List Li) : 0 ≤ fbL X := fbGo_ge _ _ _ _ (by decide) (fun _ h => nomatch h)

set_option maxHeartbeats 16000000 in
set_option maxRecDepth 20000 in
theorem l5Check_spec {s : Bs} {w : World} : Calls Tryz.prog 29 #[sv s] w (Post No w fun v H => ∃ b vt vl vd L G T, v = .tuple #[.pointer (some ⟨b, 0, none⟩), vt, .int .i64 (rt s).1.1, .int .i64 (rt s).1.2] ∧ H = [.blk b 54 [vl, vd], .own vl 77 7 L.length (rls L), .grp 3 1 (rgr L), .own vd 22 1 G.length (gvs G), .grp 69 3 (ggr G), .own vt 50 4 T.length (dns T)] ∧ ((rt s).1.1 = 0 → ChkOk s L G T)) := by
 obtain ⟨P, hP⟩ : ∃ P, piecesP s = P := ⟨_, rfl⟩
 obtain ⟨X, hX⟩ : ∃ X, lnsP s = X := ⟨_, rfl⟩
 refine enter (n := 139) (args := [sv s]) Tryz.func29 rfl rfl (St.empty _ _) ?_
 refine .sr ?_
 refine .w ((Go.Value.pointer none)) ?_
 iterate 3 refine .m ?_
 refine .dsr ?_
 refine .u (.agg #[.slice none 0 0, .slice none 0 0]) (.build (cs := [.slice none 0 0, .slice none 0 0]) (by kernel_rfl)) ?_
 refine .step rfl (.box (us := [.slice none 0 0, .slice none 0 0]) rfl fun b1 => ?_)
 refine .m ?_
 refine .done ?_
 refine .seq ?_
 refine .sr ?_
 refine .w (sv s) ?_
 refine .u (.bool (s == ([]))) (.eqS rfl rfl) ?_
 rcases Bool.eq_false_or_eq_true (s == ([])) with h21 | h21
 ·refine .mb h21 ?_
  have p21 := h21; try simp only [bs] at p21
  iterate 3 refine .pass rfl ?_
  refine .w (.bool true) ?_
  refine .m ?_
  iterate 6 refine .pass rfl ?_
  refine .w (.bool true) ?_
  refine .done ?_
  refine .cond (b := true) rfl (fun _ => ?_) (fun h => nomatch h)
  refine .seq ?_
  refine Run.weak (H' := [.grp 3 1 (rgr []), .blk b1 54 [.slice none 0 0, .slice none 0 0]]) (Weak.grpNil _ _) ?_ ⟨_, _, rfl, fun _ => nofun, fun _ => nofun⟩
  refine Run.weak (H' := [.grp 69 3 (ggr []), .grp 3 1 (rgr []), .blk b1 54 [.slice none 0 0, .slice none 0 0]]) (Weak.grpNil _ _) ?_ ⟨_, _, rfl, fun _ => nofun, fun _ => nofun⟩
  refine .region ?_
  iterate 5 refine .m ?_
  refine .done ?_
  refine .ret ?_
  refine ⟨.tuple #[.pointer (some ⟨b1, 0, none⟩), .slice none 0 0, .int .i64 1, .int .i64 0], [.blk b1 54 [.slice none 0 0, .slice none 0 0], .own (.slice none 0 0) 77 7 (([] : List LV).length) (rls ([] : List LV)), .grp 3 1 (rgr []), .own (.slice none 0 0) 22 1 (([] : List GV).length) (gvs ([] : List GV)), .grp 69 3 (ggr []), .own (.slice none 0 0) 50 4 (([] : List Dn).length) (dns ([] : List Dn))], Out.four rfl rfl rfl rfl rfl, ((Weak.nilOwn 50 4).trans ((Weak.nilOwn 22 1).trans ((Weak.nilOwn 77 7).trans ((Weak.selF [5, 0, 3, 0, 1, 0]).trans (Some'.weak (.take (.takeEq (by first | rfl | simp) (.take (.takeEq (by first | rfl | simp) (.take (.takeEq (by first | rfl | simp) (.nil _)))))))))))), ?_⟩
  exact ck_bad (L := []) (G := []) (T := []) (rtC1 (by first | exact .inl p21 | exact .inr (.inl (by omega)))) (by decide)
 refine .mb h21 ?_
 have p21 := h21; try simp only [bs] at p21
 refine .w (sv s) ?_
 refine .u (.int .i64 (((s.length : Nat) : Int))) (.lenS Tstr_9 rfl) ?_
 refine .w (.bool (decide ((((s.length : Nat) : Int)) > 8000))) ?_
 refine .w (.bool (decide ((((s.length : Nat) : Int)) > 8000))) ?_
 rcases Bool.eq_false_or_eq_true (decide ((((s.length : Nat) : Int)) > 8000)) with h26 | h26
 ·refine .mb h26 ?_
  have p26 := h26; try simp only [bs] at p26
  iterate 6 refine .pass rfl ?_
  refine .w (.bool true) ?_
  refine .done ?_
  refine .cond (b := true) rfl (fun _ => ?_) (fun h => nomatch h)
  refine .seq ?_
  refine Run.weak (H' := [.grp 3 1 (rgr []), .blk b1 54 [.slice none 0 0, .slice none 0 0]]) (Weak.grpNil _ _) ?_ ⟨_, _, rfl, fun _ => nofun, fun _ => nofun⟩
  refine Run.weak (H' := [.grp 69 3 (ggr []), .grp 3 1 (rgr []), .blk b1 54 [.slice none 0 0, .slice none 0 0]]) (Weak.grpNil _ _) ?_ ⟨_, _, rfl, fun _ => nofun, fun _ => nofun⟩
  refine .region ?_
  iterate 5 refine .m ?_
  refine .done ?_
  refine .ret ?_
  refine ⟨.tuple #[.pointer (some ⟨b1, 0, none⟩), .slice none 0 0, .int .i64 1, .int .i64 0], [.blk b1 54 [.slice none 0 0, .slice none 0 0], .own (.slice none 0 0) 77 7 (([] : List LV).length) (rls ([] : List LV)), .grp 3 1 (rgr []), .own (.slice none 0 0) 22 1 (([] : List GV).length) (gvs ([] : List GV)), .grp 69 3 (ggr []), .own (.slice none 0 0) 50 4 (([] : List Dn).length) (dns ([] : List Dn))], Out.four rfl rfl rfl rfl rfl, ((Weak.nilOwn 50 4).trans ((Weak.nilOwn 22 1).trans ((Weak.nilOwn 77 7).trans ((Weak.selF [5, 0, 3, 0, 1, 0]).trans (Some'.weak (.take (.takeEq (by first | rfl | simp) (.take (.takeEq (by first | rfl | simp) (.take (.takeEq (by first | rfl | simp) (.nil _)))))))))))), ?_⟩
  exact ck_bad (L := []) (G := []) (T := []) (rtC1 (by first | exact .inl p21 | exact .inr (.inl (by omega)))) (by decide)
 refine .mb h26 ?_
 have p26 := h26; try simp only [bs] at p26
 have hs1 : 0 < s.length := List.length_pos_iff.2 p21
 refine .w (sv s) ?_
 refine .w (sv s) ?_
 refine .u (.int .i64 (((s.length : Nat) : Int))) (.lenS Tstr_9 rfl) ?_
 refine .u (.int .i64 ((((s.length : Nat) : Int)) - 1)) (.sub rfl rfl rfl (by omega) (by omega)) ?_
 refine .u (.int .u8 (byx s (s.length - 1))) (.indexS (j := s.length - 1) Tstr_9 rfl rfl (by first | rfl | omega) (by omega)) ?_
 refine .w (.bool ((byx s (s.length - 1)) != 10)) ?_
 refine .w (.bool ((byx s (s.length - 1)) != 10)) ?_
 refine .done ?_
 refine .cond (b := (byx s (s.length - 1)) != 10) rfl (fun h33 => ?_) (fun h33 => ?_)
 ·have p33 := h33; try simp only [bs] at p33
  refine .seq ?_
  refine Run.weak (H' := [.grp 3 1 (rgr []), .blk b1 54 [.slice none 0 0, .slice none 0 0]]) (Weak.grpNil _ _) ?_ ⟨_, _, rfl, fun _ => nofun, fun _ => nofun⟩
  refine Run.weak (H' := [.grp 69 3 (ggr []), .grp 3 1 (rgr []), .blk b1 54 [.slice none 0 0, .slice none 0 0]]) (Weak.grpNil _ _) ?_ ⟨_, _, rfl, fun _ => nofun, fun _ => nofun⟩
  refine .region ?_
  iterate 5 refine .m ?_
  refine .done ?_
  refine .ret ?_
  refine ⟨.tuple #[.pointer (some ⟨b1, 0, none⟩), .slice none 0 0, .int .i64 1, .int .i64 0], [.blk b1 54 [.slice none 0 0, .slice none 0 0], .own (.slice none 0 0) 77 7 (([] : List LV).length) (rls ([] : List LV)), .grp 3 1 (rgr []), .own (.slice none 0 0) 22 1 (([] : List GV).length) (gvs ([] : List GV)), .grp 69 3 (ggr []), .own (.slice none 0 0) 50 4 (([] : List Dn).length) (dns ([] : List Dn))], Out.four rfl rfl rfl rfl rfl, ((Weak.nilOwn 50 4).trans ((Weak.nilOwn 22 1).trans ((Weak.nilOwn 77 7).trans ((Weak.selF [5, 0, 3, 0, 1, 0]).trans (Some'.weak (.take (.takeEq (by first | rfl | simp) (.take (.takeEq (by first | rfl | simp) (.take (.takeEq (by first | rfl | simp) (.nil _)))))))))))), ?_⟩
  exact ck_bad (L := []) (G := []) (T := []) (rtC1 (by first | exact .inl p21 | exact .inr (.inl (by omega)) | exact .inr (.inr (by rw [suffix_nl p21]; exact decide_eq_false p33)))) (by decide)
 have p33 := h33; try simp only [bs] at p33
 refine .skip ?_
 refine .seq ?_
 refine .seq ?_
 have h10 : [10].isSuffixOf s = true := by rw [suffix_nl p21]; exact decide_eq_true p33
 have hl8 : s.length ≤ 8000 := by omega
 have hgo : ¬ (s = [] ∨ 8000 < s.length ∨ [10].isSuffixOf s = false) := fun h => h.elim p21 fun h => h.elim (fun h => by omega) (fun h => by rw [h10] at h; cases h)
 have hP16 : P.length ≤ 8001 := by rw [← hP]; have := splitC_length 10 (Lib.trimSuffix s [10]); have := trim_le s [10]; unfold piecesP; omega
 have hPl : ∀ t ∈ P, t.length ≤ 16777000 := fun t ht => by rw [← hP] at ht; have := splitC_le t ht; have := trim_le s [10]; omega
 have hP1 : 0 < P.length := by rw [← hP]; exact List.length_pos_iff.2 (splitC_ne _ _)
 refine .region ?_
 refine .w (sv s) ?_
 refine .step rfl (.c [sv s] Tcall_49 (fun w hs => (by have h := l5Lines_spec (w := w) h10 (by omega); rw [hP] at h; exact h)) ?_)
 rintro pv _ rfl
 show Run _ _ (putF _ _ _ pv) [.own pv 9 1 (P.length) (strs P), .blk b1 54 [.slice none 0 0, .slice none 0 0]]
 refine Run.formOwn (.head _) (fun A_pv1 c_pv1 hv hcapc_pv1 hmaxc_pv1 => ?_) (fun _ _ _ => ⟨nofun, nofun, nofun⟩)
 subst hv
 refine .u (.int .i64 (((P.length : Nat) : Int))) (.len Tsl_40 rfl) ?_
 refine .m ?_
 refine .done ?_
 refine Run.openOwn (.head _) (by omega) (fun gp cp hvgp hcapgp _ => ?_) (fun _ _ _ => ⟨nofun, nofun, nofun⟩)
 injection hvgp with hAgp _ hcgp; subst hAgp; subst hcgp
 refine Run.weak (H' := [.own (.slice none 0 0) 77 7 0 (rls []), .own (.slice (some ⟨gp, 0, none⟩) (P.length) c_pv1) 9 1 (P.length) (strs P), .blk b1 54 [.slice none 0 0, .slice none 0 0]]) (Weak.nilOwn _ _) ?_ ⟨_, _, rfl, fun _ => nofun, fun _ => nofun⟩
 refine Run.weak (H' := [.grp 3 1 (rgr []), .own (.slice none 0 0) 77 7 0 (rls []), .own (.slice (some ⟨gp, 0, none⟩) (P.length) c_pv1) 9 1 (P.length) (strs P), .blk b1 54 [.slice none 0 0, .slice none 0 0]]) (Weak.grpNil _ _) ?_ ⟨_, _, rfl, fun _ => nofun, fun _ => nofun⟩
 refine .block ?_
 refine Run.loop (ι := Nat × List LV × Value) [2, 3, 4, 5, 7, 8, 9, 10, 38, 39, 40, 41, 42, 43, 44, 45, 46, 47, 48, 49, 50, 51, 52, 53, 54, 55, 56, 57, 58, 59, 60, 61, 62, 63, 64, 65] (fun ⟨k, L, vl⟩ => [(38, .int .i64 (((k : Nat) : Int)))]) (fun ⟨k, L, vl⟩ => [.blk b1 54 [vl, .slice none 0 0], .own vl 77 7 (L.length) (rls L), .grp 3 1 (rgr L), .own (.slice (some ⟨gp, 0, none⟩) (P.length) c_pv1) 9 1 (P.length) (strs P)]) (fun ⟨k, L, vl⟩ => k ≤ P.length ∧ L.length = k ∧ L.map (·.1) = lns P k ∧ ∀ i, i < k → badAt P i = false) (fun ⟨k, L, vl⟩ => P.length - k) (0, [], .slice none 0 0) ?_ ?_ ?_ ?_
 ·exact ⟨Nat.zero_le _, rfl, rfl, fun i hi => by omega⟩
 ·exact ⟨rfl, trivial⟩
 ·exact ((Weak.selF [3, 1, 0, 0]).trans (Some'.weak (.takeEq (by first | rfl | simp) (.takeEq (by first | rfl | simp) (.takeEq (by first | rfl | simp) (.take (.nil _)))))))
 rintro ⟨k, L, vl⟩ fr hinv
 show Run _ _ (over _ _ [(38, .int .i64 (((k : Nat) : Int)))] fr) [.blk b1 54 [vl, .slice none 0 0], .own vl 77 7 (L.length) (rls L), .grp 3 1 (rgr L), .own (.slice (some ⟨gp, 0, none⟩) (P.length) c_pv1) 9 1 (P.length) (strs P)]
 try dsimp only at hinv
 refine .sr ?_
 refine .w (.bool (decide ((((k : Nat) : Int)) < (((P.length : Nat) : Int))))) ?_
 refine .done ?_
 refine .seq ?_
 refine .cond (b := decide ((((k : Nat) : Int)) < (((P.length : Nat) : Int)))) rfl (fun h39 => ?_) (fun h39 => ?_)
 ·have p39 := h39; try simp only [bs] at p39
  have hltk : k < P.length := by omega
  obtain ⟨hk, hLk, hLm, hgoodk⟩ := hinv
  refine .skip ?_
  refine .seq ?_
  refine .block ?_
  refine .sr ?_
  refine .m ?_
  refine .u (.pointer (some ⟨gp, k, none⟩)) (.ix k Tsl_40) ?_
  refine .u (sv (stx P k)) (.load1 Tone_9 rfl (Cells.own0 (.tail _ (.tail _ (.tail _ (.head _)))) (preS (by omega)))) ?_
  refine .m ?_
  refine .w (sv (stx P k)) ?_
  refine .dsr ?_
  refine .w (sv (stx P k)) ?_
  refine .m ?_
  refine .w (.bool ((((k : Nat) : Int)) == 0)) ?_
  refine .step rfl (.c [sv (stx P k), .bool ((((k : Nat) : Int)) == 0)] Tcall_50 (fun w hs => (by have h := l5Parse_spec (l := stx P k) (i := k) (w := w) (stx_len hPl k); rw [← int_nat_zero] at h; exact h)) ?_)
  rintro _ _ ⟨c0, c1, c2, c3, c4, c5, v1, ar, bb, rfl, rfl, hln⟩
  show Run _ _ (putF _ _ _ (.tuple #[.agg #[sv c0, .int .i64 c1, .int .i64 c2, .int .i64 c3, .int .i64 c4, sv c5, v1], .bool bb])) [.own v1 3 1 (ar.length) (ints ar), .blk b1 54 [vl, .slice none 0 0], .own vl 77 7 (L.length) (rls L), .grp 3 1 (rgr L), .own (.slice (some ⟨gp, 0, none⟩) (P.length) c_pv1) 9 1 (P.length) (strs P)]
  refine .w (.tuple #[.agg #[sv c0, .int .i64 c1, .int .i64 c2, .int .i64 c3, .int .i64 c4, sv c5, v1], .bool bb]) ?_
  refine .w (.agg #[sv c0, .int .i64 c1, .int .i64 c2, .int .i64 c3, .int .i64 c4, sv c5, v1]) ?_
  refine .w (.bool bb) ?_
  refine .step rfl (.alloc (zs := [sv ([]), .int .i64 0, .int .i64 0, .int .i64 0, .int .i64 0, sv ([]), .slice none 0 0]) Tzero_77 fun b2 => ?_)
  refine Run.formOwn (.tail _ (.head _)) (fun A_v11 c_v11 hv hcapc_v11 hmaxc_v11 => ?_) (fun _ _ _ => ⟨nofun, nofun, nofun⟩)
  subst hv
  refine .step rfl (.storeAll (us := [sv c0, .int .i64 c1, .int .i64 c2, .int .i64 c3, .int .i64 c4, sv c5, .slice A_v11 (ar.length) c_v11]) Tsize_77 rfl rfl rfl (.here _) rfl ?_)
  refine .m ?_
  refine .done ?_
  refine .seq ?_
  refine .sr ?_
  refine .m ?_
  refine .w (.bool (!bb)) ?_
  refine .done ?_
  refine .cond (b := !bb) rfl (fun h51 => ?_) (fun h51 => ?_)
  ·have p51 := h51; try simp only [bs] at p51
   have hbad : badAt P k = true := by
    rw [badAt]
    cases hb2 : lnAt k (stx P k) with
    | none => rfl
    | some y => have h := hln.1; rw [hb2, show bb = false by simpa using h51] at h; cases h
   have hflt : fltL (piecesP s) = ((k + 1 : Nat) : Int) := by rw [hP, fltL, findI_hit hgoodk hbad hltk]; rfl
   refine .seq ?_
   refine Run.weak (H' := [.grp 69 3 (ggr []), .blk b2 77 [sv c0, .int .i64 c1, .int .i64 c2, .int .i64 c3, .int .i64 c4, sv c5, .slice A_v11 (ar.length) c_v11], .own (.slice A_v11 (ar.length) c_v11) 3 1 (ar.length) (ints ar), .blk b1 54 [vl, .slice none 0 0], .own vl 77 7 (L.length) (rls L), .grp 3 1 (rgr L), .own (.slice (some ⟨gp, 0, none⟩) (P.length) c_pv1) 9 1 (P.length) (strs P)]) (Weak.grpNil _ _) ?_ ⟨_, _, rfl, fun _ => nofun, fun _ => nofun⟩
   refine .region ?_
   iterate 2 refine .m ?_
   refine .u (.int .i64 ((((k : Nat) : Int)) + 1)) (.add rfl rfl rfl (by omega) (by omega)) ?_
   iterate 4 refine .m ?_
   refine .done ?_
   refine .ret ?_
   refine ⟨.tuple #[.pointer (some ⟨b1, 0, none⟩), .slice none 0 0, .int .i64 2, .int .i64 ((((k : Nat) : Int)) + 1)], [.blk b1 54 [vl, .slice none 0 0], .own vl 77 7 (L.length) (rls L), .grp 3 1 (rgr L), .own (.slice none 0 0) 22 1 (([] : List GV).length) (gvs ([] : List GV)), .grp 69 3 (ggr []), .own (.slice none 0 0) 50 4 (([] : List Dn).length) (dns ([] : List Dn))], Out.four rfl rfl rfl rfl rfl, ((Weak.nilOwn 50 4).trans ((Weak.nilOwn 22 1).trans ((Weak.selF [5, 5, 5, 0, 1, 0]).trans (Some'.weak (.take (.take (.take (.takeEq (by first | rfl | simp) (.take (.takeEq (by first | rfl | simp) (.nil _))))))))))), ?_⟩
   exact ck_bad (L := L) (G := []) (T := []) (by rw [rtC2 hgo (by rw [hflt]; omega), hflt]; rfl) (by decide)
  have p51 := h51; try simp only [bs] at p51
  obtain ⟨x, hx⟩ : ∃ x, lnAt k (stx P k) = some x := by
   have h := hln.1
   rw [show bb = true by simpa using h51] at h
   cases hb2 : lnAt k (stx P k) with
   | none => rw [hb2] at h; cases h
   | some y => exact ⟨y, rfl⟩
  obtain ⟨e0, e1, e4, e5, e6⟩ := hln.2 x hx
  obtain ⟨e1, e2, e3⟩ : c1 = x.g3.1 ∧ c2 = x.g3.2.1 ∧ c3 = x.g3.2.2 := by rw [← e1]; exact ⟨rfl, rfl, rfl⟩
  subst e0; subst e1; subst e2; subst e3; subst e4; subst e5; subst e6
  refine .skip ?_
  refine Run.weak (H' := [.grp 3 1 (rgr (L ++ [lv x (.slice A_v11 (x.ar.length) c_v11)])), .blk b2 77 [sv (x.word), .int .i64 (x.g3.1), .int .i64 (x.g3.2.1), .int .i64 (x.g3.2.2), .int .i64 (x.num), sv (x.nm), .slice A_v11 (x.ar.length) c_v11], .blk b1 54 [vl, .slice none 0 0], .own vl 77 7 (L.length) (rls L), .own (.slice (some ⟨gp, 0, none⟩) (P.length) c_pv1) 9 1 (P.length) (strs P)]) ((Weak.selF [1, 3]).trans Weak.rgrSnoc) ?_ ⟨_, _, rfl, fun _ => nofun, fun _ => nofun⟩
  refine .heldB (base := [.blk b2 77 [sv (x.word), .int .i64 (x.g3.1), .int .i64 (x.g3.2.1), .int .i64 (x.g3.2.2), .int .i64 (x.num), sv (x.nm), .slice A_v11 (x.ar.length) c_v11]]) (by kernel_rfl) ?_
  refine DW.m 0 rfl (Some'.weak (.skip (.take (.nil _)))) ?_
  refine DW.m 1 rfl (Some'.weak (.skip (.take (.nil _)))) ?_
  refine DW.t 2 rfl (Some'.weak (.skip (.take (.nil _)))) (.pointer (some ⟨b1, 0, none⟩)) (.nilCheck rfl) ?_
  refine DW.t 3 rfl (Some'.weak (.skip (.take (.nil _)))) (.pointer (some ⟨b1, 0, none⟩)) (.fieldAddr Tfo_54_0 rfl rfl) ?_
  refine DW.t 5 rfl (Some'.weak (.skip (.take (.nil _)))) (.agg #[sv (x.word), .int .i64 (x.g3.1), .int .i64 (x.g3.2.1), .int .i64 (x.g3.2.2), .int .i64 (x.num), sv (x.nm), .slice A_v11 (x.ar.length) c_v11]) (.loadN (cs := [sv (x.word), .int .i64 (x.g3.1), .int .i64 (x.g3.2.1), .int .i64 (x.g3.2.2), .int .i64 (x.num), sv (x.nm), .slice A_v11 (x.ar.length) c_v11]) Tagg_77 rfl (Cells.blk (.head _) ⟨rfl, rfl, rfl, rfl, rfl, rfl, rfl, trivial⟩)) ?_
  refine DW.two (i := 4) (j := 6) (by kernel_rfl) rfl rfl rfl rfl ?_ ?_
  ·refine OpStep.q (v := vl) (OpQ.y (OpY.load1 Tone_51 rfl (.b (.tail _ (.tail _ (.head _)))))) ?_
   refine ⟨(Some'.weak (.skip (.take (.nil _)))), ?_⟩
   refine DW.step (i := 6) (by kernel_rfl) rfl rfl (OpStep.buildSlice (us := [sv (x.word), .int .i64 (x.g3.1), .int .i64 (x.g3.2.1), .int .i64 (x.g3.2.2), .int .i64 (x.num), sv (x.nm), .slice A_v11 (x.ar.length) c_v11]) Tsl_51 (by decide) (by decide) ⟨rfl, [sv (x.word), .int .i64 (x.g3.1), .int .i64 (x.g3.2.1), .int .i64 (x.g3.2.2), .int .i64 (x.num), sv (x.nm), .slice A_v11 (x.ar.length) c_v11], _, rfl, rfl, rfl, rfl⟩ rfl fun b3 => ?_)
   refine ⟨(Some'.weak (.skip (.skip (.take (.nil _))))), ?_⟩
   refine DW.step (i := 7) (by kernel_rfl) rfl rfl (OpStep.append (H1 := [.own (.slice (some ⟨b3, 0, none⟩) 1 1) 77 7 1 ([sv (x.word), .int .i64 (x.g3.1), .int .i64 (x.g3.2.1), .int .i64 (x.g3.2.2), .int .i64 (x.num), sv (x.nm), .slice A_v11 (x.ar.length) c_v11]), .grp 3 1 (rgr (L ++ [lv x (.slice A_v11 (x.ar.length) c_v11)])), .blk b2 77 [sv (x.word), .int .i64 (x.g3.1), .int .i64 (x.g3.2.1), .int .i64 (x.g3.2.2), .int .i64 (x.num), sv (x.nm), .slice A_v11 (x.ar.length) c_v11], .blk b1 54 [vl, .slice none 0 0]]) (H2 := [.own (.slice (some ⟨gp, 0, none⟩) (P.length) c_pv1) 9 1 (P.length) (strs P)]) (v := vl) (u := .slice (some ⟨b3, 0, none⟩) 1 1) (n := L.length) (m := 1) (xs := rls L) (ys := [sv (x.word), .int .i64 (x.g3.1), .int .i64 (x.g3.2.1), .int .i64 (x.g3.2.2), .int .i64 (x.num), sv (x.nm), .slice A_v11 (x.ar.length) c_v11]) Tsl_51 (by decide) rfl rfl rfl rfl (fun w hs => hs.slOwn (.head _)) (by simp [Value.oneCell']) (by omega) (by simp only [maxLen]; omega) fun av1 hnav1 => ?_)
   refine DW.weakS (H' := [.own (.slice (some ⟨b3, 0, none⟩) 1 1) 77 7 1 ([sv (x.word), .int .i64 (x.g3.1), .int .i64 (x.g3.2.1), .int .i64 (x.g3.2.2), .int .i64 (x.num), sv (x.nm), .slice A_v11 (x.ar.length) c_v11]), .grp 3 1 (rgr (L ++ [lv x (.slice A_v11 (x.ar.length) c_v11)])), .blk b2 77 [sv (x.word), .int .i64 (x.g3.1), .int .i64 (x.g3.2.1), .int .i64 (x.g3.2.2), .int .i64 (x.num), sv (x.nm), .slice A_v11 (x.ar.length) c_v11], .blk b1 54 [vl, .slice none 0 0], .own av1 77 7 ((L ++ [lv x (.slice A_v11 (x.ar.length) c_v11)]).length) (rls (L ++ [lv x (.slice A_v11 (x.ar.length) c_v11)])), .own (.slice (some ⟨gp, 0, none⟩) (P.length) c_pv1) 9 1 (P.length) (strs P)]) (Some'.weak (.take (.take (.take (.take (.takeEq (by simp [rls, rle]) (.take (.nil _)))))))) ?_
   refine ⟨(Some'.weak (.skip (.skip (.take (.nil _))))), ?_⟩
   refine DW.t 8 rfl (Some'.weak (.skip (.skip (.take (.nil _))))) (.pointer (some ⟨b1, 0, none⟩)) (.nilCheck rfl) ?_
   refine DW.t 9 rfl (Some'.weak (.skip (.skip (.take (.nil _))))) (.pointer (some ⟨b1, 0, none⟩)) (.fieldAddr Tfo_54_0 rfl rfl) ?_
   refine DW.formOwn (.tail _ (.tail _ (.tail _ (.tail _ (.head _))))) (fun A_av11 c_av11 hv hcapc_av11 hmaxc_av11 => ?_)
   subst hv
   refine DW.step (i := 10) (by kernel_rfl) rfl rfl (OpStep.store (us := [.slice A_av11 ((L ++ [lv x (.slice A_v11 (x.ar.length) c_v11)]).length) c_av11]) Tsize_51 rfl rfl rfl (.there _ (.there _ (.there _ (.here _)))) (by simp only [List.length_cons, List.length_nil]; omega) ?_)
   show Weak [.own (.slice (some ⟨b3, 0, none⟩) 1 1) 77 7 1 ([sv (x.word), .int .i64 (x.g3.1), .int .i64 (x.g3.2.1), .int .i64 (x.g3.2.2), .int .i64 (x.num), sv (x.nm), .slice A_v11 (x.ar.length) c_v11]), .grp 3 1 (rgr (L ++ [lv x (.slice A_v11 (x.ar.length) c_v11)])), .blk b2 77 [sv (x.word), .int .i64 (x.g3.1), .int .i64 (x.g3.2.1), .int .i64 (x.g3.2.2), .int .i64 (x.num), sv (x.nm), .slice A_v11 (x.ar.length) c_v11], .blk b1 54 [.slice A_av11 ((L ++ [lv x (.slice A_v11 (x.ar.length) c_v11)]).length) c_av11, .slice none 0 0], .own (.slice A_av11 ((L ++ [lv x (.slice A_v11 (x.ar.length) c_v11)]).length) c_av11) 77 7 ((L ++ [lv x (.slice A_v11 (x.ar.length) c_v11)]).length) (rls (L ++ [lv x (.slice A_v11 (x.ar.length) c_v11)])), .own (.slice (some ⟨gp, 0, none⟩) (P.length) c_pv1) 9 1 (P.length) (strs P)] _ ∧ DW _ _ _ _ _ _ _ [.own (.slice (some ⟨b3, 0, none⟩) 1 1) 77 7 1 ([sv (x.word), .int .i64 (x.g3.1), .int .i64 (x.g3.2.1), .int .i64 (x.g3.2.2), .int .i64 (x.num), sv (x.nm), .slice A_v11 (x.ar.length) c_v11]), .grp 3 1 (rgr (L ++ [lv x (.slice A_v11 (x.ar.length) c_v11)])), .blk b2 77 [sv (x.word), .int .i64 (x.g3.1), .int .i64 (x.g3.2.1), .int .i64 (x.g3.2.2), .int .i64 (x.num), sv (x.nm), .slice A_v11 (x.ar.length) c_v11], .blk b1 54 [.slice A_av11 ((L ++ [lv x (.slice A_v11 (x.ar.length) c_v11)]).length) c_av11, .slice none 0 0], .own (.slice A_av11 ((L ++ [lv x (.slice A_v11 (x.ar.length) c_v11)]).length) c_av11) 77 7 ((L ++ [lv x (.slice A_v11 (x.ar.length) c_v11)]).length) (rls (L ++ [lv x (.slice A_v11 (x.ar.length) c_v11)])), .own (.slice (some ⟨gp, 0, none⟩) (P.length) c_pv1) 9 1 (P.length) (strs P)]
   refine ⟨(Some'.weak (.skip (.skip (.take (.nil _))))), ?_⟩
   refine DW.done (by kernel_rfl) ?_
   refine .blockEnd ?_
   refine .region ?_
   refine .u (.int .i64 ((((k : Nat) : Int)) + 1)) (.add rfl rfl rfl (by omega) (by omega)) ?_
   refine .m ?_
   refine .done ?_
   refine .goal ⟨(by repeat (first | exact Same.refl _ _ | refine Same.put rfl ?_ | refine Same.over rfl rfl ?_)), (k + 1, (L ++ [lv x (.slice A_v11 (x.ar.length) c_v11)]), .slice A_av11 ((L ++ [lv x (.slice A_v11 (x.ar.length) c_v11)]).length) c_av11), ?_, ?_, ?_, ?_⟩
   ·refine ⟨by omega, by simp [hLk], by rw [lns_succ hx, List.map_append, hLm]; rfl, ?_⟩
    intro i hi
    rcases Nat.lt_succ_iff_lt_or_eq.1 hi with h | h
    ·exact hgoodk i h
    ·rw [h, badAt, hx]; rfl
   ·show P.length - (k + 1) < P.length - k; omega
   ·exact ⟨(by first | rfl | (congr 1; omega) | simp), trivial⟩
   ·exact ((Weak.selF [3, 3, 1, 2]).trans (Some'.weak (.takeEq (by first | rfl | simp) (.takeEq (by first | rfl | simp) (.takeEq (by first | rfl | simp) (.takeEq (by first | rfl | simp) (.nil _)))))))
  ·refine OpStep.buildSlice (us := [sv (x.word), .int .i64 (x.g3.1), .int .i64 (x.g3.2.1), .int .i64 (x.g3.2.2), .int .i64 (x.num), sv (x.nm), .slice A_v11 (x.ar.length) c_v11]) Tsl_51 (by decide) (by decide) ⟨rfl, [sv (x.word), .int .i64 (x.g3.1), .int .i64 (x.g3.2.1), .int .i64 (x.g3.2.2), .int .i64 (x.num), sv (x.nm), .slice A_v11 (x.ar.length) c_v11], _, rfl, rfl, rfl, rfl⟩ rfl fun b4 => ?_
   refine ⟨(Some'.weak (.skip (.skip (.take (.nil _))))), ?_⟩
   refine DW.step (i := 4) (by kernel_rfl) rfl rfl (OpStep.q (v := vl) (OpQ.y (OpY.load1 Tone_51 rfl (.b (.tail _ (.tail _ (.tail _ (.head _))))))) ?_)
   refine ⟨(Some'.weak (.skip (.skip (.take (.nil _))))), ?_⟩
   refine DW.step (i := 7) (by kernel_rfl) rfl rfl (OpStep.append (H1 := [.own (.slice (some ⟨b4, 0, none⟩) 1 1) 77 7 1 ([sv (x.word), .int .i64 (x.g3.1), .int .i64 (x.g3.2.1), .int .i64 (x.g3.2.2), .int .i64 (x.num), sv (x.nm), .slice A_v11 (x.ar.length) c_v11]), .grp 3 1 (rgr (L ++ [lv x (.slice A_v11 (x.ar.length) c_v11)])), .blk b2 77 [sv (x.word), .int .i64 (x.g3.1), .int .i64 (x.g3.2.1), .int .i64 (x.g3.2.2), .int .i64 (x.num), sv (x.nm), .slice A_v11 (x.ar.length) c_v11], .blk b1 54 [vl, .slice none 0 0]]) (H2 := [.own (.slice (some ⟨gp, 0, none⟩) (P.length) c_pv1) 9 1 (P.length) (strs P)]) (v := vl) (u := .slice (some ⟨b4, 0, none⟩) 1 1) (n := L.length) (m := 1) (xs := rls L) (ys := [sv (x.word), .int .i64 (x.g3.1), .int .i64 (x.g3.2.1), .int .i64 (x.g3.2.2), .int .i64 (x.num), sv (x.nm), .slice A_v11 (x.ar.length) c_v11]) Tsl_51 (by decide) rfl rfl rfl rfl (fun w hs => hs.slOwn (.head _)) (by simp [Value.oneCell']) (by omega) (by simp only [maxLen]; omega) fun av2 hnav2 => ?_)
   refine DW.weakS (H' := [.own (.slice (some ⟨b4, 0, none⟩) 1 1) 77 7 1 ([sv (x.word), .int .i64 (x.g3.1), .int .i64 (x.g3.2.1), .int .i64 (x.g3.2.2), .int .i64 (x.num), sv (x.nm), .slice A_v11 (x.ar.length) c_v11]), .grp 3 1 (rgr (L ++ [lv x (.slice A_v11 (x.ar.length) c_v11)])), .blk b2 77 [sv (x.word), .int .i64 (x.g3.1), .int .i64 (x.g3.2.1), .int .i64 (x.g3.2.2), .int .i64 (x.num), sv (x.nm), .slice A_v11 (x.ar.length) c_v11], .blk b1 54 [vl, .slice none 0 0], .own av2 77 7 ((L ++ [lv x (.slice A_v11 (x.ar.length) c_v11)]).length) (rls (L ++ [lv x (.slice A_v11 (x.ar.length) c_v11)])), .own (.slice (some ⟨gp, 0, none⟩) (P.length) c_pv1) 9 1 (P.length) (strs P)]) (Some'.weak (.take (.take (.take (.take (.takeEq (by simp [rls, rle]) (.take (.nil _)))))))) ?_
   refine ⟨(Some'.weak (.skip (.skip (.take (.nil _))))), ?_⟩
   refine DW.t 8 rfl (Some'.weak (.skip (.skip (.take (.nil _))))) (.pointer (some ⟨b1, 0, none⟩)) (.nilCheck rfl) ?_
   refine DW.t 9 rfl (Some'.weak (.skip (.skip (.take (.nil _))))) (.pointer (some ⟨b1, 0, none⟩)) (.fieldAddr Tfo_54_0 rfl rfl) ?_
   refine DW.formOwn (.tail _ (.tail _ (.tail _ (.tail _ (.head _))))) (fun A_av21 c_av21 hv hcapc_av21 hmaxc_av21 => ?_)
   subst hv
   refine DW.step (i := 10) (by kernel_rfl) rfl rfl (OpStep.store (us := [.slice A_av21 ((L ++ [lv x (.slice A_v11 (x.ar.length) c_v11)]).length) c_av21]) Tsize_51 rfl rfl rfl (.there _ (.there _ (.there _ (.here _)))) (by simp only [List.length_cons, List.length_nil]; omega) ?_)
   show Weak [.own (.slice (some ⟨b4, 0, none⟩) 1 1) 77 7 1 ([sv (x.word), .int .i64 (x.g3.1), .int .i64 (x.g3.2.1), .int .i64 (x.g3.2.2), .int .i64 (x.num), sv (x.nm), .slice A_v11 (x.ar.length) c_v11]), .grp 3 1 (rgr (L ++ [lv x (.slice A_v11 (x.ar.length) c_v11)])), .blk b2 77 [sv (x.word), .int .i64 (x.g3.1), .int .i64 (x.g3.2.1), .int .i64 (x.g3.2.2), .int .i64 (x.num), sv (x.nm), .slice A_v11 (x.ar.length) c_v11], .blk b1 54 [.slice A_av21 ((L ++ [lv x (.slice A_v11 (x.ar.length) c_v11)]).length) c_av21, .slice none 0 0], .own (.slice A_av21 ((L ++ [lv x (.slice A_v11 (x.ar.length) c_v11)]).length) c_av21) 77 7 ((L ++ [lv x (.slice A_v11 (x.ar.length) c_v11)]).length) (rls (L ++ [lv x (.slice A_v11 (x.ar.length) c_v11)])), .own (.slice (some ⟨gp, 0, none⟩) (P.length) c_pv1) 9 1 (P.length) (strs P)] _ ∧ DW _ _ _ _ _ _ _ [.own (.slice (some ⟨b4, 0, none⟩) 1 1) 77 7 1 ([sv (x.word), .int .i64 (x.g3.1), .int .i64 (x.g3.2.1), .int .i64 (x.g3.2.2), .int .i64 (x.num), sv (x.nm), .slice A_v11 (x.ar.length) c_v11]), .grp 3 1 (rgr (L ++ [lv x (.slice A_v11 (x.ar.length) c_v11)])), .blk b2 77 [sv (x.word), .int .i64 (x.g3.1), .int .i64 (x.g3.2.1), .int .i64 (x.g3.2.2), .int .i64 (x.num), sv (x.nm), .slice A_v11 (x.ar.length) c_v11], .blk b1 54 [.slice A_av21 ((L ++ [lv x (.slice A_v11 (x.ar.length) c_v11)]).length) c_av21, .slice none 0 0], .own (.slice A_av21 ((L ++ [lv x (.slice A_v11 (x.ar.length) c_v11)]).length) c_av21) 77 7 ((L ++ [lv x (.slice A_v11 (x.ar.length) c_v11)]).length) (rls (L ++ [lv x (.slice A_v11 (x.ar.length) c_v11)])), .own (.slice (some ⟨gp, 0, none⟩) (P.length) c_pv1) 9 1 (P.length) (strs P)]
   refine ⟨(Some'.weak (.skip (.skip (.take (.nil _))))), ?_⟩
   refine DW.done (by kernel_rfl) ?_
   refine .blockEnd ?_
   refine .region ?_
   refine .u (.int .i64 ((((k : Nat) : Int)) + 1)) (.add rfl rfl rfl (by omega) (by omega)) ?_
   refine .m ?_
   refine .done ?_
   refine .goal ⟨(by repeat (first | exact Same.refl _ _ | refine Same.put rfl ?_ | refine Same.over rfl rfl ?_)), (k + 1, (L ++ [lv x (.slice A_v11 (x.ar.length) c_v11)]), .slice A_av21 ((L ++ [lv x (.slice A_v11 (x.ar.length) c_v11)]).length) c_av21), ?_, ?_, ?_, ?_⟩
   ·refine ⟨by omega, by simp [hLk], by rw [lns_succ hx, List.map_append, hLm]; rfl, ?_⟩
    intro i hi
    rcases Nat.lt_succ_iff_lt_or_eq.1 hi with h | h
    ·exact hgoodk i h
    ·rw [h, badAt, hx]; rfl
   ·show P.length - (k + 1) < P.length - k; omega
   ·exact ⟨(by first | rfl | (congr 1; omega) | simp), trivial⟩
   ·exact ((Weak.selF [3, 3, 1, 2]).trans (Some'.weak (.takeEq (by first | rfl | simp) (.takeEq (by first | rfl | simp) (.takeEq (by first | rfl | simp) (.takeEq (by first | rfl | simp) (.nil _)))))))
 have p39 := h39; try simp only [bs] at p39
 have hkn : k = P.length := by omega
 obtain ⟨hk, hLk, hLm, hgoodk⟩ := hinv
 have hf0 : fltL P = 0 := by rw [fltL, findI_none fun i hi => hgoodk i (by omega)]; rfl
 have hLX : L.map (·.1) = X := by rw [hLm, hkn, ← hX, lnsP, hP]
 have hXL : X.length = L.length := by rw [← hLX, List.length_map]
 have hXP : lns P P.length = X := by rw [← hX, lnsP, hP]
 have hcX : CallsOk X := by rw [← hXP]; exact lns_calls hf0
 have hq0 : (liAt X 0).word = wQ := by rw [← hXP]; exact lns_q hf0 hP1
 have hoq : OneQ X := by rw [← hXP]; exact lns_one hf0
 have hn1 : 1 ≤ L.length := by omega
 have hf : ¬ 0 < fltL (piecesP s) := by rw [hP]; omega
 refine .exit rfl ?_
 refine .seq ?_
 refine .sr ?_
 refine .m ?_
 refine .c (.int .i64 (fbL X)) [.pointer (some ⟨b1, 0, none⟩)] Tcall_51 (fun w hs => (by have h := blocks_spec (hs.slBlk (.head _)) (hs.slOwn (.tail _ (.head _))) (hs.rq (.tail _ (.tail _ (.head _)))) (by rw [hLX]; exact hq0) hn1 (by omega); rw [hLX] at h; exact h)) ?_
 refine .m ?_
 refine .dsr ?_
 refine .m ?_
 refine .w (.bool (decide ((fbL X) > 0))) ?_
 refine .done ?_
 refine .cond (b := decide ((fbL X) > 0)) rfl (fun h69 => ?_) (fun h69 => ?_)
 ·have p69 := h69; try simp only [bs] at p69
  refine .seq ?_
  refine Run.weak (H' := [.grp 69 3 (ggr []), .blk b1 54 [vl, .slice none 0 0], .own vl 77 7 (L.length) (rls L), .grp 3 1 (rgr L), .own (.slice (some ⟨gp, 0, none⟩) (P.length) c_pv1) 9 1 (P.length) (strs P)]) (Weak.grpNil _ _) ?_ ⟨_, _, rfl, fun _ => nofun, fun _ => nofun⟩
  refine .region ?_
  iterate 6 refine .m ?_
  refine .done ?_
  refine .ret ?_
  refine ⟨.tuple #[.pointer (some ⟨b1, 0, none⟩), .slice none 0 0, .int .i64 3, .int .i64 (fbL X)], [.blk b1 54 [vl, .slice none 0 0], .own vl 77 7 (L.length) (rls L), .grp 3 1 (rgr L), .own (.slice none 0 0) 22 1 (([] : List GV).length) (gvs ([] : List GV)), .grp 69 3 (ggr []), .own (.slice none 0 0) 50 4 (([] : List Dn).length) (dns ([] : List Dn))], Out.four rfl rfl rfl rfl rfl, ((Weak.nilOwn 50 4).trans ((Weak.nilOwn 22 1).trans ((Weak.selF [3, 3, 3, 0, 1, 0]).trans (Some'.weak (.take (.take (.take (.takeEq (by first | rfl | simp) (.take (.takeEq (by first | rfl | simp) (.nil _))))))))))), ?_⟩
  exact ck_bad (L := L) (G := []) (T := []) (by rw [rtC3 hgo hf (by rw [hX]; omega), hX]) (by decide)
 have p69 := h69; try simp only [bs] at p69
 refine .skip ?_
 refine .seq ?_
 have hb : ¬ 0 < fbL (lnsP s) := by rw [hX]; omega
 obtain ⟨T, hT⟩ : ∃ T, dfsR X = T := ⟨_, rfl⟩
 obtain ⟨ps, hps⟩ := fbL_prog hoq (by omega) (show fbL X = 0 by have := fbL_ge X; omega)
 have hTt : tt X ps = T := by rw [← hT, dfsR_prog hps hq0]
 obtain ⟨hp, hfin⟩ := run_all hcX hps hq0 (by omega)
 have hwid := wid_ok hcX hps hq0 (by omega)
 have hTl : T.length ≤ X.length := by rw [← hT]; exact (dfT_len X X.length).1
 rw [hTt] at hp hfin hwid
 refine .region ?_
 refine .m ?_
 refine .step rfl (.c [.pointer (some ⟨b1, 0, none⟩)] Tcall_52 (fun w hs => (by have h := defs_spec (hs.slBlk (.head _)) (hs.slOwn (.tail _ (.head _))) (hs.rq (.tail _ (.tail _ (.head _)))) (by omega); rw [hLX, hT] at h; exact h)) ?_)
 rintro vt _ rfl
 show Run _ _ (putF _ _ _ vt) [.own vt 50 4 (T.length) (dns T), .blk b1 54 [vl, .slice none 0 0], .own vl 77 7 (L.length) (rls L), .grp 3 1 (rgr L), .own (.slice (some ⟨gp, 0, none⟩) (P.length) c_pv1) 9 1 (P.length) (strs P)]
 refine .w vt ?_
 refine .done ?_
 refine .seq ?_
 refine .sr ?_
 refine .m ?_
 refine .w vt ?_
 refine .c (.int .i64 (namR T X)) [.pointer (some ⟨b1, 0, none⟩), vt] Tcall_53 (fun w hs => (by have h := names_spec (hs.slBlk (.tail _ (.head _))) (hs.slOwn (.tail _ (.tail _ (.head _)))) (hs.rq (.tail _ (.tail _ (.tail _ (.head _))))) (hs.slOwn (.head _)) hn1 (by omega); rw [hLX] at h; exact h)) ?_
 refine .m ?_
 refine .dsr ?_
 refine .m ?_
 refine .w (.bool (decide ((namR T X) > 0))) ?_
 refine .done ?_
 refine .cond (b := decide ((namR T X) > 0)) rfl (fun h78 => ?_) (fun h78 => ?_)
 ·have p78 := h78; try simp only [bs] at p78
  refine .seq ?_
  refine Run.weak (H' := [.grp 69 3 (ggr []), .own vt 50 4 (T.length) (dns T), .blk b1 54 [vl, .slice none 0 0], .own vl 77 7 (L.length) (rls L), .grp 3 1 (rgr L), .own (.slice (some ⟨gp, 0, none⟩) (P.length) c_pv1) 9 1 (P.length) (strs P)]) (Weak.grpNil _ _) ?_ ⟨_, _, rfl, fun _ => nofun, fun _ => nofun⟩
  refine .region ?_
  iterate 6 refine .m ?_
  refine .done ?_
  refine .ret ?_
  refine ⟨.tuple #[.pointer (some ⟨b1, 0, none⟩), .slice none 0 0, .int .i64 4, .int .i64 (namR T X)], [.blk b1 54 [vl, .slice none 0 0], .own vl 77 7 (L.length) (rls L), .grp 3 1 (rgr L), .own (.slice none 0 0) 22 1 (([] : List GV).length) (gvs ([] : List GV)), .grp 69 3 (ggr []), .own (.slice none 0 0) 50 4 (([] : List Dn).length) (dns ([] : List Dn))], Out.four rfl rfl rfl rfl rfl, ((Weak.nilOwn 50 4).trans ((Weak.nilOwn 22 1).trans ((Weak.selF [4, 4, 4, 0, 1, 0]).trans (Some'.weak (.take (.take (.take (.takeEq (by first | rfl | simp) (.take (.takeEq (by first | rfl | simp) (.nil _))))))))))), ?_⟩
  exact ck_bad (L := L) (G := []) (T := []) (rt_nam hgo hf hb hX hp (by omega)) (by decide)
 have p78 := h78; try simp only [bs] at p78
 have hN0 : namR T X = 0 := by have := namR_ge T X; omega
 refine .skip ?_
 refine .seq ?_
 refine .sr ?_
 refine .m ?_
 refine .w vt ?_
 refine .c (.int .i64 (gatR T X)) [.pointer (some ⟨b1, 0, none⟩), vt] Tcall_54 (fun w hs => (by have h := gates_spec (hs.slBlk (.tail _ (.head _))) (hs.slOwn (.tail _ (.tail _ (.head _)))) (hs.rq (.tail _ (.tail _ (.tail _ (.head _))))) (hs.slOwn (.head _)) hn1 (by omega) (by rw [hLX]; exact hwid) (by rw [hLX]; exact fin_okR hN0); rw [hLX] at h; exact h)) ?_
 refine .m ?_
 refine .dsr ?_
 refine .m ?_
 refine .w (.bool (decide ((gatR T X) > 0))) ?_
 refine .done ?_
 refine .cond (b := decide ((gatR T X) > 0)) rfl (fun h85 => ?_) (fun h85 => ?_)
 ·have p85 := h85; try simp only [bs] at p85
  refine .seq ?_
  refine Run.weak (H' := [.grp 69 3 (ggr []), .own vt 50 4 (T.length) (dns T), .blk b1 54 [vl, .slice none 0 0], .own vl 77 7 (L.length) (rls L), .grp 3 1 (rgr L), .own (.slice (some ⟨gp, 0, none⟩) (P.length) c_pv1) 9 1 (P.length) (strs P)]) (Weak.grpNil _ _) ?_ ⟨_, _, rfl, fun _ => nofun, fun _ => nofun⟩
  refine .region ?_
  iterate 6 refine .m ?_
  refine .done ?_
  refine .ret ?_
  refine ⟨.tuple #[.pointer (some ⟨b1, 0, none⟩), .slice none 0 0, .int .i64 5, .int .i64 (gatR T X)], [.blk b1 54 [vl, .slice none 0 0], .own vl 77 7 (L.length) (rls L), .grp 3 1 (rgr L), .own (.slice none 0 0) 22 1 (([] : List GV).length) (gvs ([] : List GV)), .grp 69 3 (ggr []), .own (.slice none 0 0) 50 4 (([] : List Dn).length) (dns ([] : List Dn))], Out.four rfl rfl rfl rfl rfl, ((Weak.nilOwn 50 4).trans ((Weak.nilOwn 22 1).trans ((Weak.selF [4, 4, 4, 0, 1, 0]).trans (Some'.weak (.take (.take (.take (.takeEq (by first | rfl | simp) (.take (.takeEq (by first | rfl | simp) (.nil _))))))))))), ?_⟩
  exact ck_bad (L := L) (G := []) (T := []) (rt_gat hgo hf hb hX hp hN0 (by omega)) (by decide)
 have p85 := h85; try simp only [bs] at p85
 have hG0 : gatR T X = 0 := by have := gatR_ge T X; omega
 obtain ⟨FD, FM, hF⟩ := hfin (noEv_of hN0 hG0)
 refine .skip ?_
 refine .seq ?_
 refine .seq ?_
 refine Run.weak (H' := [.own (.slice none 0 0) 22 1 0 (gvs []), .own vt 50 4 (T.length) (dns T), .blk b1 54 [vl, .slice none 0 0], .own vl 77 7 (L.length) (rls L), .grp 3 1 (rgr L), .own (.slice (some ⟨gp, 0, none⟩) (P.length) c_pv1) 9 1 (P.length) (strs P)]) (Weak.nilOwn _ _) ?_ ⟨_, _, rfl, fun _ => nofun, fun _ => nofun⟩
 refine Run.weak (H' := [.grp 69 3 (ggr []), .own (.slice none 0 0) 22 1 0 (gvs []), .own vt 50 4 (T.length) (dns T), .blk b1 54 [vl, .slice none 0 0], .own vl 77 7 (L.length) (rls L), .grp 3 1 (rgr L), .own (.slice (some ⟨gp, 0, none⟩) (P.length) c_pv1) 9 1 (P.length) (strs P)]) (Weak.grpNil _ _) ?_ ⟨_, _, rfl, fun _ => nofun, fun _ => nofun⟩
 refine .region ?_
 refine .w vt ?_
 refine Run.formOwn (.tail _ (.tail _ (.head _))) (fun A_vt1 c_vt1 hv hcapc_vt1 hmaxc_vt1 => ?_) (fun _ _ _ => ⟨nofun, nofun, nofun⟩)
 subst hv
 refine .u (.int .i64 (((T.length : Nat) : Int))) (.len Tsl_46 rfl) ?_
 refine .m ?_
 refine .done ?_
 refine .block ?_
 refine Run.loop (ι := Nat × List GV × Value) [2, 3, 4, 5, 16, 90, 91, 92, 93, 94, 95, 96, 97, 98, 99, 100, 101, 102, 103, 104, 105, 106, 107, 108, 109, 110, 111, 112, 113, 114, 115, 116, 117, 118, 119, 120, 121, 122, 123, 124, 125] (fun ⟨j, G, vd⟩ => [(90, .int .i64 (((j : Nat) : Int)))]) (fun ⟨j, G, vd⟩ => [.blk b1 54 [vl, vd], .own vd 22 1 (G.length) (gvs G), .grp 69 3 (ggr G), .own vl 77 7 (L.length) (rls L), .grp 3 1 (rgr L), .own (.slice A_vt1 (T.length) c_vt1) 50 4 (T.length) (dns T)]) (fun ⟨j, G, vd⟩ => j ≤ T.length ∧ G.length = j ∧ G.map (·.1) = FD.take j ∧ ∀ q, q < j → (gsx FD q).length ≤ 400) (fun ⟨j, G, vd⟩ => T.length - j) (0, [], .slice none 0 0) ?_ ?_ ?_ ?_
 ·exact ⟨Nat.zero_le _, rfl, rfl, fun q hq => by omega⟩
 ·exact ⟨rfl, trivial⟩
 ·exact ((Weak.selF [3, 1, 0, 1, 1, 0]).trans (Some'.weak (.takeEq (by first | rfl | simp) (.takeEq (by first | rfl | simp) (.takeEq (by first | rfl | simp) (.take (.take (.take (.nil _)))))))))
 rintro ⟨j, G, vd⟩ fr hinv
 show Run _ _ (over _ _ [(90, .int .i64 (((j : Nat) : Int)))] fr) [.blk b1 54 [vl, vd], .own vd 22 1 (G.length) (gvs G), .grp 69 3 (ggr G), .own vl 77 7 (L.length) (rls L), .grp 3 1 (rgr L), .own (.slice A_vt1 (T.length) c_vt1) 50 4 (T.length) (dns T)]
 try dsimp only at hinv
 refine .sr ?_
 refine .w (.bool (decide ((((j : Nat) : Int)) < (((T.length : Nat) : Int))))) ?_
 refine .done ?_
 refine .seq ?_
 refine .cond (b := decide ((((j : Nat) : Int)) < (((T.length : Nat) : Int)))) rfl (fun h91 => ?_) (fun h91 => ?_)
 ·have p91 := h91; try simp only [bs] at p91
  have hltj : j < T.length := by omega
  obtain ⟨hj, hGl, hGF, hj4⟩ := hinv
  have hbd := hF.bnd j hltj
  have hol := exc_len (X := X) (T := T) (gsx_400 hj4) _ (dnx T j).a.toNat (dnx T j).z.toNat [] rfl (by omega) (by simp)
  refine Run.openOwn (.tail _ (.tail _ (.tail _ (.tail _ (.tail _ (.head _)))))) (by omega) (fun gt ct hvgt hcapgt _ => ?_) (fun _ _ _ => ⟨nofun, nofun, nofun⟩)
  injection hvgt with hAgt _ hcgt; subst hAgt; subst hcgt
  refine .skip ?_
  refine .seq ?_
  refine .block ?_
  refine .sr ?_
  refine .u (.pointer (some ⟨gt, j * 4, none⟩)) (.ix j Tsl_46) ?_
  refine .u (.agg #[sv ((dnx T j).nm), .int .i64 ((dnx T j).n), .int .i64 ((dnx T j).a), .int .i64 ((dnx T j).z)]) (.loadN (cs := [sv ((dnx T j).nm), .int .i64 ((dnx T j).n), .int .i64 ((dnx T j).a), .int .i64 ((dnx T j).z)]) Tagg_50 rfl (Cells.own0 (.tail _ (.tail _ (.tail _ (.tail _ (.tail _ (.head _)))))) (dns_pre0 (k := j) (by omega)))) ?_
  refine .step rfl (.alloc (zs := [sv ([]), .int .i64 0, .int .i64 0, .int .i64 0]) Tzero_50 fun b5 => ?_)
  refine .step rfl (.storeAll (us := [sv ((dnx T j).nm), .int .i64 ((dnx T j).n), .int .i64 ((dnx T j).a), .int .i64 ((dnx T j).z)]) Tsize_50 rfl rfl rfl (.here _) rfl ?_)
  refine .done ?_
  refine .seq ?_
  refine .lastlyB [16] [.blk b5 50 [sv ((dnx T j).nm), .int .i64 ((dnx T j).n), .int .i64 ((dnx T j).a), .int .i64 ((dnx T j).z)], .blk b1 54 [vl, vd]] (by kernel_rfl) ?_
  refine DL.m 0 rfl ?_
  refine DL.m 1 rfl ?_
  refine DL.tP 2 rfl (.pointer (some ⟨b1, 0, none⟩)) (fun _ => OpY.nilCheck rfl) ?_
  refine DL.tP 3 rfl (.pointer (some ⟨b1, 1, none⟩)) (fun _ => OpY.fieldAddr Tfo_54_1 rfl rfl) ?_
  refine DL.t 4 rfl (Some'.weak (.take (.take (.nil _)))) vd (.load1 Tone_52 rfl (.b (.tail _ (.head _)))) ?_
  refine DL.m 5 rfl ?_
  refine DL.m 6 rfl ?_
  refine DL.tP 7 rfl (.pointer (some ⟨b5, 2, none⟩)) (fun _ => OpY.fieldAddr Tfo_50_2 rfl rfl) ?_
  refine DL.t 8 rfl (Some'.weak (.take (.take (.nil _)))) (.int .i64 ((dnx T j).a)) (.load1 Tone_3 rfl (.b (.head _))) ?_
  refine DL.tP 9 rfl (.pointer (some ⟨b5, 3, none⟩)) (fun _ => OpY.fieldAddr Tfo_50_3 rfl rfl) ?_
  refine DL.t 10 rfl (Some'.weak (.take (.take (.nil _)))) (.int .i64 ((dnx T j).z)) (.load1 Tone_3 rfl (.b (.head _))) ?_
  refine DL.stepS (i := 11) (by kernel_rfl) rfl rfl (OpStep.c [.pointer (some ⟨b1, 0, none⟩), .slice (some ⟨gt, 0, none⟩) (T.length) c_vt1, .int .i64 ((dnx T j).a), .int .i64 ((dnx T j).z)] Tcall_48 (fun w hs => (by have h := expStmt_all _ (a := (dnx T j).a.toNat) (z := (dnx T j).z.toNat) rfl (hs.slBlk (.tail _ (.head _))) (hs.slOwn (.tail _ (.tail _ (.tail _ (.tail _ (.head _)))))) (hs.rq (.tail _ (.tail _ (.tail _ (.tail _ (.tail _ (.head _))))))) (hs.slOwn (.tail _ (.tail _ (.tail _ (.tail _ (.tail _ (.tail _ (.head _)))))))) (hs.slOwn (.tail _ (.tail _ (.head _)))) (hs.gq (.tail _ (.tail _ (.tail _ (.head _))))) (by omega) hn1 (by omega) (by omega) (by rw [hLX]; exact hF.nest) (by rw [hLX]; exact hF.rng j hltj) (by rw [hLX, hGF]; exact hF.cal j hltj) (by rw [hGF]; exact gsx_400 hj4) (by rw [hLX]; exact hcX); rw [hLX, hGF, Int.toNat_of_nonneg hbd.1, Int.toNat_of_nonneg hbd.2.2.1] at h; exact h)) ?_)
  rintro ev _ rfl
  refine ⟨(Some'.weak (.skip (.take (.take (.nil _))))), ?_⟩
  refine DL.formOwn (.head _) (fun A_ev1 c_ev1 hv hcapc_ev1 hmaxc_ev1 => ?_)
  subst hv
  refine DL.stepS (i := 12) (by kernel_rfl) rfl rfl (OpStep.buildSlice (us := [.slice A_ev1 ((exc X T (FD.take j) (dnx T j).a.toNat (dnx T j).z.toNat []).length) c_ev1]) Tsl_52 (by decide) (by decide) ⟨rfl, [.slice A_ev1 ((exc X T (FD.take j) (dnx T j).a.toNat (dnx T j).z.toNat []).length) c_ev1], _, rfl, rfl, rfl, rfl⟩ rfl fun b6 => ?_)
  refine ⟨(Some'.weak (.skip (.skip (.take (.take (.nil _)))))), ?_⟩
  refine DL.stepS (i := 13) (by kernel_rfl) rfl rfl (OpStep.append (H1 := [.own (.slice (some ⟨b6, 0, none⟩) 1 1) 22 1 1 ([.slice A_ev1 ((exc X T (FD.take j) (dnx T j).a.toNat (dnx T j).z.toNat []).length) c_ev1]), .own (.slice A_ev1 ((exc X T (FD.take j) (dnx T j).a.toNat (dnx T j).z.toNat []).length) c_ev1) 69 3 ((exc X T (FD.take j) (dnx T j).a.toNat (dnx T j).z.toNat []).length) (ints (fl (exc X T (FD.take j) (dnx T j).a.toNat (dnx T j).z.toNat []))), .blk b5 50 [sv ((dnx T j).nm), .int .i64 ((dnx T j).n), .int .i64 ((dnx T j).a), .int .i64 ((dnx T j).z)], .blk b1 54 [vl, vd]]) (H2 := [.grp 69 3 (ggr G), .own vl 77 7 (L.length) (rls L), .grp 3 1 (rgr L), .own (.slice (some ⟨gt, 0, none⟩) (T.length) c_vt1) 50 4 (T.length) (dns T)]) (v := vd) (u := .slice (some ⟨b6, 0, none⟩) 1 1) (n := G.length) (m := 1) (xs := gvs G) (ys := [.slice A_ev1 ((exc X T (FD.take j) (dnx T j).a.toNat (dnx T j).z.toNat []).length) c_ev1]) Tsl_52 (by decide) rfl rfl rfl rfl (fun w hs => hs.slOwn (.head _)) (by simp [Value.oneCell']) (by omega) (by simp only [maxLen]; omega) fun av3 hnav3 => ?_)
  refine DL.weakS (H' := [.own (.slice (some ⟨b6, 0, none⟩) 1 1) 22 1 1 ([.slice A_ev1 ((exc X T (FD.take j) (dnx T j).a.toNat (dnx T j).z.toNat []).length) c_ev1]), .own (.slice A_ev1 ((exc X T (FD.take j) (dnx T j).a.toNat (dnx T j).z.toNat []).length) c_ev1) 69 3 ((exc X T (FD.take j) (dnx T j).a.toNat (dnx T j).z.toNat []).length) (ints (fl (exc X T (FD.take j) (dnx T j).a.toNat (dnx T j).z.toNat []))), .blk b5 50 [sv ((dnx T j).nm), .int .i64 ((dnx T j).n), .int .i64 ((dnx T j).a), .int .i64 ((dnx T j).z)], .blk b1 54 [vl, vd], .own av3 22 1 (G.length + 1) (gvs (G ++ [gv (exc X T (FD.take j) (dnx T j).a.toNat (dnx T j).z.toNat []) (.slice A_ev1 ((exc X T (FD.take j) (dnx T j).a.toNat (dnx T j).z.toNat []).length) c_ev1)])), .grp 69 3 (ggr G), .own vl 77 7 (L.length) (rls L), .grp 3 1 (rgr L), .own (.slice (some ⟨gt, 0, none⟩) (T.length) c_vt1) 50 4 (T.length) (dns T)]) (Some'.weak (.take (.take (.take (.take (.takeEq (by simp [gvs]) (.take (.take (.take (.take (.nil _))))))))))) ?_
  refine ⟨(Some'.weak (.skip (.skip (.take (.take (.nil _)))))), ?_⟩
  refine DL.tP 14 rfl (.pointer (some ⟨b1, 0, none⟩)) (fun _ => OpY.nilCheck rfl) ?_
  refine DL.tP 15 rfl (.pointer (some ⟨b1, 1, none⟩)) (fun _ => OpY.fieldAddr Tfo_54_1 rfl rfl) ?_
  refine DL.formOwn (.tail _ (.tail _ (.tail _ (.tail _ (.head _))))) (fun A_av31 c_av31 hv hcapc_av31 hmaxc_av31 => ?_)
  subst hv
  refine DL.step (i := 16) (by kernel_rfl) (by kernel_rfl) rfl rfl (OpStep.store (us := [.slice A_av31 (G.length + 1) c_av31]) Tsize_52 rfl rfl rfl (.there _ (.there _ (.there _ (.here _)))) (by simp only [List.length_cons, List.length_nil]; omega) ?_)
  show DL _ _ _ _ _ _ _ _ [.own (.slice (some ⟨b6, 0, none⟩) 1 1) 22 1 1 ([.slice A_ev1 ((exc X T (FD.take j) (dnx T j).a.toNat (dnx T j).z.toNat []).length) c_ev1]), .own (.slice A_ev1 ((exc X T (FD.take j) (dnx T j).a.toNat (dnx T j).z.toNat []).length) c_ev1) 69 3 ((exc X T (FD.take j) (dnx T j).a.toNat (dnx T j).z.toNat []).length) (ints (fl (exc X T (FD.take j) (dnx T j).a.toNat (dnx T j).z.toNat []))), .blk b5 50 [sv ((dnx T j).nm), .int .i64 ((dnx T j).n), .int .i64 ((dnx T j).a), .int .i64 ((dnx T j).z)], .blk b1 54 [vl, .slice A_av31 (G.length + 1) c_av31], .own (.slice A_av31 (G.length + 1) c_av31) 22 1 (G.length + 1) (gvs (G ++ [gv (exc X T (FD.take j) (dnx T j).a.toNat (dnx T j).z.toNat []) (.slice A_ev1 ((exc X T (FD.take j) (dnx T j).a.toNat (dnx T j).z.toNat []).length) c_ev1)])), .grp 69 3 (ggr G), .own vl 77 7 (L.length) (rls L), .grp 3 1 (rgr L), .own (.slice (some ⟨gt, 0, none⟩) (T.length) c_vt1) 50 4 (T.length) (dns T)]
  refine DL.done (by kernel_rfl) ?_
  refine .seq ?_
  refine Run.weak (H' := [.grp 69 3 (ggr (G ++ [gv (exc X T (FD.take j) (dnx T j).a.toNat (dnx T j).z.toNat []) (.slice A_ev1 ((exc X T (FD.take j) (dnx T j).a.toNat (dnx T j).z.toNat []).length) c_ev1)])), .own (.slice (some ⟨b6, 0, none⟩) 1 1) 22 1 1 ([.slice A_ev1 ((exc X T (FD.take j) (dnx T j).a.toNat (dnx T j).z.toNat []).length) c_ev1]), .blk b5 50 [sv ((dnx T j).nm), .int .i64 ((dnx T j).n), .int .i64 ((dnx T j).a), .int .i64 ((dnx T j).z)], .blk b1 54 [vl, .slice A_av31 (G.length + 1) c_av31], .own (.slice A_av31 (G.length + 1) c_av31) 22 1 (G.length + 1) (gvs (G ++ [gv (exc X T (FD.take j) (dnx T j).a.toNat (dnx T j).z.toNat []) (.slice A_ev1 ((exc X T (FD.take j) (dnx T j).a.toNat (dnx T j).z.toNat []).length) c_ev1)])), .own vl 77 7 (L.length) (rls L), .grp 3 1 (rgr L), .own (.slice (some ⟨gt, 0, none⟩) (T.length) c_vt1) 50 4 (T.length) (dns T)]) ((Weak.selF [1, 4]).trans Weak.ggrSnoc) ?_ ⟨_, _, rfl, fun _ => nofun, fun _ => nofun⟩
  refine Run.openOwn (.tail _ (.tail _ (.tail _ (.tail _ (.head _))))) (by omega) (fun gd cd hvgd hcapgd _ => ?_) (fun _ _ _ => ⟨nofun, nofun, nofun⟩)
  injection hvgd with hAgd _ hcgd; subst hAgd; subst hcgd
  refine .draws (by kernel_rfl) (by kernel_rfl) ?_
  refine .m ?_
  refine .u (.pointer (some ⟨b1, 0, none⟩)) (.nilCheck rfl) ?_
  refine .u (.pointer (some ⟨b1, 1, none⟩)) (.fieldAddr Tfo_54_1 rfl rfl) ?_
  refine .u (.slice (some ⟨gd, 0, none⟩) (G.length + 1) c_av31) (.load1 Tone_52 rfl (.b (.tail _ (.tail _ (.tail _ (.head _)))))) ?_
  refine .m ?_
  refine .u (.pointer (some ⟨b1, 0, none⟩)) (.nilCheck rfl) ?_
  refine .u (.pointer (some ⟨b1, 1, none⟩)) (.fieldAddr Tfo_54_1 rfl rfl) ?_
  refine .u (.slice (some ⟨gd, 0, none⟩) (G.length + 1) c_av31) (.load1 Tone_52 rfl (.b (.tail _ (.tail _ (.tail _ (.head _)))))) ?_
  refine .u (.int .i64 (((G.length + 1 : Nat) : Int))) (.len Tsl_52 rfl) ?_
  refine .u (.int .i64 ((((G.length + 1 : Nat) : Int)) - 1)) (.sub rfl rfl rfl (by omega) (by omega)) ?_
  refine .u (.pointer (some ⟨gd, j, none⟩)) (.ix j Tsl_52) ?_
  refine .u (.slice A_ev1 ((exc X T (FD.take j) (dnx T j).a.toNat (dnx T j).z.toNat []).length) c_ev1) (.load1 Tone_22 rfl (Cells.own0 (.tail _ (.tail _ (.tail _ (.tail _ (.head _))))) (gvs_pre (by rw [List.length_append, List.length_singleton]; omega) (by rw [← hGl, gvx_end])))) ?_
  refine .u (.int .i64 ((((exc X T (FD.take j) (dnx T j).a.toNat (dnx T j).z.toNat []).length : Nat) : Int))) (.len Tsl_22 rfl) ?_
  refine .w (.bool (decide (((((exc X T (FD.take j) (dnx T j).a.toNat (dnx T j).z.toNat []).length : Nat) : Int)) > 400))) ?_
  refine .done ?_
  refine .cond (b := decide (((((exc X T (FD.take j) (dnx T j).a.toNat (dnx T j).z.toNat []).length : Nat) : Int)) > 400)) rfl (fun h123 => ?_) (fun h123 => ?_)
  ·have p123 := h123; try simp only [bs] at p123
   refine .sr ?_
   iterate 5 refine .m ?_
   refine .done ?_
   refine .ret ?_
   refine ⟨.tuple #[.pointer (some ⟨b1, 0, none⟩), .slice none 0 0, .int .i64 6, .int .i64 0], [.blk b1 54 [vl, .slice (some ⟨gd, 0, none⟩) (G.length + 1) c_av31], .own vl 77 7 (L.length) (rls L), .grp 3 1 (rgr L), .own (.slice (some ⟨gd, 0, none⟩) (G.length + 1) c_av31) 22 1 (((G ++ [gv (exc X T (FD.take j) (dnx T j).a.toNat (dnx T j).z.toNat []) (.slice A_ev1 ((exc X T (FD.take j) (dnx T j).a.toNat (dnx T j).z.toNat []).length) c_ev1)])).length) (gvs (G ++ [gv (exc X T (FD.take j) (dnx T j).a.toNat (dnx T j).z.toNat []) (.slice A_ev1 ((exc X T (FD.take j) (dnx T j).a.toNat (dnx T j).z.toNat []).length) c_ev1)])), .grp 69 3 (ggr (G ++ [gv (exc X T (FD.take j) (dnx T j).a.toNat (dnx T j).z.toNat []) (.slice A_ev1 ((exc X T (FD.take j) (dnx T j).a.toNat (dnx T j).z.toNat []).length) c_ev1)])), .own (.slice none 0 0) 50 4 (([] : List Dn).length) (dns ([] : List Dn))], Out.four rfl rfl rfl rfl rfl, ((Weak.nilOwn 50 4).trans ((Weak.selF [4, 5, 5, 4, 1, 0]).trans (Some'.weak (.take (.take (.take (.takeEq (by first | rfl | simp) (.take (.takeEq (by first | rfl | simp) (.nil _)))))))))), ?_⟩
   exact ck_bad (L := L) (G := (G ++ [gv (exc X T (FD.take j) (dnx T j).a.toNat (dnx T j).z.toNat []) (.slice A_ev1 ((exc X T (FD.take j) (dnx T j).a.toNat (dnx T j).z.toNat []).length) c_ev1)])) (T := []) (rt_big hgo hf hb hX hp hN0 hG0 hF (by first | exact .inl ⟨j, hltj, tr_big (hF.ex j hltj) (by omega)⟩ | exact .inr (tr_big hF.exM (by rw [hXL]; omega)))) (by decide)
  have p123 := h123; try simp only [bs] at p123
  have hoo : (exc X T (FD.take j) (dnx T j).a.toNat (dnx T j).z.toNat []) = gsx FD j := (hF.ex j hltj).of_le (by omega)
  refine .skip ?_
  refine .blockEnd ?_
  refine .region ?_
  refine .u (.int .i64 ((((j : Nat) : Int)) + 1)) (.add rfl rfl rfl (by omega) (by omega)) ?_
  refine .m ?_
  refine .done ?_
  refine .goal ⟨(by repeat (first | exact Same.refl _ _ | refine Same.put rfl ?_ | refine Same.over rfl rfl ?_)), (j + 1, (G ++ [gv (exc X T (FD.take j) (dnx T j).a.toNat (dnx T j).z.toNat []) (.slice A_ev1 ((exc X T (FD.take j) (dnx T j).a.toNat (dnx T j).z.toNat []).length) c_ev1)]), .slice (some ⟨gd, 0, none⟩) (G.length + 1) c_av31), ?_, ?_, ?_, ?_⟩
  ·refine ⟨by omega, by simp [hGl], by rw [List.map_append, hGF, take_gsx (by have := hF.len; omega), ← hoo]; rfl, ?_⟩
   intro q hq
   rcases Nat.lt_succ_iff_lt_or_eq.1 hq with h | h
   ·exact hj4 q h
   ·rw [h, ← hoo]; omega
  ·show T.length - (j + 1) < T.length - j; omega
  ·exact ⟨(by first | rfl | (congr 1; omega) | simp), trivial⟩
  ·exact ((Weak.selF [3, 3, 0, 2, 2, 2]).trans (Some'.weak (.takeEq (by first | rfl | simp) (.takeEq (by first | rfl | simp) (.takeEq (by first | rfl | simp) (.takeEq (by first | rfl | simp) (.takeEq (by first | rfl | simp) (.takeEq (by first | rfl | simp) (.nil _)))))))))
 have p91 := h91; try simp only [bs] at p91
 obtain ⟨hj, hGl, hGF, hj4⟩ := hinv
 have hjn : j = T.length := by omega
 have hGF2 : G.map (·.1) = FD := by rw [hGF, hjn, ← hF.len, List.take_length]
 have h400 := gsx_400 hj4
 rw [← hGF, hGF2] at h400
 have hol := exc_len (X := X) (T := T) h400 _ 1 L.length [] rfl (by omega) (by simp)
 refine .exit rfl ?_
 refine .seq ?_
 refine .sr ?_
 iterate 3 refine .m ?_
 refine .u (.pointer (some ⟨b1, 0, none⟩)) (.nilCheck rfl) ?_
 refine .fa Tfo_54_0 ?_
 refine .u vl (.load1 Tone_51 rfl (.b (.head _))) ?_
 refine Run.formOwn (.tail _ (.tail _ (.tail _ (.head _)))) (fun A_vl1 c_vl1 hv hcapc_vl1 hmaxc_vl1 => ?_) (fun _ _ _ => ⟨nofun, nofun, nofun⟩)
 subst hv
 refine .u (.int .i64 (((L.length : Nat) : Int))) (.len Tsl_51 rfl) ?_
 refine .step rfl (.c [.pointer (some ⟨b1, 0, none⟩), .slice A_vt1 (T.length) c_vt1, .int .i64 1, .int .i64 (((L.length : Nat) : Int))] Tcall_48 (fun w hs => (by have h := expStmt_all _ (a := 1) (z := L.length) rfl (hs.slBlk (.head _)) (hs.slOwn (.tail _ (.tail _ (.tail _ (.head _))))) (hs.rq (.tail _ (.tail _ (.tail _ (.tail _ (.head _)))))) (hs.slOwn (.tail _ (.tail _ (.tail _ (.tail _ (.tail _ (.head _))))))) (hs.slOwn (.tail _ (.head _))) (hs.gq (.tail _ (.tail _ (.head _)))) (by omega) hn1 (by omega) (by omega) (by rw [hLX]; exact hF.nest) (by rw [hLX, ← hXL]; exact hF.rngM) (by rw [hLX, hGF2, ← hXL]; exact hF.calM) (by rw [hGF2]; exact h400) (by rw [hLX]; exact hcX); rw [hLX, hGF2] at h; exact h)) ?_)
 rintro ev _ rfl
 show Run _ _ (putF _ _ _ ev) [.own ev 69 3 ((exc X T FD 1 L.length []).length) (ints (fl (exc X T FD 1 L.length []))), .blk b1 54 [.slice A_vl1 (L.length) c_vl1, vd], .own vd 22 1 (G.length) (gvs G), .grp 69 3 (ggr G), .own (.slice A_vl1 (L.length) c_vl1) 77 7 (L.length) (rls L), .grp 3 1 (rgr L), .own (.slice A_vt1 (T.length) c_vt1) 50 4 (T.length) (dns T)]
 refine Run.formOwn (.head _) (fun A_ev2 c_ev2 hv hcapc_ev2 hmaxc_ev2 => ?_) (fun _ _ _ => ⟨nofun, nofun, nofun⟩)
 subst hv
 refine .u (.int .i64 ((((exc X T FD 1 L.length []).length : Nat) : Int))) (.len Tsl_22 rfl) ?_
 refine .w (.bool (decide (((((exc X T FD 1 L.length []).length : Nat) : Int)) > 400))) ?_
 refine .done ?_
 refine .cond (b := decide (((((exc X T FD 1 L.length []).length : Nat) : Int)) > 400)) rfl (fun h135 => ?_) (fun h135 => ?_)
 ·have p135 := h135; try simp only [bs] at p135
  refine .sr ?_
  iterate 5 refine .m ?_
  refine .done ?_
  refine .ret ?_
  refine ⟨.tuple #[.pointer (some ⟨b1, 0, none⟩), .slice none 0 0, .int .i64 6, .int .i64 0], [.blk b1 54 [.slice A_vl1 (L.length) c_vl1, vd], .own (.slice A_vl1 (L.length) c_vl1) 77 7 (L.length) (rls L), .grp 3 1 (rgr L), .own vd 22 1 (G.length) (gvs G), .grp 69 3 (ggr G), .own (.slice none 0 0) 50 4 (([] : List Dn).length) (dns ([] : List Dn))], Out.four rfl rfl rfl rfl rfl, ((Weak.nilOwn 50 4).trans ((Weak.selF [2, 4, 4, 2, 2, 0]).trans (Some'.weak (.take (.take (.take (.take (.take (.takeEq (by first | rfl | simp) (.nil _)))))))))), ?_⟩
  exact ck_bad (L := L) (G := G) (T := []) (rt_big hgo hf hb hX hp hN0 hG0 hF (by first | exact .inl ⟨j, hltj, tr_big (hF.ex j hltj) (by omega)⟩ | exact .inr (tr_big hF.exM (by rw [hXL]; omega)))) (by decide)
 have p135 := h135; try simp only [bs] at p135
 refine .skip ?_
 refine .sr ?_
 iterate 6 refine .m ?_
 refine .done ?_
 refine .ret ?_
 refine ⟨.tuple #[.pointer (some ⟨b1, 0, none⟩), .slice A_vt1 (T.length) c_vt1, .int .i64 0, .int .i64 0], [.blk b1 54 [.slice A_vl1 (L.length) c_vl1, vd], .own (.slice A_vl1 (L.length) c_vl1) 77 7 (L.length) (rls L), .grp 3 1 (rgr L), .own vd 22 1 (G.length) (gvs G), .grp 69 3 (ggr G), .own (.slice A_vt1 (T.length) c_vt1) 50 4 (T.length) (dns T)], Out.four rfl rfl rfl rfl rfl, ((Weak.selF [1, 3, 3, 1, 1, 1]).trans (Some'.weak (.take (.take (.take (.take (.take (.take (.nil _))))))))), ?_⟩
 have hM2 : exc X T FD 1 L.length [] = FM := by have := hF.exM.of_le (by rw [hXL]; omega); rwa [hXL] at this
 have hM4 : FM.length ≤ 400 := by rw [← hM2]; omega
 have hrt := rt_ok hgo hf hb hX hp hN0 hG0 hF (fun q hq => hj4 q (by omega)) hM4
 refine ⟨_, _, _, _, L, G, T, by rw [hrt], rfl, fun _ => ?_⟩
 refine ⟨hn1, by omega, ?_, by omega, fun q hq => ?_, by rw [hLX, hrt], by rw [hLX]; exact hF.nest, by rw [hLX, ← hXL]; exact hF.rngM, by rw [hLX, hGF2, ← hXL]; exact hF.calM, by rw [hGF2]; exact h400, by rw [hLX]; exact hcX, by rw [hLX, hGF2, hM2, hrt]⟩
 ·rw [hrt]; exact hF.runD.1.symm
 ·rw [hrt, gvx_gs, hGF2]
  obtain ⟨r1, r2, r3⟩ := hF.runD.2 q hq
  exact ⟨r1.symm, r2.symm, by show gsx FD q = (dfx (runL X).1 q).gs; rw [r3, trim_small (hj4 q (by omega))]⟩

end Go.Proofs.YtgpkpopbajkklaaGreatDoor
/- Walks: what the reference tells of a circuit text. -/
set_option linter.unusedSimpArgs false
set_option linter.unusedVariables false
namespace Go.Proofs.YtgpkpopbajkklaaGreatDoor
open Go Go.RowKit
namespace TybT
theorem Tcall_29 : callable Tryz.prog 29 = true := by kernel_rfl
end TybT
open TybT
set_option maxHeartbeats 1000000 in
set_option maxRecDepth 20000 in
theorem sCheckText_spec {s : Bs} {w : World} : Calls Tryz.prog 22 #[sv s] w (Post No w fun v _ => v = .tuple #[.int .i64 (rt s).1.1, .int .i64 (rt s).1.2]) := by
 refine enter (n := 17) (args := [sv s]) Tryz.func22 rfl rfl (St.empty _ _) ?_
 refine .sr ?_
 iterate 2 refine .m ?_
 refine .dsr ?_
 refine .w (sv s) ?_
 refine .step rfl (.c [sv s] Tcall_29 (fun w hs => l5Check_spec) ?_)
 rintro _ _ ⟨b, vt, vl, vd, L, G, T, rfl, rfl, hck⟩
 show Run _ _ (putF _ _ _ (.tuple #[.pointer (some ⟨b, 0, none⟩), vt, .int .i64 ((rt s).1.1), .int .i64 ((rt s).1.2)])) [.blk b 54 [vl, vd], .own vl 77 7 (L.length) (rls L), .grp 3 1 (rgr L), .own vd 22 1 (G.length) (gvs G), .grp 69 3 (ggr G), .own vt 50 4 (T.length) (dns T)]
 refine .w (.tuple #[.pointer (some ⟨b, 0, none⟩), vt, .int .i64 ((rt s).1.1), .int .i64 ((rt s).1.2)]) ?_
 refine .w (.pointer (some ⟨b, 0, none⟩)) ?_
 refine .w vt ?_
 refine .w (.int .i64 ((rt s).1.1)) ?_
 refine .w (.int .i64 ((rt s).1.2)) ?_
 refine .m ?_
 refine .w vt ?_
 iterate 2 refine .m ?_
 refine .dsr ?_
 iterate 4 refine .m ?_
 refine .done ?_
 refine .ret ?_
 refine ⟨.tuple #[.int .i64 ((rt s).1.1), .int .i64 ((rt s).1.2)], [], Out.two rfl rfl rfl, (Some'.weak (.nil _)), ?_⟩
 rfl

end Go.Proofs.YtgpkpopbajkklaaGreatDoor
/- Plain: how many gates are read of a circuit text. -/
set_option linter.unusedSimpArgs false
set_option linter.unusedVariables false
namespace Go.Proofs.YtgpkpopbajkklaaGreatDoor
open Go Go.RowKit
theorem rt_glen (s : Bs) : (rt s).2.2.1.length ≤ 401 := by
  unfold rt
  split
  · exact bkc_len _ _ _ _ rfl (by simp)
  · simp
end Go.Proofs.YtgpkpopbajkklaaGreatDoor
/- What the laws' rows lay in the world, in the words of the walks. -/
set_option linter.unusedSimpArgs false
set_option linter.unusedVariables false
namespace Go.Proofs.YtgpkpopbajkklaaGreatDoor
open Go Go.RowKit
theorem cells_of_strs {H : Type} {enc : TypeId × Value → H} {P : Program} {w : World} {base : Nat} {spare : Nat → Bool} {held : Bool} {fuel : Nat} {t e : TypeId} {n : Nat} {cs : List Value} {zs : List Bs} {p : List MemPlace}
    (ht : P.underlying t = some (.array n e)) (he : P.underlying e = some .string) (hce : P.cellsOf e = 1) (hct : P.cellsOf t = n)
    (h : DataW.trod enc P w base spare held fuel t cs = some (.agg (zs.map fun z => .lit (.string z)), p)) : cs = strs zs := by
  obtain ⟨xs, m, rfl, hx, hlen, hn, hel⟩ := DataW.trod_array ht h
  simp only [Prod.mk.injEq, DataW.agg.injEq] at hx
  have hzl : zs.length = n := by have := congrArg List.length hx.1; simpa [hn] using this
  refine List.ext_getElem (by rw [hlen, hct, strs_length, hzl]) fun i h1 h2 => ?_
  have hi : i < n := by rw [hlen, hct] at h1; exact h1
  have h3 := hel i hi
  rw [hce, Nat.mul_one, List.getElem?_eq_getElem (by omega)] at h3
  obtain ⟨s, e1, e2, _⟩ := DataW.trod_string he h3
  have e3 : cs[i] = .string s := by
    have : (cs.drop i).take 1 = [cs[i]] := by rw [List.drop_eq_getElem_cons h1]; rfl
    rw [this] at e1; simpa using e1
  have e4 := congrArg (fun l => l[i]?) hx.1
  simp only [List.getElem?_map, List.getElem?_eq_getElem (show i < xs.length by omega), List.getElem?_eq_getElem (show i < zs.length by omega), Option.map_some, Option.some.injEq] at e4
  rw [e2] at e4
  simp only [DataW.lit.injEq, Lit.string.injEq] at e4
  rw [e3, sv_of]
  simp only [strs, List.getElem_map]
  rw [e4]
theorem iface_of_trod {H : Type} {enc : TypeId × Value → H} {P : Program} {w : World} {base : Nat} {spare : Nat → Bool} {held : Bool} {fuel : Nat} {t : TypeId} {cs : List Value} {n : String} {d : DataW H} {p : List MemPlace} {ms : Array (String × TypeId)}
    (ht : P.underlying t = some (.interface ms)) (h : DataW.trod enc P w base spare held fuel t cs = some (.iface n d, p)) : ∃ u x, cs = [.iface u x] := by
  cases fuel with
  | zero => simp [DataW.trod] at h
  | succ m =>
    unfold DataW.trod at h
    rw [ht] at h
    simp only at h
    split at h
    all_goals first | exact ⟨_, _, rfl⟩ | (simp at h; done) | (simp_all; done) | skip
theorem laid_eq : Rows.fnExactCheckTextRow.laid = [("math/bits.deBruijn32tab", Rows.laid_math_bits_deBruijn32tab), ("math/bits.deBruijn64tab", Rows.laid_math_bits_deBruijn64tab), ("internal/strconv.uint64pow10", Rows.laid_internal_strconv_uint64pow10), ("unicode/utf8.acceptRanges", Rows.laid_unicode_utf8_acceptRanges), ("strconv.ErrRange", Rows.laid_strconv_ErrRange), ("strconv.ErrSyntax", Rows.laid_strconv_ErrSyntax), ("loop.example/g00864/impl.gateNames", Rows.laid_loop_example_g00864_impl_gateNames), ("unicode/utf8.first", Rows.laid_unicode_utf8_first)] := rfl
theorem gTab : Tryz.prog.globalNamed "internal/strconv.uint64pow10" = some 1 := by kernel_rfl
theorem gEs : Tryz.prog.globalNamed "strconv.ErrSyntax" = some 7 := by kernel_rfl
theorem gEr : Tryz.prog.globalNamed "strconv.ErrRange" = some 8 := by kernel_rfl
theorem gNm : Tryz.prog.globalNamed "loop.example/g00864/impl.gateNames" = some 0 := by kernel_rfl
theorem names_eq {H : Type} : (Rows.laid_loop_example_g00864_impl_gateNames : DataW H) = .agg (gnames.map fun z => .lit (.string z)) := rfl
theorem tab_eq {H : Type} : (Rows.laid_internal_strconv_uint64pow10 : DataW H) = Lib.tabData .u64 Lib.pow10Tab := rfl
theorem one_cell {W : World} {n : String} {g : Nat} {cs : Array Value} {v : Value} (hg : Tryz.prog.globalNamed n = some g) (hv : W.var? Tryz.prog n = some cs) (hc : cs.toList = [v]) : W.cell? ⟨g, 0, none⟩ = some v := by
  have := World.var?_cell hg hv 0
  rw [Array.eq_one_of_toList hc] at this
  simpa using this
theorem gl_of {W : World} (hl : laidMetH Tryz.prog Rows.fnExactCheckTextRow.laid W) (hs : W.ShapedOpen Tryz.prog) : Gl W := by
  rw [MakeChecks.laidMetH_plain _ _ _ (by kernel_rfl), laid_eq] at hl
  obtain ⟨ps, hV, _, _⟩ := hl
  obtain ⟨g0, t0, c0, f0, p0, q0, _, _, _, _, hV, _⟩ := hV
  obtain ⟨g1, t1, c1, f1, p1, q1, _, _, _, _, hV, _⟩ := hV
  obtain ⟨g2, t2, c2, f2, p2, q2, hg2, ht2, hv2, hd2, hV, _⟩ := hV
  obtain ⟨g3, t3, c3, f3, p3, q3, _, _, _, _, hV, _⟩ := hV
  obtain ⟨g4, t4, c4, f4, p4, q4, hg4, ht4, hv4, hd4, hV, _⟩ := hV
  obtain ⟨g5, t5, c5, f5, p5, q5, hg5, ht5, hv5, hd5, hV, _⟩ := hV
  obtain ⟨g6, t6, c6, f6, p6, q6, hg6, ht6, hv6, hd6, _, _⟩ := hV
  obtain rfl := Option.some.inj (gTab.symm.trans hg2)
  obtain rfl := Option.some.inj (gEr.symm.trans hg4)
  obtain rfl := Option.some.inj (gEs.symm.trans hg5)
  obtain rfl := Option.some.inj (gNm.symm.trans hg6)
  obtain rfl := Option.some.inj ((show (Tryz.prog.globals[1]?).map (·.type) = some 145 by kernel_rfl).symm.trans ht2)
  obtain rfl := Option.some.inj ((show (Tryz.prog.globals[8]?).map (·.type) = some 155 by kernel_rfl).symm.trans ht4)
  obtain rfl := Option.some.inj ((show (Tryz.prog.globals[7]?).map (·.type) = some 155 by kernel_rfl).symm.trans ht5)
  obtain rfl := Option.some.inj ((show (Tryz.prog.globals[0]?).map (·.type) = some 125 by kernel_rfl).symm.trans ht6)
  refine ⟨?_, ?_, ?_, Tryz.laysM146.s1_3 W hs, ?_⟩
  · rw [tab_eq] at hd2
    unfold Lib.TabIs
    rw [hv2, ← Lib.cells_of_tab Tryz.underlying145 Tryz.underlying71 (by kernel_rfl) (by kernel_rfl) hd2]
  · obtain ⟨u, x, hc⟩ := iface_of_trod Tryz.underlying155 hd5
    exact ⟨u, x, one_cell gEs hv5 hc⟩
  · obtain ⟨u, x, hc⟩ := iface_of_trod Tryz.underlying155 hd4
    exact ⟨u, x, one_cell gEr hv4 hc⟩
  · rw [names_eq] at hd6
    have hc := cells_of_strs Tryz.underlying125 Tryz.underlying9 (by kernel_rfl) (by kernel_rfl) hd6
    have hcell : ∀ (j : Nat) u, (strs gnames)[j]? = some u → W.cell? ⟨0, j, none⟩ = some u := fun j u hj => by
      have := World.var?_cell gNm hv6 j
      rw [this, ← hj, ← hc, Array.getElem?_toList]
    exact ⟨rfl, _, _, rfl, by decide, by decide, fun _ => ⟨_, 0, rfl, Lib.lt_of_cell (hcell 0 _ rfl), fun j u hj => by rw [Nat.zero_add]; exact hcell j u hj⟩⟩
/-- The kit's wrap with a condition on the world, the world's shape kept. -/
theorem rih_and_shaped {H : Type} {enc : TypeId × Value → H} {a : Assume} {C : Checked} {os : Os} {f : FuncId} {fn : Func} {s : ChangeSpec} {conds : List PathCond} {apart fresh handsOn again : Bool} {X : World → Array Value → Prop}
    (hX : ∀ (w w' : World) (args : Array Value), w.heap = w'.heap → X w args → X w' args)
    (own : ownKnob C.prog.godebug = none) (started : os.Started) (noInit : C.prog.inits.idxOf? f = none) (hfn : C.prog.funcs[f]? = some fn)
    (witness : ∃ (w : World) (tape : Tape) (i : Input), w.os = os ∧ (w.forCall tape i).Shaped C.prog ∧ i.vars = [] ∧ Input.okWide C.prog (w.forCall tape i) .any w.heap.size f i ∧
      ((s.pre enc C.prog fn conds apart (w.forCall tape i).memory i.args ∧ X (w.forCall tape i).memory i.args) ∧ sizedMet enc C.prog fn (OpenSpec.ofChange s) apart (w.forCall tape i).memory i.args) ∧ a.holds C.prog (lone (Frame.enter C.prog f i.args .normal) [] (w.forCall tape i)))
    (contract : ∀ (W : World) (base : Nat) (args : Array Value) (ds gs : List (DataW H)) (before : List MemPlace),
      (∀ (j : Nat) t v, fn.params[j]? = some t → args[j]? = some v → Value.okWide C.prog W .any base t v) →
      DataW.Whole enc C.prog fn.params.toList s.vars apart W args.toList ds gs before → X W args → W.ShapedOpen C.prog →
      Calls C.prog f args W fun e W' => ∃ v, e = .returned v ∧ s.post enc C.prog fn apart fresh handsOn again W args v W') :
    ReturnsInHanded a C os f .any (fun w args => (s.pre enc C.prog fn conds apart w args ∧ X w args) ∧ sizedMet enc C.prog fn (OpenSpec.ofChange s) apart w args) (s.post enc C.prog fn apart fresh handsOn again) := by
  refine returnsInHanded_of_calls own started noInit witness ?_
  intro w tape i _ hsh _ hok hpre hholds
  obtain ⟨_, _, _, fn', hfn', _, _, _, _, hval⟩ := hok
  have e : fn' = fn := Option.some.inj (hfn'.symm.trans hfn)
  subst e
  obtain ⟨⟨⟨ds, gs, before, hw, hc⟩, hx⟩, hz⟩ := hpre
  have hw' := DataW.Whole.of_heap (w' := w.forCall tape i) (by rfl) hw
  refine (contract (w.forCall tape i) w.heap.size i.args ds gs before hval hw' (hX _ _ _ (by rfl) hx) hsh).mono fun e W' ⟨v, he, hp⟩ => ?_
  subst he
  exact ChangeSpec.post_blind hp

end Go.Proofs.YtgpkpopbajkklaaGreatDoor
/- Plain: bytes to strings, stores of strings, the laws' marks in slices of strings. -/
set_option linter.unusedSimpArgs false
set_option linter.unusedVariables false
namespace Go.Proofs.YtgpkpopbajkklaaGreatDoor
open Go Go.RowKit
/-- The byte of a number. -/
def chr (i : Int) : UInt8 := UInt8.ofNat i.toNat
def bytesT (P : Program) (t : TypeId) : Bool := match P.underlying t with
  | some (.slice e) => (match P.underlying e with
    | some (.int .u8) => true
    | _ => false)
  | _ => false
theorem OpY.bytesS {E : Env} {f : Fr} {H : List Res} {d : Option Tmp} {ty : TypeId} {pos : String} {after : Array Edge} {gd : Option (Nat × Bool)} {s t : TypeId} {x : Operand} {b o n c : Nat} {xs : List Int} (hs : bytesT E.P s = true) (ht : strT E.P t = true) (hx : f.eval x = .slice (some ⟨b, o, none⟩) n c) (hl : xs.length = n) (hc : Cells E H b o (xs.map (Value.int .u8))) :
    OpY E ⟨d, .convert s t x, ty, pos, after, gd⟩ f H (sv (xs.map chr)) := by
  intro w hw
  unfold bytesT at hs
  split at hs
  · rename_i e hu
    split at hs
    · rename_i hu2
      have h1 := run_convert_bytes_arg (P := E.P) w s e hu hu2 b o n c xs hl (fun i hi => by
        have h2 := hc w hw i (.int .u8 (xs.getD i 0)) (by simp [List.getD, show i < xs.length by omega])
        exact h2) t (strT_spec ht)
      simp only [execOp, hx, h1, Sem.run_bind, Result.andThen_ok, Sem.run_pure]
      rfl
    · cases hs
  · cases hs
theorem OpY.quoN {E : Env} {f : Fr} {H : List Res} {d : Option Tmp} {ty : TypeId} {pos : String} {after : Array Edge} {gd : Option (Nat × Bool)} {t t' : TypeId} {x y : Operand} {k : Nat} (hx : f.eval x = .int .i64 ((k : Nat) : Int)) (hy : f.eval y = .int .i64 10) (h : k ≤ 9223372036854775807) :
    OpY E ⟨d, .binOp .quo t x y t', ty, pos, after, gd⟩ f H (.int .i64 ((k / 10 : Nat) : Int)) := by
  have h1 := OpY.quo (E := E) (H := H) (d := d) (ty := ty) (pos := pos) (after := after) (gd := gd) (t := t) (t' := t') hx hy (by omega) (by omega) (by omega)
  rwa [show ((k : Nat) : Int) / 10 = ((k / 10 : Nat) : Int) by omega] at h1

end Go.Proofs.YtgpkpopbajkklaaGreatDoor
/- Plain: the texts of numbers, gates and circuits. -/
set_option linter.unusedSimpArgs false
set_option linter.unusedVariables false
namespace Go.Proofs.YtgpkpopbajkklaaGreatDoor
open Go Go.RowKit
/-- A number of one or two digits. -/
def nd (n : Nat) : Bs := if n < 10 then [chr (48 + ((n : Nat) : Int))] else [chr (48 + ((n / 10 : Nat) : Int))] ++ [chr (48 + ((n % 10 : Nat) : Int))]
theorem nd_lt {n : Nat} (h : n < 10) : nd n = [chr (48 + ((n : Nat) : Int))] := if_pos h
theorem nd_ge {n : Nat} (h : ¬ n < 10) : nd n = [chr (48 + ((n / 10 : Nat) : Int))] ++ [chr (48 + ((n % 10 : Nat) : Int))] := if_neg h
theorem nd_len (n : Nat) : (nd n).length ≤ 2 := by unfold nd; split <;> simp
theorem chr_nat (k : Nat) : chr (48 + ((k : Nat) : Int)) = UInt8.ofNat (48 + k) := by
  unfold chr; congr 1
theorem itoa_nd {n : Nat} (h : n < 100) : Lib.itoa (n : Int) = nd n := by
  rw [itoa_of]
  by_cases h1 : n < 10
  · rw [nd_lt h1, dec1 h1, chr_nat]
  · rw [nd_ge h1, dec2 (by omega) h, chr_nat, chr_nat]; rfl
theorem Itoa_nd {a : Int} {w : World} (hg : Gl w) (h0 : 0 ≤ a) (h1 : a < 100) : Calls Tryz.prog 36 #[.int .i64 a] w (Post No w fun v _ => v = sv (nd a.toNat)) := by
  have h := Itoa_spec (n := a) (w := w) hg (by omega) (by omega)
  rw [show Lib.itoa a = nd a.toNat by have := itoa_nd (n := a.toNat) (by omega); rwa [show ((a.toNat : Nat) : Int) = a by omega] at this] at h
  exact h
/-- The text of a gate. -/
def gtx (g : G3) : Bs :=
  if g.1 = 12 then stx gnames g.1.toNat
  else if 9 ≤ g.1 ∧ g.1 ≤ 11 then (stx gnames g.1.toNat ++ ([32] ++ nd g.2.1.toNat)) ++ ([32] ++ nd g.2.2.toNat)
  else stx gnames g.1.toNat ++ ([32] ++ nd g.2.1.toNat)
theorem gtx_a {k a b : Int} (h : k = 12) : gtx (k, a, b) = stx gnames k.toNat := if_pos h
theorem gtx_b {k a b : Int} (h : ¬ k = 12) (h2 : ¬ (9 ≤ k ∧ k ≤ 11)) : gtx (k, a, b) = stx gnames k.toNat ++ ([32] ++ nd a.toNat) := by rw [gtx, if_neg h, if_neg h2]
theorem gtx_c {k a b : Int} (h : ¬ k = 12) (h2 : 9 ≤ k ∧ k ≤ 11) : gtx (k, a, b) = (stx gnames k.toNat ++ ([32] ++ nd a.toNat)) ++ ([32] ++ nd b.toNat) := by rw [gtx, if_neg h, if_pos h2]
theorem gtx_len (g : G3) : (gtx g).length ≤ 10 := by
  have h1 := @gnames_size g.1.toNat
  have h2 := nd_len g.2.1.toNat
  have h3 := nd_len g.2.2.toNat
  unfold gtx
  split
  · omega
  · split <;> simp only [List.length_append, List.length_cons, List.length_nil] <;> omega
/-- The lines of gates. -/
def gls (L : List G3) : Bs := L.flatMap fun g => gtx g ++ [10]
theorem gls_cons (g : G3) (L : List G3) : gls (g :: L) = (gtx g ++ [10]) ++ gls L := by simp [gls]
theorem gls_append (L M : List G3) : gls (L ++ M) = gls L ++ gls M := by simp [gls]
theorem gls_one (g : G3) : gls [g] = gtx g ++ [10] := by simp [gls]
theorem gls_take {L : List G3} {k : Nat} {g : G3} (h : k < L.length) (hg : gx L k = g) : gls (L.take (k + 1)) = gls (L.take k) ++ (gtx g ++ [10]) := by
  rw [take_gx h, gls_append, gls_one, hg]
theorem gls_len : ∀ L : List G3, (gls L).length ≤ L.length * 11
  | [] => by simp [gls]
  | g :: L => by
    have h1 := gls_len L
    have h2 := gtx_len g
    rw [gls_cons]
    simp only [List.length_append, List.length_cons, List.length_nil]; omega
def wQs : Bs := [113, 117, 98, 105, 116, 115, 32]
def wRs : Bs := [114, 101, 112, 101, 97, 116, 32]
/-- The head of a circuit's text, and the whole. -/
def hdT (N : Int) : Bs := (wQs ++ nd N.toNat) ++ [10]
def cfm (N : Int) (L : List G3) : Bs := hdT N ++ gls L
theorem hdT_len (N : Int) : (hdT N).length ≤ 10 := by
  have := nd_len N.toNat
  simp only [hdT, wQs, List.length_append, List.length_cons, List.length_nil]; omega
/-- Gates on at most five qubits. -/
theorem gateOk_five {n k a b : Int} (h : gateOk n k a b = true) (hn : n ≤ 5) : gateOk 5 k a b = true := by
  have h1 := gateOk_split h
  unfold gateOk; rw [decide_eq_true_iff]; omega
theorem circ_gs {N : Int} {L : List G3} {n : Nat} (hn : L.length = n) (h : circOk N (fl L) n = true) : GsOk N L := by
  intro g hg
  obtain ⟨k, hk, rfl⟩ := List.getElem_of_mem hg
  have h1 := circOk_gate h (i := k) (by omega)
  have h2 := fl_ix hk
  have h3 : gx L k = L[k] := by simp [gx, List.getD, hk]
  rw [gateAt, h2.1, h2.2.1, h2.2.2, h3] at h1
  exact h1
theorem GsOk.five {N : Int} {L : List G3} (h : GsOk N L) (hN : N ≤ 5) : GsOk 5 L := fun g hg => gateOk_five (h g hg) hN
theorem GsOk.take {N : Int} {L : List G3} (h : GsOk N L) (k : Nat) : GsOk N (L.take k) := fun g hg => h g (List.mem_of_mem_take hg)
theorem GsOk.drop {N : Int} {L : List G3} (h : GsOk N L) (k : Nat) : GsOk N (L.drop k) := fun g hg => h g (List.mem_of_mem_drop hg)
/-- What FormatCircuit hands back. -/
def fmtO (N : Int) (L : List G3) (n : Nat) : Bs := if circOk N (fl L) n = true then cfm N L else []
theorem fmt_yes {N : Int} {L : List G3} {n : Nat} (h : circOk N (fl L) n = true) : fmtO N L n = cfm N L := if_pos h
theorem fmt_no {N : Int} {L : List G3} {n : Nat} (h : circOk N (fl L) n = false) : fmtO N L n = [] := if_neg (by rw [h]; decide)
theorem within_dec (a b c : Int) : within a b c = decide (b ≤ a ∧ a ≤ c) := by rw [within, Bool.decide_and]

end Go.Proofs.YtgpkpopbajkklaaGreatDoor
