/- Plain: the program and the reference go through a circuit text. -/
import Derived.Test.YtgpkpopbajkklaaGreatDoorJ13
import Derived.Test.YtgpkpopbajkklaaGreatDoorProg
set_option linter.unusedSimpArgs false
set_option linter.unusedVariables false
namespace Go.Proofs.YtgpkpopbajkklaaGreatDoor
open Go Go.RowKit
/-- The definitions that the program has noted. -/
def DOf (X : List Li) (ps : List (Nat × Nat)) (j : Nat) (D : List Df) : Prop := D.length = j ∧ ∀ q, q < j → (dfx D q).nm = (liAt X (ps.getD q (0, 0)).1).nm ∧ (dfx D q).n = (liAt X (ps.getD q (0, 0)).1).num
theorem fdJ_of {X : List Li} {ps : List (Nat × Nat)} {j : Nat} {D : List Df} (h : DOf X ps j D) (nm : Bs) : fdJ D j nm = findI (fun q => (liAt X (ps.getD q (0, 0)).1).nm == nm) j :=
  findI_cut (Nat.le_refl _) (fun i hi => by simp only [(h.2 i hi).1]) (fun i h1 h2 => by omega)
theorem blk_body {X : List Li} {ps : List (Nat × Nat)} {k j : Nat} {D : List Df} (ho : Ord k ps) (hj : j < ps.length) (hD : DOf X ps j D) : BlkOk X (tt X ps) D j (liAt X (ps.getD j (0, 0)).1).num ((ps.getD j (0, 0)).1 + 1) (ps.getD j (0, 0)).2 where
  wid i h1 h2 := widR_body ho hj (by omega) h2
  fin i h1 h2 nm := by rw [fdJ_of hD, finR_lies (body_lies ho hj (by omega) (by omega))]
  num q hq := by rw [dnx_tt (by omega)]; exact (hD.2 q hq).2
theorem blk_main {X : List Li} {ps : List (Nat × Nat)} {m : Nat} {D : List Df} (hm : ∀ q, q < ps.length → (ps.getD q (0, 0)).2 < m) (hD : DOf X ps ps.length D) : BlkOk X (tt X ps) D ps.length (liAt X 0).num m X.length where
  wid i h1 h2 := widR_main fun q hq => by have := hm q hq; omega
  fin i h1 h2 nm := by rw [fdJ_of hD, finR_lies (main_lies fun q hq => by have := hm q hq; omega)]
  num q hq := by rw [dnx_tt hq]; exact (hD.2 q hq).2
theorem def_step {X : List Li} {ps : List (Nat × Nat)} {k j : Nat} {D : List Df} (ho : Ord k ps) (hj : j < ps.length) (hD : DOf X ps j D) (hw : (liAt X (ps.getD j (0, 0)).1).word = wD) (p : Int × Int) :
    twiceP D (liAt X (ps.getD j (0, 0)).1).nm (((ps.getD j (0, 0)).1 : Nat) : Int) p = stepP (tt X ps) X (ps.getD j (0, 0)).1 p := by
  have hd : anyI (dupN (tt X ps) (liAt X (ps.getD j (0, 0)).1).nm (((ps.getD j (0, 0)).1 : Nat) : Int)) (tt X ps).length = anyI (fun q => (liAt X (ps.getD q (0, 0)).1).nm == (liAt X (ps.getD j (0, 0)).1).nm) j := by
    rw [tt_length]
    refine anyI_cut (by omega) (fun q hq => ?_) (fun q h1 h2 => ?_)
    · have := ho.at_ hq hj
      rw [dupN, dnx_tt (by omega)]
      simp only [decide_eq_true (show (((ps.getD q (0, 0)).1 : Nat) : Int) + 1 ≤ (((ps.getD j (0, 0)).1 : Nat) : Int) by omega), Bool.and_true]
    · rw [dupN, dnx_tt h2]
      have : (ps.getD j (0, 0)).1 ≤ (ps.getD q (0, 0)).1 := by
        rcases Nat.eq_or_lt_of_le h1 with e | e
        · subst e; exact Nat.le_refl _
        · have := ho.at_ e h2; omega
      simp only [decide_eq_false (show ¬ (((ps.getD q (0, 0)).1 : Nat) : Int) + 1 ≤ (((ps.getD j (0, 0)).1 : Nat) : Int) by omega), Bool.and_false]
  have hN : evN (tt X ps) (liAt X (ps.getD j (0, 0)).1) (((ps.getD j (0, 0)).1 : Nat) : Int) = anyI (fun q => (liAt X (ps.getD q (0, 0)).1).nm == (liAt X (ps.getD j (0, 0)).1).nm) j := by
    rw [evN, hd, beq_iff_eq.2 hw, beq_eq_false_iff_ne.2 (show (liAt X (ps.getD j (0, 0)).1).word ≠ wC by rw [hw]; decide), Bool.true_and, Bool.false_and, Bool.or_false]
  have hG : evG (tt X ps) X (liAt X (ps.getD j (0, 0)).1) (((ps.getD j (0, 0)).1 : Nat) : Int) = false := evG_no (by rw [hw]; decide) (by rw [hw]; decide)
  rw [twiceP, stepP, hN, hG, hD.1, fdJ_of hD]
  by_cases h : 0 ≤ findI (fun q => (liAt X (ps.getD q (0, 0)).1).nm == (liAt X (ps.getD j (0, 0)).1).nm) j
  · rw [if_pos h, if_pos (findI_nonneg.1 h)]
  · rw [if_neg h, if_neg (fun e => h (findI_nonneg.2 e)), if_neg (by decide)]
/-- The line behind the definitions. -/
def mst : Nat → List (Nat × Nat) → Nat
  | k, [] => k
  | _, p :: ps => mst (p.2 + 1) ps
theorem trim_map (f : G3 → G3) (L : List G3) : trim (L.map f) = (trim L).map f := by unfold trim; rw [List.map_take]
/-- No line of some is at fault. -/
def NoEv (T : List Dn) (X : List Li) (a b : Nat) : Prop := ∀ i, a ≤ i → i < b → evN T (liAt X i) ((i : Nat) : Int) = false ∧ evG T X (liAt X i) ((i : Nat) : Int) = false
theorem fin_ok {X : List Li} {T : List Dn} {i : Nat} (h : evN T (liAt X i) ((i : Nat) : Int) = false) (hw : (liAt X i).word = wC) : 0 ≤ finR T (liAt X i).nm ((i : Nat) : Int) := by
  rw [evN, beq_iff_eq.2 hw, beq_eq_false_iff_ne.2 (show (liAt X i).word ≠ wD by rw [hw]; decide), Bool.true_and, Bool.false_and, Bool.false_or, decide_eq_false_iff_not] at h
  omega
theorem drop_cons {ps : List (Nat × Nat)} {j : Nat} {p : Nat × Nat} {qs : List (Nat × Nat)} (h : ps.drop j = p :: qs) : j < ps.length ∧ ps.getD j (0, 0) = p ∧ ps.drop (j + 1) = qs := by
  have hj : j < ps.length := by
    by_cases hj : j < ps.length
    · exact hj
    · rw [List.drop_eq_nil_iff.2 (by omega)] at h; cases h
  rw [List.drop_eq_getElem_cons hj] at h
  injection h with h1 h2
  exact ⟨hj, by rw [← h1]; simp [List.getD, hj], h2⟩
theorem DOf.snoc {X : List Li} {ps : List (Nat × Nat)} {j : Nat} {D : List Df} (h : DOf X ps j D) (gs : List G3) : DOf X ps (j + 1) (D ++ [⟨(liAt X (ps.getD j (0, 0)).1).nm, (liAt X (ps.getD j (0, 0)).1).num, gs⟩]) := by
  refine ⟨by rw [List.length_append, h.1]; rfl, fun q hq => ?_⟩
  by_cases hq2 : q < j
  · have e : dfx (D ++ [⟨(liAt X (ps.getD j (0, 0)).1).nm, (liAt X (ps.getD j (0, 0)).1).num, gs⟩]) q = dfx D q := by simp [dfx, List.getD, List.getElem?_append_left (show q < D.length by rw [h.1]; exact hq2)]
    rw [e]; exact h.2 q hq2
  · have hqj : q = j := by omega
    subst hqj
    have e : dfx (D ++ [⟨(liAt X (ps.getD q (0, 0)).1).nm, (liAt X (ps.getD q (0, 0)).1).num, gs⟩]) q = ⟨(liAt X (ps.getD q (0, 0)).1).nm, (liAt X (ps.getD q (0, 0)).1).num, gs⟩ := by
      have := h.1; subst this; simp [dfx, List.getD]
    rw [e]; exact ⟨rfl, rfl⟩
/-- The gates of the definitions. -/
def FdOk (X : List Li) (ps : List (Nat × Nat)) (FD : List (List G3)) (a b : Nat) : Prop := ∀ q, a ≤ q → q < b → Seg X (fun i => callG (tt X ps) FD (liAt X i) ((i : Nat) : Int)) ((ps.getD q (0, 0)).1 + 1) (ps.getD q (0, 0)).2 (gsx FD q)
theorem rn_prog {X : List Li} {ps0 : List (Nat × Nat)} (hX : CallsOk X) (ho : Ord 1 ps0) {k : Nat} {ps : List (Nat × Nat)} (h : Prog X k ps) : ∀ (j : Nat) (D : List Df), ps0.drop j = ps → j ≤ ps0.length → DOf X ps0 j D → (∀ q, q < j → (ps0.getD q (0, 0)).2 < k) →
    ∃ D', rnc X k (pq (tt X ps0) X k) D = (D', mst k ps, pq (tt X ps0) X (mst k ps)) ∧ DOf X ps0 ps0.length D' ∧ k ≤ mst k ps ∧ mst k ps ≤ X.length ∧ SegE X (mst k ps) X.length ∧ (∀ q, q < ps0.length → (ps0.getD q (0, 0)).2 < mst k ps) ∧
      (NoEv (tt X ps0) X k (mst k ps) → ∀ FD, FdOk X ps0 FD j ps0.length → (∀ q, q < j → (dfx D q).gs = trim (gsx FD q)) → ∀ q, q < ps0.length → (dfx D' q).gs = trim (gsx FD q)) := by
  induction h with
  | @main k hk hwD h =>
    intro j D hj hjl hD he
    have hj2 : j = ps0.length := by
      have := congrArg List.length hj; rw [List.length_drop] at this; simp at this; omega
    subst hj2
    exact ⟨D, rnc_end (fun hc => hwD hc.2), hD, Nat.le_refl _, hk, h, he, fun _ FD _ hg => hg⟩
  | @dfn k e ps hk hs he hel h ih =>
    intro j D hj hjl hD hlt
    obtain ⟨hj1, hj2, hj3⟩ := drop_cons hj
    have hkl := liAt_lt (X := X) (k := k) (by rw [hk]; decide)
    have hp1 : (ps0.getD j (0, 0)).1 = k := by rw [hj2]
    have hp2 : (ps0.getD j (0, 0)).2 = e := by rw [hj2]
    have hstep := def_step ho hj1 hD (by rw [hp1]; exact hk) (pq (tt X ps0) X k)
    have hblk := blk_body ho hj1 hD
    rw [hp1] at hstep hblk
    rw [hp2] at hblk
    have hpk : pq (tt X ps0) X (k + 1) = twiceP D (liAt X k).nm ((k : Nat) : Int) (pq (tt X ps0) X k) := hstep.symm
    have hpe : pq (tt X ps0) X (e + 1) = pq (tt X ps0) X e := stepP_no (by rw [he]; decide) (by rw [he]; decide) (by rw [he]; decide)
    obtain ⟨L0, hL0⟩ := hs (fun i => [])
    have hle := hL0.le
    obtain ⟨out', e1, _⟩ := bk_seg hX hL0 hblk []
    have hbk : bkc X D D.length (liAt X k).num (k + 1) (twiceP D (liAt X k).nm ((k : Nat) : Int) (pq (tt X ps0) X k)) [] = (out', e + 1, pq (tt X ps0) X (e + 1)) := by
      rw [← hpk, hD.1, e1, bkc_eq hel, if_pos he, hpe]
    have hD2 := hD.snoc out'
    rw [hp1] at hD2
    obtain ⟨D', g1, g2, g3, g4, g5, g6, g7⟩ := ih (j + 1) _ hj3 (by omega) hD2 (fun q hq => by
      rcases Nat.lt_succ_iff_lt_or_eq.1 hq with hq | hq
      · have := ho.at_ hq hj1; omega
      · rw [hq, hp2]; omega)
    refine ⟨D', ?_, g2, ?_, g4, g5, g6, ?_⟩
    · rw [rnc_eq hkl hk, hbk]; exact g1
    · show k ≤ mst (e + 1) ps; omega
    · intro hev FD hFD hgs
      have hev1 : NoEv (tt X ps0) X (k + 1) e := fun i h1 h2 => hev i (by omega) (by show i < mst (e + 1) ps; omega)
      have hseg := hFD j (Nat.le_refl _) hj1
      rw [hp1, hp2] at hseg
      obtain ⟨out2, f1, f2⟩ := bk_seg hX hseg hblk []
      have hoo : out2 = out' := by
        rw [e1, bkc_eq hel, if_pos he, bkc_eq hel, if_pos he] at f1
        injection f1 with f1; exact f1.symm
      have hout : out' = trim (gsx FD j) := by
        rw [← hoo]
        have := f2 hev1 (fun i h1 h2 hw => ?_) [] (by simp [trim])
        · rw [this, List.nil_append]
        · have hF0 := fin_ok (hev1 i h1 h2).1 hw
          have hF1 : finR (tt X ps0) (liAt X i).nm ((i : Nat) : Int) < (j : Int) := by rw [← hblk.fin i h1 h2]; exact fdJ_lt
          rw [callG, trim_map, hgs _ (by omega)]
      refine g7 (fun i h1 h2 => hev i (by omega) h2) FD (fun q h1 h2 => hFD q (by omega) h2) (fun q hq => ?_)
      by_cases hq2 : q < j
      · have e2 : dfx (D ++ [⟨(liAt X k).nm, (liAt X k).num, out'⟩]) q = dfx D q := by simp [dfx, List.getD, List.getElem?_append_left (show q < D.length by rw [hD.1]; exact hq2)]
        rw [e2]; exact hgs q hq2
      · have hqj : q = j := by omega
        have e2 : dfx (D ++ [⟨(liAt X k).nm, (liAt X k).num, out'⟩]) q = ⟨(liAt X k).nm, (liAt X k).num, out'⟩ := by
          have := hD.1; rw [hqj, ← this]; simp [dfx, List.getD]
        rw [e2, hqj]; exact hout
/-! ### The reference's expansion -/
/-- A list of gates up to its 400th, or more than 400. -/
def Tr (o f : List G3) : Prop := (f.length ≤ 400 → o = f) ∧ (400 < f.length → 400 < o.length)
theorem Tr.refl (L : List G3) : Tr L L := ⟨fun _ => rfl, id⟩
theorem Tr.of_le {o f : List G3} (h : Tr o f) (ho : o.length ≤ 400) : o = f := by
  by_cases hf : f.length ≤ 400
  · exact h.1 hf
  · have := h.2 (by omega); omega
theorem Tr.more {o f : List G3} (h : Tr o f) (ho : ¬ o.length ≤ 400) (L : List G3) : Tr o (f ++ L) := by
  refine ⟨fun hl => ?_, fun _ => by omega⟩
  rw [List.length_append] at hl
  have := h.1 (by omega)
  rw [this] at ho; omega
theorem Tr.app {o f p g : List G3} (h : Tr o f) (ho : o.length ≤ 400) (h' : Tr p g) : Tr (o ++ p) (f ++ g) := by
  have := h.of_le ho
  subst this
  refine ⟨fun hl => ?_, fun hl => ?_⟩
  · rw [List.length_append] at hl
    rw [h'.1 (by omega)]
  · rw [List.length_append] at hl ⊢
    by_cases hg : g.length ≤ 400
    · rw [h'.1 hg]; exact hl
    · have := h'.2 (by omega); omega
theorem repR_tr {p B : List G3} (hp : Tr p B) : ∀ (m : Nat) (o f : List G3), Tr o f → Tr (repR p m o) (f ++ repF B m)
  | 0, o, f, h => by rw [repR]; simpa [repF] using h
  | m + 1, o, f, h => by
    rw [repR]
    split
    · rename_i ho
      have := repR_tr hp m _ _ (h.app ho hp)
      rwa [List.append_assoc, ← repF_succ] at this
    · rename_i ho; exact h.more ho _
theorem ex_seg {X : List Li} {cf : Nat → List G3} {T : List Dn} {M : List (List G3)} {a b : Nat} {L : List G3} (h : Seg X cf a b L) : (∀ i, a ≤ i → i < b → (liAt X i).word = wC → callG T M (liAt X i) ((i : Nat) : Int) = cf i) → ∀ (last : Nat) (o f : List G3), b ≤ last → last ≤ X.length → Tr o f →
    ∃ o', exc X T M a last o = exc X T M b last o' ∧ Tr o' (f ++ L) := by
  induction h with
  | nil a => intro _ last o f _ _ h; exact ⟨o, rfl, by rwa [List.append_nil]⟩
  | @gate a b L h hs ih =>
    intro hc last o f hb hl ht
    have hle := hs.le
    by_cases ho : o.length ≤ 400
    · obtain ⟨o', e1, e2⟩ := ih (fun i h1 h2 => hc i (by omega) h2) last (o ++ [(liAt X a).g3]) (f ++ [(liAt X a).g3]) hb hl (ht.app ho (Tr.refl _))
      refine ⟨o', ?_, by rwa [List.append_assoc] at e2⟩
      rw [exc_eq hl (by omega) ho, if_pos h]; exact e1
    · exact ⟨o, by rw [exc_end (fun hc => ho hc.2), exc_end (fun hc => ho hc.2)], ht.more ho _⟩
  | @call a b L h hs ih =>
    intro hc last o f hb hl ht
    have hle := hs.le
    by_cases ho : o.length ≤ 400
    · obtain ⟨o', e1, e2⟩ := ih (fun i h1 h2 => hc i (by omega) h2) last (o ++ cf a) (f ++ cf a) hb hl (ht.app ho (Tr.refl _))
      refine ⟨o', ?_, by rwa [List.append_assoc] at e2⟩
      rw [exc_eq hl (by omega) ho, if_neg (by rw [h]; decide), if_pos h, hc a (Nat.le_refl _) (by omega) h]; exact e1
    · exact ⟨o, by rw [exc_end (fun hc => ho hc.2), exc_end (fun hc => ho hc.2)], ht.more ho _⟩
  | @rep a e b B L h hbS he hel hs ih1 ih2 =>
    intro hc last o f hb hl ht
    have hle := hs.le
    have hle1 := hbS.le
    by_cases ho : o.length ≤ 400
    · obtain ⟨p, f1, f2⟩ := ih1 (fun i h1 h2 => hc i (by omega) (by omega)) e [] [] (Nat.le_refl _) (by omega) (Tr.refl _)
      rw [exc_end (show ¬ (e < e ∧ p.length ≤ 400) by omega)] at f1
      rw [List.nil_append] at f2
      have hend : endX X a = e := endX_blk (.inl h) hbS he hel
      obtain ⟨o', e1, e2⟩ := ih2 (fun i h1 h2 => hc i (by omega) h2) last (repR p (liAt X a).num.toNat o) (f ++ repF B (liAt X a).num.toNat) hb hl (repR_tr f2 _ _ _ ht)
      refine ⟨o', ?_, by rwa [List.append_assoc] at e2⟩
      rw [exc_eq hl (by omega) ho, if_neg (by rw [h]; decide), if_neg (by rw [h]; decide), if_pos h, hend, f1]; exact e1
    · exact ⟨o, by rw [exc_end (fun hc => ho hc.2), exc_end (fun hc => ho hc.2)], ht.more ho _⟩
theorem ex_prog {X : List Li} {T : List Dn} {M : List (List G3)} {k : Nat} {ps : List (Nat × Nat)} (h : Prog X k ps) : exc X T M k X.length [] = exc X T M (mst k ps) X.length [] := by
  induction h with
  | main hk hD h => rfl
  | @dfn k e ps hk hs he hel h ih =>
    obtain ⟨L, hL⟩ := hs (fun _ => [])
    have hkl := liAt_lt (X := X) (k := k) (by rw [hk]; decide)
    rw [exc_eq (Nat.le_refl _) hkl (by simp), if_neg (by rw [hk]; decide), if_neg (by rw [hk]; decide), if_neg (by rw [hk]; decide), if_pos hk, endX_blk (.inr hk) hL he hel, ih]
    rfl

end Go.Proofs.YtgpkpopbajkklaaGreatDoor
/- Plain: what the program and the reference find in a circuit text. -/
set_option linter.unusedSimpArgs false
set_option linter.unusedVariables false
namespace Go.Proofs.YtgpkpopbajkklaaGreatDoor
open Go Go.RowKit
theorem anyI_neg {p : Nat → Bool} {n : Nat} (h : findI p n + 1 = 0) : ∀ i, i < n → p i = false := by
  intro i hi
  cases hp : p i with
  | false => rfl
  | true => have := findI_nonneg.2 (anyI_true hi hp); omega
/-- The fault that the program tells: names first, then gates. -/
theorem pq_eq (T : List Dn) (X : List Li) : ∀ k,
    (anyI (fun i => evN T (liAt X i) ((i : Nat) : Int)) k = true → pq T X k = (4, findI (fun i => evN T (liAt X i) ((i : Nat) : Int)) k + 1)) ∧
    (anyI (fun i => evN T (liAt X i) ((i : Nat) : Int)) k = false → anyI (fun i => evG T X (liAt X i) ((i : Nat) : Int)) k = true → pq T X k = (5, findI (fun i => evG T X (liAt X i) ((i : Nat) : Int)) k + 1)) ∧
    (anyI (fun i => evN T (liAt X i) ((i : Nat) : Int)) k = false → anyI (fun i => evG T X (liAt X i) ((i : Nat) : Int)) k = false → pq T X k = (0, 0))
  | 0 => ⟨fun h => by simp [anyI] at h, fun _ h => by simp [anyI] at h, fun _ _ => rfl⟩
  | k + 1 => by
    obtain ⟨h1, h2, h3⟩ := pq_eq T X k
    have e1 : anyI (fun i => evN T (liAt X i) ((i : Nat) : Int)) (k + 1) = (anyI (fun i => evN T (liAt X i) ((i : Nat) : Int)) k || evN T (liAt X k) ((k : Nat) : Int)) := by rw [anyI]
    have e2 : anyI (fun i => evG T X (liAt X i) ((i : Nat) : Int)) (k + 1) = (anyI (fun i => evG T X (liAt X i) ((i : Nat) : Int)) k || evG T X (liAt X k) ((k : Nat) : Int)) := by rw [anyI]
    rw [pq, findI, findI, e1, e2, stepP]
    cases hN : anyI (fun i => evN T (liAt X i) ((i : Nat) : Int)) k with
    | true =>
      rw [h1 hN]
      have ht : ∀ c l : Int, ¬ c < 4 → tellP c l (4, findI (fun i => evN T (liAt X i) ((i : Nat) : Int)) k + 1) = (4, findI (fun i => evN T (liAt X i) ((i : Nat) : Int)) k + 1) := fun c l hc => if_neg (by simp; omega)
      refine ⟨fun _ => ?_, fun h => by simp at h, fun h => by simp at h⟩
      rw [if_pos rfl]
      split
      · exact ht _ _ (by decide)
      · split
        · exact ht _ _ (by decide)
        · rfl
    | false =>
      cases hG : anyI (fun i => evG T X (liAt X i) ((i : Nat) : Int)) k with
      | true =>
        rw [h2 hN hG]
        refine ⟨fun h => ?_, fun h _ => ?_, fun _ h => by simp at h⟩
        · rw [Bool.false_or] at h
          rw [if_pos h, if_neg (by decide), if_pos h]; rfl
        · rw [Bool.false_or] at h
          rw [if_neg (by rw [h]; decide), if_pos rfl]
          split
          · rfl
          · rfl
      | false =>
        rw [h3 hN hG]
        refine ⟨fun h => ?_, fun h h' => ?_, fun h h' => ?_⟩
        · rw [Bool.false_or] at h
          rw [if_pos h, if_neg (by decide), if_pos h]; rfl
        · rw [Bool.false_or] at h h'
          rw [if_neg (by rw [h]; decide), if_pos h', if_neg (by decide), if_pos h']; rfl
        · rw [Bool.false_or] at h h'
          rw [if_neg (by rw [h]; decide), if_neg (by rw [h']; decide)]
theorem Prog.body {X : List Li} {k : Nat} {ps : List (Nat × Nat)} (h : Prog X k ps) : ∀ j, j < ps.length → (liAt X (ps.getD j (0, 0)).1).word = wD ∧ SegE X ((ps.getD j (0, 0)).1 + 1) (ps.getD j (0, 0)).2 ∧ (liAt X (ps.getD j (0, 0)).2).word = wE ∧ (ps.getD j (0, 0)).2 < X.length := by
  induction h with
  | main hk hD h => intro j hj; simp at hj
  | dfn hk hs he hel h ih =>
    intro j hj
    cases j with
    | zero => exact ⟨hk, hs, he, hel⟩
    | succ j => simpa using ih j (by simpa using hj)
theorem Seg.congr {X : List Li} {cf cg : Nat → List G3} {a b : Nat} {L : List G3} (h : Seg X cf a b L) : (∀ i, a ≤ i → i < b → (liAt X i).word = wC → cf i = cg i) → Seg X cg a b L := by
  induction h with
  | nil a => intro _; exact .nil a
  | gate h hs ih => intro hc; have := hs.le; exact .gate h (ih fun i h1 h2 => hc i (by omega) h2)
  | @call a b L h hs ih => intro hc; have := hs.le; rw [hc a (Nat.le_refl _) (by omega) h]; exact .call h (ih fun i h1 h2 => hc i (by omega) h2)
  | rep h hb he hel hs ih1 ih2 => intro hc; have := hs.le; have := hb.le; exact .rep h (ih1 fun i h1 h2 => hc i (by omega) (by omega)) he hel (ih2 fun i h1 h2 => hc i (by omega) h2)
theorem finR_body {X : List Li} {ps : List (Nat × Nat)} {k j i : Nat} (ho : Ord k ps) (hj : j < ps.length) (h1 : (ps.getD j (0, 0)).1 < i) (h2 : i < (ps.getD j (0, 0)).2) (nm : Bs) : finR (tt X ps) nm ((i : Nat) : Int) < (j : Int) := by
  rw [finR_lies (body_lies ho hj h1 (by omega))]; exact (findI_lt).2
theorem gsx_app {M : List (List G3)} {L : List G3} {q : Nat} (h : q < M.length) : gsx (M ++ [L]) q = gsx M q := by simp [gsx, List.getD, List.getElem?_append_left h]
theorem gsx_end {M : List (List G3)} {L : List G3} : gsx (M ++ [L]) M.length = L := by simp [gsx, List.getD]
theorem gsx_take {M : List (List G3)} {q j : Nat} (h : q < j) : gsx (M.take j) q = gsx M q := by simp [gsx, List.getD, List.getElem?_take, h]
theorem fd_ex {X : List Li} {ps : List (Nat × Nat)} (hp : Prog X 1 ps) (hev : NoEv (tt X ps) X 0 X.length) : ∀ j, j ≤ ps.length → ∃ FD : List (List G3), FD.length = j ∧ FdOk X ps FD 0 j
  | 0, _ => ⟨[], rfl, fun q h1 h2 => by omega⟩
  | j + 1, hj => by
    obtain ⟨FD, hl, hF⟩ := fd_ex hp hev j (by omega)
    obtain ⟨hw, hs, he, hel⟩ := hp.body j (by omega)
    obtain ⟨L, hL⟩ := hs (fun i => callG (tt X ps) FD (liAt X i) ((i : Nat) : Int))
    refine ⟨FD ++ [L], by simp [hl], fun q h1 h2 => ?_⟩
    have key : ∀ q, q ≤ j → ∀ i, (ps.getD q (0, 0)).1 + 1 ≤ i → i < (ps.getD q (0, 0)).2 → (liAt X i).word = wC → callG (tt X ps) FD (liAt X i) ((i : Nat) : Int) = callG (tt X ps) (FD ++ [L]) (liAt X i) ((i : Nat) : Int) := by
      intro q hq i h1 h2 hw
      have hel2 := (hp.body q (by omega)).2.2.2
      have hF0 := fin_ok (hev i (by omega) (by omega)).1 hw
      have hF1 := finR_body (X := X) hp.ord (show q < ps.length by omega) (by omega) h2 (liAt X i).nm
      rw [callG, callG, gsx_app (by omega)]
    by_cases hq : q < j
    · rw [gsx_app (by omega)]
      exact (hF q h1 hq).congr (key q (by omega))
    · have hqj : q = j := by omega
      subst hqj
      have e : gsx (FD ++ [L]) q = L := by rw [← hl]; exact gsx_end
      rw [e]
      exact hL.congr (key q (Nat.le_refl _))
/-! ### The gates are right -/
theorem seg_gs {X : List Li} {cf : Nat → List G3} {n : Int} {a b : Nat} {L : List G3} (h : Seg X cf a b L) : (∀ i, a ≤ i → i < b → (liAt X i).word = wG → gateOk n (liAt X i).g3.1 (liAt X i).g3.2.1 (liAt X i).g3.2.2 = true) → (∀ i, a ≤ i → i < b → (liAt X i).word = wC → GsOk n (cf i)) → GsOk n L := by
  induction h with
  | nil a => intro _ _; exact GsOk.nil n
  | @gate a b L h hs ih =>
    intro hg hc
    have := hs.le
    have h1 := ih (fun i h1 h2 => hg i (by omega) h2) (fun i h1 h2 => hc i (by omega) h2)
    intro g hgm
    rcases List.mem_cons.1 hgm with e | e
    · rw [e]; exact hg a (Nat.le_refl _) (by omega) h
    · exact h1 g e
  | @call a b L h hs ih =>
    intro hg hc
    have := hs.le
    exact (hc a (Nat.le_refl _) (by omega) h).app (ih (fun i h1 h2 => hg i (by omega) h2) (fun i h1 h2 => hc i (by omega) h2))
  | @rep a e b B L h hb he hel hs ih1 ih2 =>
    intro hg hc
    have := hs.le
    have := hb.le
    have hB := ih1 (fun i h1 h2 => hg i (by omega) (by omega)) (fun i h1 h2 => hc i (by omega) (by omega))
    refine GsOk.app ?_ (ih2 (fun i h1 h2 => hg i (by omega) h2) (fun i h1 h2 => hc i (by omega) h2))
    intro g hgm
    rw [repF, List.mem_flatten] at hgm
    obtain ⟨l, hl, hgl⟩ := hgm
    rw [List.eq_of_mem_replicate hl] at hgl
    exact hB g hgl
theorem gs_map {n : Int} {m : Nat} {L : List G3} (h : GsOk n L) (hm : ((m : Nat) : Int) = n) : MapOk m L := by
  intro g hg
  have := gateOk_split (h g hg)
  constructor <;> intro h1 <;> omega
/-- What a call's line is known to be. -/
theorem call_ok {T : List Dn} {X : List Li} {i : Nat} (hw : (liAt X i).word = wC) (heG : evG T X (liAt X i) ((i : Nat) : Int) = false) : (((liAt X i).ar.length : Nat) : Int) = (dnx T (finR T (liAt X i).nm ((i : Nat) : Int)).toNat).n ∧ anyI (badR (widR T X ((i : Nat) : Int)) (liAt X i).ar) (liAt X i).ar.length = false := by
  rw [evG, beq_iff_eq.2 hw, beq_eq_false_iff_ne.2 (show (liAt X i).word ≠ wG by rw [hw]; decide), Bool.true_and, Bool.false_and, Bool.false_or, Bool.or_eq_false_iff, decide_eq_false_iff_not] at heG
  exact ⟨Decidable.not_not.1 heG.1, heG.2⟩
theorem gate_ok {T : List Dn} {X : List Li} {i : Nat} (hw : (liAt X i).word = wG) (heG : evG T X (liAt X i) ((i : Nat) : Int) = false) : gateOk (widR T X ((i : Nat) : Int)) (liAt X i).g3.1 (liAt X i).g3.2.1 (liAt X i).g3.2.2 = true := by
  rw [evG, beq_iff_eq.2 hw, beq_eq_false_iff_ne.2 (show (liAt X i).word ≠ wC by rw [hw]; decide), Bool.true_and, Bool.false_and, Bool.or_false, Bool.not_eq_false'] at heG
  exact heG
theorem callG_ok {T : List Dn} {X : List Li} {M : List (List G3)} {i : Nat} (hX : LiOk (liAt X i)) (hw : (liAt X i).word = wC) (heG : evG T X (liAt X i) ((i : Nat) : Int) = false) (hM : GsOk (dnx T (finR T (liAt X i).nm ((i : Nat) : Int)).toNat).n (gsx M (finR T (liAt X i).nm ((i : Nat) : Int)).toNat)) : GsOk (widR T X ((i : Nat) : Int)) (callG T M (liAt X i) ((i : Nat) : Int)) := by
  obtain ⟨h1, h2⟩ := call_ok hw heG
  intro g hg
  rw [callG, List.mem_map] at hg
  obtain ⟨g', hg', rfl⟩ := hg
  refine mapG_ok (hM g' hg') h1 ?_ (by rw [li_call hw]; exact hX.pos)
  rw [badC_any (by rw [li_call hw]; exact hX.call hw), h2, decide_eq_false (by rw [h1]; exact fun e => e rfl)]; rfl
theorem fd_gs {X : List Li} {ps : List (Nat × Nat)} {FD : List (List G3)} (hX : CallsOk X) (hp : Prog X 1 ps) (hev : NoEv (tt X ps) X 0 X.length) (hF : FdOk X ps FD 0 ps.length) : ∀ j, j < ps.length → GsOk (dnx (tt X ps) j).n (gsx FD j) := by
  intro j
  induction j using Nat.strongRecOn with
  | _ j ih =>
    intro hj
    have hel := (hp.body j hj).2.2.2
    have hwid : ∀ i, (ps.getD j (0, 0)).1 + 1 ≤ i → i < (ps.getD j (0, 0)).2 → widR (tt X ps) X ((i : Nat) : Int) = (dnx (tt X ps) j).n := fun i h1 h2 => by rw [dnx_tt hj]; exact widR_body hp.ord hj (by omega) h2
    refine seg_gs (hF j (Nat.zero_le _) hj) (fun i h1 h2 hw => ?_) (fun i h1 h2 hw => ?_)
    · rw [← hwid i h1 h2]; exact gate_ok hw (hev i (by omega) (by omega)).2
    · have hF0 := fin_ok (hev i (by omega) (by omega)).1 hw
      have hF1 := finR_body (X := X) hp.ord hj (show (ps.getD j (0, 0)).1 < i by omega) h2 (liAt X i).nm
      rw [← hwid i h1 h2]
      exact callG_ok (hX i (by omega)) hw (hev i (by omega) (by omega)).2 (ih _ (by omega) (by omega))
/-! ### Altogether -/
theorem wid_ok {X : List Li} {ps : List (Nat × Nat)} (hX : CallsOk X) (hp : Prog X 1 ps) (hq : (liAt X 0).word = wQ) (h1 : 1 ≤ X.length) : WidOk (tt X ps) X := by
  intro i hi
  unfold widR
  split
  · rename_i h
    have hlt := (findI_lt (p := fun k => decide ((dnx (tt X ps) k).a ≤ ((i : Nat) : Int)) && decide (((i : Nat) : Int) < (dnx (tt X ps) k).z)) (n := (tt X ps).length)).2
    rw [tt_length] at hlt h ⊢
    have hj : (findI (fun k => decide ((dnx (tt X ps) k).a ≤ ((i : Nat) : Int)) && decide (((i : Nat) : Int) < (dnx (tt X ps) k).z)) ps.length).toNat < ps.length := by omega
    have hb := hp.body _ hj
    have hlt2 := liAt_lt (X := X) (show (liAt X _).word ≠ wE by rw [hb.1]; decide)
    rw [dnx_tt hj]
    exact (hX _ hlt2).df hb.1
  · exact (hX 0 (by omega)).qb hq
structure FinalOk (X : List Li) (T : List Dn) (FD : List (List G3)) (FM : List G3) : Prop where
  len : FD.length = T.length
  nest : NestOk X
  rng : ∀ j, j < T.length → RngOk X (dnx T j).a.toNat (dnx T j).z.toNat
  rngM : RngOk X 1 X.length
  cal : ∀ j, j < T.length → CalOk X T (FD.take j) (dnx T j).a.toNat (dnx T j).z.toNat
  calM : CalOk X T FD 1 X.length
  ex : ∀ j, j < T.length → Tr (exc X T (FD.take j) (dnx T j).a.toNat (dnx T j).z.toNat []) (gsx FD j)
  exM : Tr (exc X T FD 1 X.length []) FM
  bnd : ∀ j, j < T.length → 0 ≤ (dnx T j).a ∧ (dnx T j).a ≤ X.length ∧ 0 ≤ (dnx T j).z ∧ (dnx T j).z ≤ X.length
  runD : (runL X).1.length = T.length ∧ ∀ j, j < T.length → (dfx (runL X).1 j).nm = (dnx T j).nm ∧ (dfx (runL X).1 j).n = (dnx T j).n ∧ (dfx (runL X).1 j).gs = trim (gsx FD j)
  runG : (runL X).2.1 = trim FM
theorem noEv_of {T : List Dn} {X : List Li} (hN : namR T X = 0) (hG : gatR T X = 0) : NoEv T X 0 X.length := fun i _ hi => ⟨anyI_neg hN i hi, anyI_neg hG i hi⟩
theorem run_all {X : List Li} {ps : List (Nat × Nat)} (hX : CallsOk X) (hp : Prog X 1 ps) (hq : (liAt X 0).word = wQ) (h1 : 1 ≤ X.length) : (runL X).2.2 = pq (tt X ps) X X.length ∧ (NoEv (tt X ps) X 0 X.length → ∃ FD FM, FinalOk X (tt X ps) FD FM) := by
  have hp1 : pq (tt X ps) X 1 = (0, 0) := stepP_no (by rw [hq]; decide) (by rw [hq]; decide) (by rw [hq]; decide)
  obtain ⟨D', e1, e2, e3, e4, e5, e6, e7⟩ := rn_prog hX hp.ord hp 0 [] rfl (Nat.zero_le _) ⟨rfl, fun q hq => by omega⟩ (fun q hq => by omega)
  rw [hp1] at e1
  have hblk := blk_main e6 e2
  obtain ⟨L0, hL0⟩ := e5 (fun _ => [])
  obtain ⟨o0, f1, _⟩ := bk_seg hX hL0 hblk []
  rw [bkc_end (a := X.length) (by omega)] at f1
  have hrun : runL X = (D', o0, pq (tt X ps) X X.length) := by
    rw [runL, e1]
    show (D', (bkc X D' D'.length _ (mst 1 ps) (pq (tt X ps) X (mst 1 ps)) []).1, (bkc X D' D'.length _ (mst 1 ps) (pq (tt X ps) X (mst 1 ps)) []).2.2) = _
    rw [e2.1, f1]
  refine ⟨by rw [hrun], fun hev => ?_⟩
  obtain ⟨FD, hl, hF⟩ := fd_ex hp hev ps.length (Nat.le_refl _)
  have hgs := fd_gs hX hp hev hF
  obtain ⟨FM, hFM⟩ := e5 (fun i => callG (tt X ps) FD (liAt X i) ((i : Nat) : Int))
  have hDg := e7 (fun i h1 h2 => hev i (by omega) (by omega)) FD hF (fun q hq => by omega)
  have hlast : ∀ i, mst 1 ps ≤ i → ∀ nm, finR (tt X ps) nm ((i : Nat) : Int) < (ps.length : Int) := fun i hi nm => by have := finR_lt (T := tt X ps) (nm := nm) (i := ((i : Nat) : Int)); rwa [tt_length] at this
  have hpos : ∀ j, j < ps.length → (dnx (tt X ps) j).a.toNat = (ps.getD j (0, 0)).1 + 1 ∧ (dnx (tt X ps) j).z.toNat = (ps.getD j (0, 0)).2 := fun j hj => by rw [dnx_tt hj]; simp only; omega
  have hcal : ∀ i, 1 ≤ i → i < X.length → (liAt X i).word = wC → 0 ≤ finR (tt X ps) (liAt X i).nm ((i : Nat) : Int) ∧ (finR (tt X ps) (liAt X i).nm ((i : Nat) : Int)).toNat < ps.length ∧ MapOk (liAt X i).ar.length (gsx FD (finR (tt X ps) (liAt X i).nm ((i : Nat) : Int)).toNat) := fun i h1 h2 hw => by
    have hF0 := fin_ok (hev i (by omega) h2).1 hw
    have hF1 := finR_lt (T := tt X ps) (nm := (liAt X i).nm) (i := ((i : Nat) : Int))
    rw [tt_length] at hF1
    exact ⟨hF0, by omega, gs_map (hgs _ (by omega)) (call_ok hw (hev i (by omega) h2).2).1⟩
  have hbody : ∀ j, j < ps.length → ∀ i, (ps.getD j (0, 0)).1 + 1 ≤ i → i < (ps.getD j (0, 0)).2 → (liAt X i).word = wC → (finR (tt X ps) (liAt X i).nm ((i : Nat) : Int)).toNat < j := fun j hj i h1 h2 hw => by
    have := finR_body (X := X) hp.ord hj (show (ps.getD j (0, 0)).1 < i by omega) h2 (liAt X i).nm
    have hF0 := fin_ok (hev i (by omega) (by have := (hp.body j hj).2.2.2; omega)).1 hw
    omega
  refine ⟨FD, FM, ?_, hp.nestOk hq, ?_, hp.nest.2, ?_, ?_, ?_, ?_, ?_, ?_, ?_⟩
  · rw [tt_length, hl]
  · intro j hj
    rw [tt_length] at hj
    rw [(hpos j hj).1, (hpos j hj).2]
    exact (hF j (Nat.zero_le _) hj).rng
  · intro j hj i h1 h2 hw
    rw [tt_length] at hj
    rw [(hpos j hj).1] at h1
    rw [(hpos j hj).2] at h2
    have hel := (hp.body j hj).2.2.2
    obtain ⟨g1, g2, g3⟩ := hcal i (by omega) (by omega) hw
    have g4 := hbody j hj i h1 h2 hw
    refine ⟨g1, by rw [List.length_take, hl]; omega, by rw [gsx_take g4]; exact g3⟩
  · intro i h1 h2 hw
    obtain ⟨g1, g2, g3⟩ := hcal i h1 h2 hw
    exact ⟨g1, by rw [hl]; exact g2, g3⟩
  · intro j hj
    rw [tt_length] at hj
    rw [(hpos j hj).1, (hpos j hj).2]
    have hel := (hp.body j hj).2.2.2
    obtain ⟨o', g1, g2⟩ := ex_seg (M := FD.take j) (T := tt X ps) (hF j (Nat.zero_le _) hj) (fun i h1 h2 hw => by rw [callG, callG, gsx_take (hbody j hj i h1 h2 hw)]) (ps.getD j (0, 0)).2 [] [] (Nat.le_refl _) (by omega) (Tr.refl _)
    rw [exc_end (by omega : ¬ ((ps.getD j (0, 0)).2 < (ps.getD j (0, 0)).2 ∧ o'.length ≤ 400))] at g1
    rw [g1]; rwa [List.nil_append] at g2
  · obtain ⟨o', g1, g2⟩ := ex_seg (M := FD) (T := tt X ps) hFM (fun i h1 h2 hw => rfl) X.length [] [] (Nat.le_refl _) (Nat.le_refl _) (Tr.refl _)
    rw [exc_end (by omega : ¬ (X.length < X.length ∧ o'.length ≤ 400))] at g1
    rw [ex_prog hp, g1]; rwa [List.nil_append] at g2
  · intro j hj
    rw [tt_length] at hj
    have hel := (hp.body j hj).2.2.2
    have ho := hp.ord.one hj
    rw [dnx_tt hj]; simp only; omega
  · rw [hrun, tt_length]
    refine ⟨e2.1, fun j hj => ?_⟩
    rw [dnx_tt hj]
    exact ⟨(e2.2 j hj).1, (e2.2 j hj).2, hDg j hj⟩
  · rw [hrun]
    obtain ⟨o2, g1, g2⟩ := bk_seg hX hFM hblk []
    rw [bkc_end (a := X.length) (by omega)] at g1
    have h3 : o2 = o0 := by rw [f1] at g1; injection g1 with g1; exact g1.symm
    have := g2 (fun i h1 h2 => hev i (Nat.zero_le _) h2) (fun i h1 h2 hw => by
      have hF0 := fin_ok (hev i (Nat.zero_le _) h2).1 hw
      have hF1 := hlast i h1 (liAt X i).nm
      rw [callG, trim_map, hDg _ (by omega)]) [] (by simp [trim])
    rw [List.nil_append] at this
    show o0 = trim FM
    rw [← h3]; exact this

end Go.Proofs.YtgpkpopbajkklaaGreatDoor
/- Plain: what is read of a circuit text, said by the reference. Walk: the reference cuts a text into lines. -/
set_option linter.unusedSimpArgs false
set_option linter.unusedVariables false
namespace Go.Proofs.YtgpkpopbajkklaaGreatDoor
open Go Go.RowKit
namespace TxzT
theorem Tcall_79 : callable Tryz.prog 79 = true := by kernel_rfl
theorem Tsl_40 : sliceOf Tryz.prog 40 = some (9, 1, 16, [sv ([])]) := by kernel_rfl
end TxzT
open TxzT
theorem szP_keep : ∀ (L : List Df) (p : Int × Int), 0 < p.1 → p.1 ≤ 6 → szP L p = p
  | [], p, _, _ => rfl
  | d :: L, p, h1, h2 => by
    have e : (if 400 < d.gs.length then tellP 6 0 p else p) = p := by
      split
      · exact if_neg (by omega)
      · rfl
    rw [szP, e]; exact szP_keep L p h1 h2
theorem szP_ok : ∀ (L : List Df), (∀ d ∈ L, d.gs.length ≤ 400) → szP L (0, 0) = (0, 0)
  | [], _ => rfl
  | d :: L, h => by
    rw [szP, if_neg (by have := h d (.head _); omega)]
    exact szP_ok L fun d hd => h d (.tail _ hd)
theorem szP_big : ∀ (L : List Df), (∃ d ∈ L, 400 < d.gs.length) → szP L (0, 0) = (6, 0)
  | [], h => by obtain ⟨d, hd, _⟩ := h; cases hd
  | d :: L, h => by
    rw [szP]
    by_cases hd : 400 < d.gs.length
    · rw [if_pos hd]
      have e : tellP 6 0 (0, 0) = (6, 0) := rfl
      rw [e]; exact szP_keep L (6, 0) (by decide) (by decide)
    · rw [if_neg hd]
      refine szP_big L ?_
      obtain ⟨d', hd', h'⟩ := h
      rcases List.mem_cons.1 hd' with e | e
      · rw [e] at h'; exact absurd h' hd
      · exact ⟨d', e, h'⟩
theorem trim_big {L : List G3} : 400 < (trim L).length ↔ 400 < L.length := by rw [trim, List.length_take]; omega
theorem trim_small {L : List G3} (h : L.length ≤ 400) : trim L = L := trim_id (by omega)
section
variable {s : Bs} {X : List Li} {T : List Dn} (hgo : ¬ (s = [] ∨ 8000 < s.length ∨ [10].isSuffixOf s = false)) (hf : ¬ 0 < fltL (piecesP s)) (hb : ¬ 0 < fbL (lnsP s)) (hX : lnsP s = X) (hp : (runL X).2.2 = pq T X X.length)
include hgo hf hb hX hp
theorem rt_nam (h : 0 < namR T X) : rt s = ((4, namR T X), 0, [], []) := by
  have h1 := (pq_eq T X X.length).1 (findI_nonneg.1 (by unfold namR at h; omega))
  have e : szP (allD (lnsP s)) (runL (lnsP s)).2.2 = (4, namR T X) := by rw [hX, hp, h1]; exact szP_keep _ _ (show (0 : Int) < 4 by decide) (show (4 : Int) ≤ 6 by decide)
  rw [rtC4 (p := 4) (q := namR T X) hgo hf hb e, if_neg (by decide)]
theorem rt_gat (h0 : namR T X = 0) (h : 0 < gatR T X) : rt s = ((5, gatR T X), 0, [], []) := by
  have h1 := (pq_eq T X X.length).2.1 (anyI_false (anyI_neg h0)) (findI_nonneg.1 (by unfold gatR at h; omega))
  have e : szP (allD (lnsP s)) (runL (lnsP s)).2.2 = (5, gatR T X) := by rw [hX, hp, h1]; exact szP_keep _ _ (show (0 : Int) < 5 by decide) (show (5 : Int) ≤ 6 by decide)
  rw [rtC4 (p := 5) (q := gatR T X) hgo hf hb e, if_neg (by decide)]
theorem rt_big {FD : List (List G3)} {FM : List G3} (h0 : namR T X = 0) (hg : gatR T X = 0) (hF : FinalOk X T FD FM) (h : (∃ j, j < T.length ∧ 400 < (gsx FD j).length) ∨ 400 < FM.length) : rt s = ((6, 0), 0, [], []) := by
  have h1 := (pq_eq T X X.length).2.2 (anyI_false (anyI_neg h0)) (anyI_false (anyI_neg hg))
  have e : szP (allD (lnsP s)) (runL (lnsP s)).2.2 = (6, 0) := by
    rw [hX, hp, h1]
    refine szP_big _ ?_
    rcases h with ⟨j, hj, h⟩ | h
    · have hj2 : j < (runL X).1.length := by rw [hF.runD.1]; exact hj
      refine ⟨dfx (runL X).1 j, List.mem_append_left _ ?_, ?_⟩
      · have : dfx (runL X).1 j = (runL X).1[j] := by simp [dfx, List.getD, hj2]
        rw [this]; exact List.getElem_mem hj2
      · rw [(hF.runD.2 j hj).2.2]; exact trim_big.2 h
    · exact ⟨⟨[], 0, (runL X).2.1⟩, List.mem_append_right _ (.head _), by show 400 < (runL X).2.1.length; rw [hF.runG]; exact trim_big.2 h⟩
  rw [rtC4 (p := 6) (q := 0) hgo hf hb e, if_neg (by decide)]
theorem rt_ok {FD : List (List G3)} {FM : List G3} (h0 : namR T X = 0) (hg : gatR T X = 0) (hF : FinalOk X T FD FM) (h : ∀ j, j < T.length → (gsx FD j).length ≤ 400) (hM : FM.length ≤ 400) : rt s = ((0, 0), (liAt X 0).num, FM, (runL X).1) := by
  have h1 := (pq_eq T X X.length).2.2 (anyI_false (anyI_neg h0)) (anyI_false (anyI_neg hg))
  have e : szP (allD (lnsP s)) (runL (lnsP s)).2.2 = (0, 0) := by
    rw [hX, hp, h1]
    refine szP_ok _ fun d hd => ?_
    rcases List.mem_append.1 hd with hd | hd
    · obtain ⟨j, hj, rfl⟩ := List.getElem_of_mem hd
      have hj2 : j < T.length := by rw [← hF.runD.1]; exact hj
      have : dfx (runL X).1 j = (runL X).1[j] := by simp [dfx, List.getD, hj]
      rw [← this, (hF.runD.2 j hj2).2.2, trim_small (h j hj2)]; exact h j hj2
    · simp only [List.mem_singleton] at hd
      subst hd
      show (runL X).2.1.length ≤ 400
      rw [hF.runG, trim_small hM]; exact hM
  rw [rtC4 (p := 0) (q := 0) hgo hf hb e, if_pos rfl, hX, hF.runG, trim_small hM]
end
theorem namR_ge (T : List Dn) (X : List Li) : 0 ≤ namR T X := by
  have := (findI_lt (p := fun i => evN T (liAt X i) ((i : Nat) : Int)) (n := X.length)).1
  unfold namR; omega
theorem gatR_ge (T : List Dn) (X : List Li) : 0 ≤ gatR T X := by
  have := (findI_lt (p := fun i => evG T X (liAt X i) ((i : Nat) : Int)) (n := X.length)).1
  unfold gatR; omega
theorem fin_okR {T : List Dn} {X : List Li} (h : namR T X = 0) : FinOk T X := fun i hi hw => fin_ok (anyI_neg h i hi) hw
/-! ### The lines of a text that ends with a line's end -/
theorem suffix_nl {s : Bs} (h : s ≠ []) : [10].isSuffixOf s = decide (byx s (s.length - 1) = 10) := by
  rcases List.eq_nil_or_concat s with e | ⟨t, c, e⟩
  · exact absurd e h
  · rw [List.concat_eq_append] at e
    subst e
    have e1 : byx (t ++ [c]) ((t ++ [c]).length - 1) = ((c.toNat : Nat) : Int) := by simp [byx, List.getD]
    have e2 : ([10].isSuffixOf (t ++ [c]) = true) ↔ c = 10 := by
      rw [List.isSuffixOf_iff_suffix]
      constructor
      · rintro ⟨u, hu⟩
        have := congrArg List.getLast? hu
        simpa [eq_comm] using this
      · rintro rfl; exact ⟨t, rfl⟩
    rw [e1]
    cases hb : [10].isSuffixOf (t ++ [c]) with
    | true => rw [e2.1 hb]; rfl
    | false =>
      refine (decide_eq_false fun e => ?_).symm
      have : c = 10 := by apply UInt8.toNat_inj.1; show c.toNat = 10; omega
      rw [e2.2 this] at hb; cases hb
theorem splitC_end {c : UInt8} : ∀ (l : Bs), splitC c (l ++ [c]) = splitC c l ++ [[]]
  | [] => by simp [splitC]
  | b :: r => by
    rw [List.cons_append, splitC, splitC, splitC_end r]
    split
    · rfl
    · cases h : splitC c r with
      | nil => exact absurd h (splitC_ne c r)
      | cons x y => rfl
theorem pieces_nl {s : Bs} (h : [10].isSuffixOf s = true) : splitC 10 s = piecesP s ++ [[]] := by
  obtain ⟨t, rfl⟩ := List.isSuffixOf_iff_suffix.1 h
  have e : Lib.trimSuffix (t ++ [10]) [10] = t := by
    unfold Lib.trimSuffix
    rw [if_pos (show Lib.hasSuffix (t ++ [10]) [10] = true from h)]; simp
  rw [piecesP, e, splitC_end]

set_option maxHeartbeats 1000000 in
set_option maxRecDepth 20000 in
theorem l5Lines_spec {s : Bs} {w : World} (h10 : [10].isSuffixOf s = true) (hl : s.length ≤ 16777216) : Calls Tryz.prog 49 #[sv s] w (Post No w fun v H => H = [.own v 9 1 (piecesP s).length (strs (piecesP s))]) := by
 obtain ⟨P, hP⟩ : ∃ P, piecesP s = P := ⟨_, rfl⟩
 have hsp := pieces_nl h10
 rw [hP] at hsp ⊢
 have hsl : (splitC 10 s).length = P.length + 1 := by rw [hsp]; simp
 have hs16 := splitC_length 10 s
 refine enter (n := 11) (args := [sv s]) Tryz.func49 rfl rfl (St.empty _ _) ?_
 refine Run.sr ?_
 refine Run.p (.slice none 0 0) rfl rfl ?_
 refine Run.dsr ?_
 refine Run.p (sv s) rfl rfl ?_
 refine Run.step rfl (OpStep.call (vs := [sv s, .int .u8 10]) (caps := []) Tcall_79 rfl rfl (fun w hs => l1Split_spec (c := 10) (by omega)) ?_)
 rintro wv _ rfl
 show Run _ _ (putF _ _ _ wv) [.own wv 9 1 ((splitC 10 s).length) (strs (splitC 10 s))]
 refine Run.p (wv) rfl rfl ?_
 refine Run.dsr ?_
 refine Run.p (wv) rfl rfl ?_
 refine Run.p (wv) rfl rfl ?_
 refine Run.formOwn (.head _) (fun A_wv1 c_wv1 hv hcapc_wv1 hmaxc_wv1 => ?_) (fun _ _ _ => ⟨nofun, nofun, nofun⟩)
 subst hv
 refine Run.y (.int .i64 ((((splitC 10 s).length : Nat) : Int))) rfl (OpY.len Tsl_40 rfl) ?_
 refine Run.y (.int .i64 (((((splitC 10 s).length : Nat) : Int)) - 1)) rfl (OpY.sub rfl rfl rfl (by omega) (by omega)) ?_
 refine Run.weak (H' := [.own (.slice A_wv1 (P.length) c_wv1) 9 1 (P.length) (strs P)]) ((Weak.ownTake (m := P.length) (by rw [hsp]; simp)).trans (Some'.weak (.takeEq (by rw [hsp, strs_append, Nat.mul_one, List.take_left' (strs_length P)]) (.nil _)))) ?_ ⟨_, _, rfl, fun _ => nofun, fun _ => nofun⟩
 refine Run.y (.slice A_wv1 (P.length) c_wv1) rfl (OpY.sliceHN (h := P.length) Tsl_40 rfl rfl (by omega) (by omega)) ?_
 refine Run.p (.slice A_wv1 (P.length) c_wv1) rfl rfl ?_
 refine Run.done ?_
 refine Run.ret ?_
 refine ⟨.slice A_wv1 (P.length) c_wv1, [.own (.slice A_wv1 (P.length) c_wv1) 9 1 (P.length) (strs P)], Out.one rfl rfl, (Some'.weak (.take (.nil _))), ?_⟩
 rfl

end Go.Proofs.YtgpkpopbajkklaaGreatDoor
/- Walks: the reference checks a circuit text. -/
set_option linter.unusedSimpArgs false
set_option linter.unusedVariables false
namespace Go.Proofs.YtgpkpopbajkklaaGreatDoor
open Go Go.RowKit
namespace TyaT
theorem Tagg_50 : aggOf Tryz.prog 50 = some 4 := by kernel_rfl
theorem Tagg_77 : aggOf Tryz.prog 77 = some 7 := by kernel_rfl
theorem Tcall_48 : callable Tryz.prog 48 = true := by kernel_rfl
theorem Tcall_49 : callable Tryz.prog 49 = true := by kernel_rfl
theorem Tcall_50 : callable Tryz.prog 50 = true := by kernel_rfl
theorem Tcall_51 : callable Tryz.prog 51 = true := by kernel_rfl
theorem Tcall_52 : callable Tryz.prog 52 = true := by kernel_rfl
theorem Tcall_53 : callable Tryz.prog 53 = true := by kernel_rfl
theorem Tcall_54 : callable Tryz.prog 54 = true := by kernel_rfl
theorem Tfo_50_2 : fieldOff Tryz.prog 50 2 = some 2 := by kernel_rfl
theorem Tfo_50_3 : fieldOff Tryz.prog 50 3 = some 3 := by kernel_rfl
theorem Tfo_54_0 : fieldOff Tryz.prog 54 0 = some 0 := by kernel_rfl
theorem Tfo_54_1 : fieldOff Tryz.prog 54 1 = some 1 := by kernel_rfl
theorem Tone_22 : oneOf Tryz.prog 22 = true := by kernel_rfl
theorem Tone_3 : oneOf Tryz.prog 3 = true := by kernel_rfl
theorem Tone_51 : oneOf Tryz.prog 51 = true := by kernel_rfl
theorem Tone_52 : oneOf Tryz.prog 52 = true := by kernel_rfl
theorem Tone_9 : oneOf Tryz.prog 9 = true := by kernel_rfl
theorem Tsize_50 : (Tryz.prog.info? 50).map (·.size) = some 4 := by kernel_rfl
theorem Tsize_51 : (Tryz.prog.info? 51).map (·.size) = some 1 := by kernel_rfl
theorem Tsize_52 : (Tryz.prog.info? 52).map (·.size) = some 1 := by kernel_rfl
theorem Tsize_77 : (Tryz.prog.info? 77).map (·.size) = some 7 := by kernel_rfl
theorem Tsl_22 : sliceOf Tryz.prog 22 = some (69, 3, 24, [.int .i64 0, .int .i64 0, .int .i64 0]) := by kernel_rfl
theorem Tsl_40 : sliceOf Tryz.prog 40 = some (9, 1, 16, [sv ([])]) := by kernel_rfl
theorem Tsl_46 : sliceOf Tryz.prog 46 = some (50, 4, 40, [sv ([]), .int .i64 0, .int .i64 0, .int .i64 0]) := by kernel_rfl
theorem Tsl_51 : sliceOf Tryz.prog 51 = some (77, 7, 88, [sv ([]), .int .i64 0, .int .i64 0, .int .i64 0, .int .i64 0, sv ([]), .slice none 0 0]) := by kernel_rfl
theorem Tsl_52 : sliceOf Tryz.prog 52 = some (22, 1, 24, [.slice none 0 0]) := by kernel_rfl
theorem Tstr_9 : strT Tryz.prog 9 = true := by kernel_rfl
theorem Tzero_50 : zeroOf Tryz.prog 50 = some [sv ([]), .int .i64 0, .int .i64 0, .int .i64 0] := by kernel_rfl
theorem Tzero_77 : zeroOf Tryz.prog 77 = some [sv ([]), .int .i64 0, .int .i64 0, .int .i64 0, .int .i64 0, sv ([]), .slice none 0 0] := by kernel_rfl
end TyaT
open TyaT
theorem Weak.rgrSnoc {H : List Res} {e : TypeId} {x : Li} {v : Value} {L : List LV} : Weak (.own v e 1 x.ar.length (ints x.ar) :: .grp e 1 (rgr L) :: H) (.grp e 1 (rgr (L ++ [lv x v])) :: H) :=
  Weak.grpSnocG (g := fun p : LV => (p.2, p.1.ar.length, ints p.1.ar)) rfl
abbrev gv (x : List G3) (v : Value) : GV := (x, v)
theorem Weak.ggrSnoc {H : List Res} {e : TypeId} {x : List G3} {v : Value} {L : List GV} : Weak (.own v e 3 x.length (ints (fl x)) :: .grp e 3 (ggr L) :: H) (.grp e 3 (ggr (L ++ [gv x v])) :: H) :=
  Weak.grpSnocG (g := fun p : GV => (p.2, p.1.length, ints (fl p.1))) rfl
theorem lns_one {P : List Bs} (h : fltL P = 0) : OneQ (lns P P.length) := by
  intro i hi
  by_cases hl : i < P.length
  · obtain ⟨x, hx⟩ := flt_good h hl
    rw [lns_at hl hx]
    have := (lnAt_some hx).2
    rw [beq_eq_false_iff_ne.2 (show i ≠ 0 by omega)] at this
    exact beq_eq_false_iff_ne.1 this
  · rw [liAt, List.getD, List.getElem?_eq_none (by rw [lns_length]; omega)]
    exact (show wE ≠ wQ by decide)
/-- What the check of a text leaves behind. -/
structure ChkOk (s : Bs) (L : List LV) (G : List GV) (T : List Dn) : Prop where
  len1 : 1 ≤ L.length
  len : L.length ≤ 8001
  tlen : T.length = (rt s).2.2.2.length
  glen : G.length = T.length
  defs : ∀ j, j < T.length → (dnx T j).nm = (dfx (rt s).2.2.2 j).nm ∧ (dnx T j).n = (dfx (rt s).2.2.2 j).n ∧ (gvx G j).1 = (dfx (rt s).2.2.2 j).gs
  num : (liAt (L.map (·.1)) 0).num = (rt s).2.1
  nest : NestOk (L.map (·.1))
  rng : RngOk (L.map (·.1)) 1 L.length
  cal : CalOk (L.map (·.1)) T (G.map (·.1)) 1 L.length
  m400 : ∀ k, (gsx (G.map (·.1)) k).length ≤ 400
  calls : CallsOk (L.map (·.1))
  exq : exc (L.map (·.1)) T (G.map (·.1)) 1 L.length [] = (rt s).2.2.1
theorem gsx_400 {FD : List (List G3)} {j : Nat} (h : ∀ q, q < j → (gsx FD q).length ≤ 400) : ∀ k, (gsx (FD.take j) k).length ≤ 400 := fun k => by
  by_cases hk : k < j
  · rw [gsx_take hk]; exact h k hk
  · have : gsx (FD.take j) k = [] := by
      rw [gsx, List.getD, List.getElem?_eq_none (by rw [List.length_take]; omega)]; rfl
    rw [this]; simp
theorem take_gsx {FD : List (List G3)} {j : Nat} (h : j < FD.length) : FD.take (j + 1) = FD.take j ++ [gsx FD j] := by
  rw [List.take_succ_eq_append_getElem h]; simp [gsx, List.getD, h]
theorem gvx_end (G : List GV) (p : GV) : gvx (G ++ [p]) G.length = p := by simp [gvx, List.getD]
theorem tr_big {o f : List G3} (h : Tr o f) (ho : 400 < o.length) : 400 < f.length := by
  by_cases hf : f.length ≤ 400
  · rw [h.1 hf] at ho; exact ho
  · omega

theorem ck_bad {s : Bs} {c l : Int} {b : Nat} {vt vl vd : Value} {L : List LV} {G : List GV} {T : List Dn} (h : rt s = ((c, l), 0, [], [])) (hc : c ≠ 0) : ∃ b' vt' vl' vd' L' G' T', Value.tuple #[.pointer (some ⟨b, 0, none⟩), vt, .int .i64 c, .int .i64 l] = .tuple #[.pointer (some ⟨b', 0, none⟩), vt', .int .i64 (rt s).1.1, .int .i64 (rt s).1.2] ∧ ([.blk b 54 [vl, vd], .own vl 77 7 L.length (rls L), .grp 3 1 (rgr L), .own vd 22 1 G.length (gvs G), .grp 69 3 (ggr G), .own vt 50 4 T.length (dns T)] : List Res) = [.blk b' 54 [vl', vd'], .own vl' 77 7 L'.length (rls L'), .grp 3 1 (rgr L'), .own vd' 22 1 G'.length (gvs G'), .grp 69 3 (ggr G'), .own vt' 50 4 T'.length (dns T')] ∧ ((rt s).1.1 = 0 → ChkOk s L' G' T') :=
  ⟨b, vt, vl, vd, L, G, T, by rw [h], rfl, fun h' => absurd h' (by rw [h]; exact hc)⟩
theorem fbGo_ge : ∀ (X : List Li) (num : Int) (st : List Int) (on : Bool), 0 < num → PosL st → 0 ≤ fbGo X num st on
  | [], num, st, on, _, hp => by
    rw [fbGo]
    rcases Nat.eq_zero_or_pos st.length with h | h
    · rw [List.length_eq_zero_iff.1 h]; decide
    · have := hp.last h; omega
  | x :: X, num, st, on, hn, hp => by
    have hd : PosL st.dropLast := fun v hv => hp v (by rw [List.dropLast_eq_take] at hv; exact List.mem_of_mem_take hv)
    rw [fbGo]
    split
    · split
      · omega
      · exact fbGo_ge X _ _ _ (by omega) hd
    · split
      · split
        · omega
        · exact fbGo_ge X _ _ _ (by omega) (hp.app hn)
      · split
        · exact fbGo_ge X _ _ _ (by omega) (hp.app hn)
        · exact fbGo_ge X _ _ _ (by omega) hp
theorem fbL_ge (X : List Li) : 0 ≤ fbL X := fbGo_ge _ _ _ _ (by decide) (fun _ h => nomatch h)

set_option maxHeartbeats 16000000 in
set_option maxRecDepth 20000 in
theorem l5Check_spec {s : Bs} {w : World} : Calls Tryz.prog 29 #[sv s] w (Post No w fun v H => ∃ b vt vl vd L G T, v = .tuple #[.pointer (some ⟨b, 0, none⟩), vt, .int .i64 (rt s).1.1, .int .i64 (rt s).1.2] ∧ H = [.blk b 54 [vl, vd], .own vl 77 7 L.length (rls L), .grp 3 1 (rgr L), .own vd 22 1 G.length (gvs G), .grp 69 3 (ggr G), .own vt 50 4 T.length (dns T)] ∧ ((rt s).1.1 = 0 → ChkOk s L G T)) := by
 obtain ⟨P, hP⟩ : ∃ P, piecesP s = P := ⟨_, rfl⟩
 obtain ⟨X, hX⟩ : ∃ X, lnsP s = X := ⟨_, rfl⟩
 refine enter (n := 139) (args := [sv s]) Tryz.func29 rfl rfl (St.empty _ _) ?_
 refine Run.sr ?_
 refine Run.p ((Go.Value.pointer none)) rfl rfl ?_
 refine Run.p (.slice none 0 0) rfl rfl ?_
 refine Run.p (.int .i64 0) rfl rfl ?_
 refine Run.p (.int .i64 0) rfl rfl ?_
 refine Run.dsr ?_
 refine Run.y (.agg #[.slice none 0 0, .slice none 0 0]) rfl (OpY.build (cs := [.slice none 0 0, .slice none 0 0]) (by kernel_rfl)) ?_
 refine Run.step rfl (OpStep.box (us := [.slice none 0 0, .slice none 0 0]) rfl fun b1 => ?_)
 refine Run.p (.pointer (some ⟨b1, 0, none⟩)) rfl rfl ?_
 refine Run.done ?_
 refine Run.seq ?_
 refine Run.sr ?_
 refine Run.p (sv s) rfl rfl ?_
 refine Run.y (.bool (s == ([]))) rfl (OpY.eqS rfl rfl) ?_
 rcases Bool.eq_false_or_eq_true (s == ([])) with h21 | h21
 ·refine Run.q (v := .bool true) rfl (OpQ.y (OpY.moveB rfl h21)) ?_
  have p21 := h21; try simp only [bs] at p21
  refine Run.pass rfl ?_
  refine Run.pass rfl ?_
  refine Run.pass rfl ?_
  refine Run.p (.bool true) rfl rfl ?_
  refine Run.p (.bool true) rfl rfl ?_
  refine Run.pass rfl ?_
  refine Run.pass rfl ?_
  refine Run.pass rfl ?_
  refine Run.pass rfl ?_
  refine Run.pass rfl ?_
  refine Run.pass rfl ?_
  refine Run.p (.bool true) rfl rfl ?_
  refine Run.done ?_
  refine Run.cond (b := true) rfl (fun _ => ?_) (fun h => nomatch h)
  refine Run.seq ?_
  refine Run.weak (H' := [.grp 3 1 (rgr []), .blk b1 54 [.slice none 0 0, .slice none 0 0]]) (Weak.grpNil _ _) ?_ ⟨_, _, rfl, fun _ => nofun, fun _ => nofun⟩
  refine Run.weak (H' := [.grp 69 3 (ggr []), .grp 3 1 (rgr []), .blk b1 54 [.slice none 0 0, .slice none 0 0]]) (Weak.grpNil _ _) ?_ ⟨_, _, rfl, fun _ => nofun, fun _ => nofun⟩
  refine Run.region ?_
  refine Run.p (.pointer (some ⟨b1, 0, none⟩)) rfl rfl ?_
  refine Run.p (.pointer (some ⟨b1, 0, none⟩)) rfl rfl ?_
  refine Run.p (.slice none 0 0) rfl rfl ?_
  refine Run.p (.int .i64 1) rfl rfl ?_
  refine Run.p (.int .i64 0) rfl rfl ?_
  refine Run.done ?_
  refine Run.ret ?_
  refine ⟨.tuple #[.pointer (some ⟨b1, 0, none⟩), .slice none 0 0, .int .i64 1, .int .i64 0], [.blk b1 54 [.slice none 0 0, .slice none 0 0], .own (.slice none 0 0) 77 7 (([] : List LV).length) (rls ([] : List LV)), .grp 3 1 (rgr []), .own (.slice none 0 0) 22 1 (([] : List GV).length) (gvs ([] : List GV)), .grp 69 3 (ggr []), .own (.slice none 0 0) 50 4 (([] : List Dn).length) (dns ([] : List Dn))], Out.four rfl rfl rfl rfl rfl, ((Weak.nilOwn 50 4).trans ((Weak.nilOwn 22 1).trans ((Weak.nilOwn 77 7).trans ((Weak.selF [5, 0, 3, 0, 1, 0]).trans (Some'.weak (.take (.takeEq (by first | rfl | simp) (.take (.takeEq (by first | rfl | simp) (.take (.takeEq (by first | rfl | simp) (.nil _)))))))))))), ?_⟩
  exact ck_bad (L := []) (G := []) (T := []) (rtC1 (by first | exact .inl p21 | exact .inr (.inl (by omega)) | exact .inr (.inr (by rw [suffix_nl p21]; exact decide_eq_false p33)))) (by decide)
 ·refine Run.q (v := .bool false) rfl (OpQ.y (OpY.moveB rfl h21)) ?_
  have p21 := h21; try simp only [bs] at p21
  refine Run.p (sv s) rfl rfl ?_
  refine Run.y (.int .i64 (((s.length : Nat) : Int))) rfl (OpY.lenS Tstr_9 rfl) ?_
  refine Run.p (.bool (decide ((((s.length : Nat) : Int)) > 8000))) rfl rfl ?_
  refine Run.p (.bool (decide ((((s.length : Nat) : Int)) > 8000))) rfl rfl ?_
  rcases Bool.eq_false_or_eq_true (decide ((((s.length : Nat) : Int)) > 8000)) with h26 | h26
  ·refine Run.q (v := .bool true) rfl (OpQ.y (OpY.moveB rfl h26)) ?_
   have p26 := h26; try simp only [bs] at p26
   refine Run.pass rfl ?_
   refine Run.pass rfl ?_
   refine Run.pass rfl ?_
   refine Run.pass rfl ?_
   refine Run.pass rfl ?_
   refine Run.pass rfl ?_
   refine Run.p (.bool true) rfl rfl ?_
   refine Run.done ?_
   refine Run.cond (b := true) rfl (fun _ => ?_) (fun h => nomatch h)
   refine Run.seq ?_
   refine Run.weak (H' := [.grp 3 1 (rgr []), .blk b1 54 [.slice none 0 0, .slice none 0 0]]) (Weak.grpNil _ _) ?_ ⟨_, _, rfl, fun _ => nofun, fun _ => nofun⟩
   refine Run.weak (H' := [.grp 69 3 (ggr []), .grp 3 1 (rgr []), .blk b1 54 [.slice none 0 0, .slice none 0 0]]) (Weak.grpNil _ _) ?_ ⟨_, _, rfl, fun _ => nofun, fun _ => nofun⟩
   refine Run.region ?_
   refine Run.p (.pointer (some ⟨b1, 0, none⟩)) rfl rfl ?_
   refine Run.p (.pointer (some ⟨b1, 0, none⟩)) rfl rfl ?_
   refine Run.p (.slice none 0 0) rfl rfl ?_
   refine Run.p (.int .i64 1) rfl rfl ?_
   refine Run.p (.int .i64 0) rfl rfl ?_
   refine Run.done ?_
   refine Run.ret ?_
   refine ⟨.tuple #[.pointer (some ⟨b1, 0, none⟩), .slice none 0 0, .int .i64 1, .int .i64 0], [.blk b1 54 [.slice none 0 0, .slice none 0 0], .own (.slice none 0 0) 77 7 (([] : List LV).length) (rls ([] : List LV)), .grp 3 1 (rgr []), .own (.slice none 0 0) 22 1 (([] : List GV).length) (gvs ([] : List GV)), .grp 69 3 (ggr []), .own (.slice none 0 0) 50 4 (([] : List Dn).length) (dns ([] : List Dn))], Out.four rfl rfl rfl rfl rfl, ((Weak.nilOwn 50 4).trans ((Weak.nilOwn 22 1).trans ((Weak.nilOwn 77 7).trans ((Weak.selF [5, 0, 3, 0, 1, 0]).trans (Some'.weak (.take (.takeEq (by first | rfl | simp) (.take (.takeEq (by first | rfl | simp) (.take (.takeEq (by first | rfl | simp) (.nil _)))))))))))), ?_⟩
   exact ck_bad (L := []) (G := []) (T := []) (rtC1 (by first | exact .inl p21 | exact .inr (.inl (by omega)) | exact .inr (.inr (by rw [suffix_nl p21]; exact decide_eq_false p33)))) (by decide)
  ·refine Run.q (v := .bool false) rfl (OpQ.y (OpY.moveB rfl h26)) ?_
   have p26 := h26; try simp only [bs] at p26
   have hs1 : 0 < s.length := List.length_pos_iff.2 p21
   refine Run.p (sv s) rfl rfl ?_
   refine Run.p (sv s) rfl rfl ?_
   refine Run.y (.int .i64 (((s.length : Nat) : Int))) rfl (OpY.lenS Tstr_9 rfl) ?_
   refine Run.y (.int .i64 ((((s.length : Nat) : Int)) - 1)) rfl (OpY.sub rfl rfl rfl (by omega) (by omega)) ?_
   refine Run.y (.int .u8 (byx s (s.length - 1))) rfl (OpY.indexS (j := s.length - 1) Tstr_9 rfl rfl (by first | rfl | omega) (by omega)) ?_
   refine Run.p (.bool ((byx s (s.length - 1)) != 10)) rfl rfl ?_
   refine Run.p (.bool ((byx s (s.length - 1)) != 10)) rfl rfl ?_
   refine Run.done ?_
   refine Run.cond (b := (byx s (s.length - 1)) != 10) rfl (fun h33 => ?_) (fun h33 => ?_)
   ·have p33 := h33; try simp only [bs] at p33
    refine Run.seq ?_
    refine Run.weak (H' := [.grp 3 1 (rgr []), .blk b1 54 [.slice none 0 0, .slice none 0 0]]) (Weak.grpNil _ _) ?_ ⟨_, _, rfl, fun _ => nofun, fun _ => nofun⟩
    refine Run.weak (H' := [.grp 69 3 (ggr []), .grp 3 1 (rgr []), .blk b1 54 [.slice none 0 0, .slice none 0 0]]) (Weak.grpNil _ _) ?_ ⟨_, _, rfl, fun _ => nofun, fun _ => nofun⟩
    refine Run.region ?_
    refine Run.p (.pointer (some ⟨b1, 0, none⟩)) rfl rfl ?_
    refine Run.p (.pointer (some ⟨b1, 0, none⟩)) rfl rfl ?_
    refine Run.p (.slice none 0 0) rfl rfl ?_
    refine Run.p (.int .i64 1) rfl rfl ?_
    refine Run.p (.int .i64 0) rfl rfl ?_
    refine Run.done ?_
    refine Run.ret ?_
    refine ⟨.tuple #[.pointer (some ⟨b1, 0, none⟩), .slice none 0 0, .int .i64 1, .int .i64 0], [.blk b1 54 [.slice none 0 0, .slice none 0 0], .own (.slice none 0 0) 77 7 (([] : List LV).length) (rls ([] : List LV)), .grp 3 1 (rgr []), .own (.slice none 0 0) 22 1 (([] : List GV).length) (gvs ([] : List GV)), .grp 69 3 (ggr []), .own (.slice none 0 0) 50 4 (([] : List Dn).length) (dns ([] : List Dn))], Out.four rfl rfl rfl rfl rfl, ((Weak.nilOwn 50 4).trans ((Weak.nilOwn 22 1).trans ((Weak.nilOwn 77 7).trans ((Weak.selF [5, 0, 3, 0, 1, 0]).trans (Some'.weak (.take (.takeEq (by first | rfl | simp) (.take (.takeEq (by first | rfl | simp) (.take (.takeEq (by first | rfl | simp) (.nil _)))))))))))), ?_⟩
    exact ck_bad (L := []) (G := []) (T := []) (rtC1 (by first | exact .inl p21 | exact .inr (.inl (by omega)) | exact .inr (.inr (by rw [suffix_nl p21]; exact decide_eq_false p33)))) (by decide)
   ·have p33 := h33; try simp only [bs] at p33
    refine Run.skip ?_
    refine Run.seq ?_
    refine Run.seq ?_
    have h10 : [10].isSuffixOf s = true := by rw [suffix_nl p21]; exact decide_eq_true p33
    have hl8 : s.length ≤ 8000 := by omega
    have hgo : ¬ (s = [] ∨ 8000 < s.length ∨ [10].isSuffixOf s = false) := fun h => h.elim p21 fun h => h.elim (fun h => by omega) (fun h => by rw [h10] at h; cases h)
    have hP16 : P.length ≤ 8001 := by rw [← hP]; have := splitC_length 10 (Lib.trimSuffix s [10]); have := trim_le s [10]; unfold piecesP; omega
    have hPl : ∀ t ∈ P, t.length ≤ 16777000 := fun t ht => by rw [← hP] at ht; have := splitC_le t ht; have := trim_le s [10]; omega
    have hP1 : 0 < P.length := by rw [← hP]; exact List.length_pos_iff.2 (splitC_ne _ _)
    refine Run.region ?_
    refine Run.p (sv s) rfl rfl ?_
    refine Run.step rfl (OpStep.call (vs := [sv s]) (caps := []) Tcall_49 rfl rfl (fun w hs => (by have h := l5Lines_spec (w := w) h10 (by omega); rw [hP] at h; exact h)) ?_)
    rintro pv _ rfl
    show Run _ _ (putF _ _ _ pv) [.own pv 9 1 (P.length) (strs P), .blk b1 54 [.slice none 0 0, .slice none 0 0]]
    refine Run.formOwn (.head _) (fun A_pv1 c_pv1 hv hcapc_pv1 hmaxc_pv1 => ?_) (fun _ _ _ => ⟨nofun, nofun, nofun⟩)
    subst hv
    refine Run.y (.int .i64 (((P.length : Nat) : Int))) rfl (OpY.len Tsl_40 rfl) ?_
    refine Run.p (.int .i64 0) rfl rfl ?_
    refine Run.done ?_
    refine Run.openOwn (.head _) (by omega) (fun gp cp hvgp hcapgp _ => ?_) (fun _ _ _ => ⟨nofun, nofun, nofun⟩)
    injection hvgp with hAgp _ hcgp; subst hAgp; subst hcgp
    refine Run.weak (H' := [.own (.slice none 0 0) 77 7 0 (rls []), .own (.slice (some ⟨gp, 0, none⟩) (P.length) c_pv1) 9 1 (P.length) (strs P), .blk b1 54 [.slice none 0 0, .slice none 0 0]]) (Weak.nilOwn _ _) ?_ ⟨_, _, rfl, fun _ => nofun, fun _ => nofun⟩
    refine Run.weak (H' := [.grp 3 1 (rgr []), .own (.slice none 0 0) 77 7 0 (rls []), .own (.slice (some ⟨gp, 0, none⟩) (P.length) c_pv1) 9 1 (P.length) (strs P), .blk b1 54 [.slice none 0 0, .slice none 0 0]]) (Weak.grpNil _ _) ?_ ⟨_, _, rfl, fun _ => nofun, fun _ => nofun⟩
    refine Run.block ?_
    refine Run.loop (ι := Nat × List LV × Value) [2, 3, 4, 5, 7, 8, 9, 10, 38, 39, 40, 41, 42, 43, 44, 45, 46, 47, 48, 49, 50, 51, 52, 53, 54, 55, 56, 57, 58, 59, 60, 61, 62, 63, 64, 65] (fun ⟨k, L, vl⟩ => [(38, .int .i64 (((k : Nat) : Int)))]) (fun ⟨k, L, vl⟩ => [.blk b1 54 [vl, .slice none 0 0], .own vl 77 7 (L.length) (rls L), .grp 3 1 (rgr L), .own (.slice (some ⟨gp, 0, none⟩) (P.length) c_pv1) 9 1 (P.length) (strs P)]) (fun ⟨k, L, vl⟩ => k ≤ P.length ∧ L.length = k ∧ L.map (·.1) = lns P k ∧ ∀ i, i < k → badAt P i = false) (fun ⟨k, L, vl⟩ => P.length - k) (0, [], .slice none 0 0) ?_ ?_ ?_ ?_
    ·exact ⟨Nat.zero_le _, rfl, rfl, fun i hi => by omega⟩
    ·exact ⟨rfl, trivial⟩
    ·exact ((Weak.selF [3, 1, 0, 0]).trans (Some'.weak (.takeEq (by first | rfl | simp) (.takeEq (by first | rfl | simp) (.takeEq (by first | rfl | simp) (.take (.nil _)))))))
    ·rintro ⟨k, L, vl⟩ fr hinv
     show Run _ _ (over _ _ [(38, .int .i64 (((k : Nat) : Int)))] fr) [.blk b1 54 [vl, .slice none 0 0], .own vl 77 7 (L.length) (rls L), .grp 3 1 (rgr L), .own (.slice (some ⟨gp, 0, none⟩) (P.length) c_pv1) 9 1 (P.length) (strs P)]
     try dsimp only at hinv
     refine Run.sr ?_
     refine Run.p (.bool (decide ((((k : Nat) : Int)) < (((P.length : Nat) : Int))))) rfl rfl ?_
     refine Run.done ?_
     refine Run.seq ?_
     refine Run.cond (b := decide ((((k : Nat) : Int)) < (((P.length : Nat) : Int)))) rfl (fun h39 => ?_) (fun h39 => ?_)
     ·have p39 := h39; try simp only [bs] at p39
      have hltk : k < P.length := by omega
      obtain ⟨hk, hLk, hLm, hgoodk⟩ := hinv
      refine Run.skip ?_
      refine Run.seq ?_
      refine Run.block ?_
      refine Run.sr ?_
      refine Run.p (.int .i64 (((k : Nat) : Int))) rfl rfl ?_
      refine Run.y (.pointer (some ⟨gp, k, none⟩)) rfl (OpY.index (kk := k) Tsl_40 rfl rfl (by omega) (by omega) (by first | rfl | omega)) ?_
      refine Run.y (sv (stx P k)) rfl (OpY.load1 Tone_9 rfl (Cells.own0 (.tail _ (.tail _ (.tail _ (List.Mem.head _)))) (preS (by omega)))) ?_
      refine Run.p (.int .i64 (((k : Nat) : Int))) rfl rfl ?_
      refine Run.p (sv (stx P k)) rfl rfl ?_
      refine Run.dsr ?_
      refine Run.p (sv (stx P k)) rfl rfl ?_
      refine Run.p (.int .i64 (((k : Nat) : Int))) rfl rfl ?_
      refine Run.p (.bool ((((k : Nat) : Int)) == 0)) rfl rfl ?_
      refine Run.step rfl (OpStep.call (vs := [sv (stx P k), .bool ((((k : Nat) : Int)) == 0)]) (caps := []) Tcall_50 rfl rfl (fun w hs => (by have h := l5Parse_spec (l := stx P k) (i := k) (w := w) (stx_len hPl k); rw [← int_nat_zero] at h; exact h)) ?_)
      rintro _ _ ⟨c0, c1, c2, c3, c4, c5, v1, ar, bb, rfl, rfl, hln⟩
      show Run _ _ (putF _ _ _ (.tuple #[.agg #[sv c0, .int .i64 c1, .int .i64 c2, .int .i64 c3, .int .i64 c4, sv c5, v1], .bool bb])) [.own v1 3 1 (ar.length) (ints ar), .blk b1 54 [vl, .slice none 0 0], .own vl 77 7 (L.length) (rls L), .grp 3 1 (rgr L), .own (.slice (some ⟨gp, 0, none⟩) (P.length) c_pv1) 9 1 (P.length) (strs P)]
      refine Run.p (.tuple #[.agg #[sv c0, .int .i64 c1, .int .i64 c2, .int .i64 c3, .int .i64 c4, sv c5, v1], .bool bb]) rfl rfl ?_
      refine Run.p (.agg #[sv c0, .int .i64 c1, .int .i64 c2, .int .i64 c3, .int .i64 c4, sv c5, v1]) rfl rfl ?_
      refine Run.p (.bool bb) rfl rfl ?_
      refine Run.step rfl (OpStep.alloc (zs := [sv ([]), .int .i64 0, .int .i64 0, .int .i64 0, .int .i64 0, sv ([]), .slice none 0 0]) Tzero_77 fun b2 => ?_)
      refine Run.formOwn (.tail _ (List.Mem.head _)) (fun A_v11 c_v11 hv hcapc_v11 hmaxc_v11 => ?_) (fun _ _ _ => ⟨nofun, nofun, nofun⟩)
      subst hv
      refine Run.step rfl (OpStep.storeAll (us := [sv c0, .int .i64 c1, .int .i64 c2, .int .i64 c3, .int .i64 c4, sv c5, .slice A_v11 (ar.length) c_v11]) Tsize_77 rfl rfl rfl (.here _) rfl ?_)
      refine Run.p (.bool bb) rfl rfl ?_
      refine Run.done ?_
      refine Run.seq ?_
      refine Run.sr ?_
      refine Run.p (.bool bb) rfl rfl ?_
      refine Run.p (.bool (!bb)) rfl rfl ?_
      refine Run.done ?_
      refine Run.cond (b := !bb) rfl (fun h51 => ?_) (fun h51 => ?_)
      ·have p51 := h51; try simp only [bs] at p51
       have hbad : badAt P k = true := by
        rw [badAt]
        cases hb2 : lnAt k (stx P k) with
        | none => rfl
        | some y => have h := hln.1; rw [hb2, show bb = false by simpa using h51] at h; cases h
       have hflt : fltL (piecesP s) = ((k + 1 : Nat) : Int) := by rw [hP, fltL, findI_hit hgoodk hbad hltk]; rfl
       refine Run.seq ?_
       refine Run.weak (H' := [.grp 69 3 (ggr []), .blk b2 77 [sv c0, .int .i64 c1, .int .i64 c2, .int .i64 c3, .int .i64 c4, sv c5, .slice A_v11 (ar.length) c_v11], .own (.slice A_v11 (ar.length) c_v11) 3 1 (ar.length) (ints ar), .blk b1 54 [vl, .slice none 0 0], .own vl 77 7 (L.length) (rls L), .grp 3 1 (rgr L), .own (.slice (some ⟨gp, 0, none⟩) (P.length) c_pv1) 9 1 (P.length) (strs P)]) (Weak.grpNil _ _) ?_ ⟨_, _, rfl, fun _ => nofun, fun _ => nofun⟩
       refine Run.region ?_
       refine Run.p (.pointer (some ⟨b1, 0, none⟩)) rfl rfl ?_
       refine Run.p (.int .i64 (((k : Nat) : Int))) rfl rfl ?_
       refine Run.y (.int .i64 ((((k : Nat) : Int)) + 1)) rfl (OpY.add rfl rfl rfl (by omega) (by omega)) ?_
       refine Run.p (.pointer (some ⟨b1, 0, none⟩)) rfl rfl ?_
       refine Run.p (.slice none 0 0) rfl rfl ?_
       refine Run.p (.int .i64 2) rfl rfl ?_
       refine Run.p (.int .i64 ((((k : Nat) : Int)) + 1)) rfl rfl ?_
       refine Run.done ?_
       refine Run.ret ?_
       refine ⟨.tuple #[.pointer (some ⟨b1, 0, none⟩), .slice none 0 0, .int .i64 2, .int .i64 ((((k : Nat) : Int)) + 1)], [.blk b1 54 [vl, .slice none 0 0], .own vl 77 7 (L.length) (rls L), .grp 3 1 (rgr L), .own (.slice none 0 0) 22 1 (([] : List GV).length) (gvs ([] : List GV)), .grp 69 3 (ggr []), .own (.slice none 0 0) 50 4 (([] : List Dn).length) (dns ([] : List Dn))], Out.four rfl rfl rfl rfl rfl, ((Weak.nilOwn 50 4).trans ((Weak.nilOwn 22 1).trans ((Weak.selF [5, 5, 5, 0, 1, 0]).trans (Some'.weak (.take (.take (.take (.takeEq (by first | rfl | simp) (.take (.takeEq (by first | rfl | simp) (.nil _))))))))))), ?_⟩
       exact ck_bad (L := L) (G := []) (T := []) (by rw [rtC2 hgo (by rw [hflt]; omega), hflt]; rfl) (by decide)
      ·have p51 := h51; try simp only [bs] at p51
       obtain ⟨x, hx⟩ : ∃ x, lnAt k (stx P k) = some x := by
        have h := hln.1
        rw [show bb = true by simpa using h51] at h
        cases hb2 : lnAt k (stx P k) with
        | none => rw [hb2] at h; cases h
        | some y => exact ⟨y, rfl⟩
       obtain ⟨e0, e1, e4, e5, e6⟩ := hln.2 x hx
       obtain ⟨e1, e2, e3⟩ : c1 = x.g3.1 ∧ c2 = x.g3.2.1 ∧ c3 = x.g3.2.2 := by rw [← e1]; exact ⟨rfl, rfl, rfl⟩
       subst e0; subst e1; subst e2; subst e3; subst e4; subst e5; subst e6
       refine Run.skip ?_
       refine Run.weak (H' := [.grp 3 1 (rgr (L ++ [lv x (.slice A_v11 (x.ar.length) c_v11)])), .blk b2 77 [sv (x.word), .int .i64 (x.g3.1), .int .i64 (x.g3.2.1), .int .i64 (x.g3.2.2), .int .i64 (x.num), sv (x.nm), .slice A_v11 (x.ar.length) c_v11], .blk b1 54 [vl, .slice none 0 0], .own vl 77 7 (L.length) (rls L), .own (.slice (some ⟨gp, 0, none⟩) (P.length) c_pv1) 9 1 (P.length) (strs P)]) ((Weak.selF [1, 3]).trans Weak.rgrSnoc) ?_ ⟨_, _, rfl, fun _ => nofun, fun _ => nofun⟩
       refine Run.heldB (base := [.blk b2 77 [sv (x.word), .int .i64 (x.g3.1), .int .i64 (x.g3.2.1), .int .i64 (x.g3.2.2), .int .i64 (x.num), sv (x.nm), .slice A_v11 (x.ar.length) c_v11]]) (by kernel_rfl) ?_
       refine DW.take (i := 0) (v := .pointer (some ⟨b1, 0, none⟩)) rfl (by kernel_rfl) (by kernel_rfl) (by kernel_rfl) (fun _ _ _ h => h) (Some'.weak (.skip (.take (.nil _)))) rfl (OpY.pure rfl) ?_
       refine DW.take (i := 1) (v := .pointer (some ⟨b1, 0, none⟩)) rfl (by kernel_rfl) (by kernel_rfl) (by kernel_rfl) (fun _ _ _ h => h) (Some'.weak (.skip (.take (.nil _)))) rfl (OpY.pure rfl) ?_
       refine DW.take (i := 2) (v := .pointer (some ⟨b1, 0, none⟩)) rfl (by kernel_rfl) (by kernel_rfl) (by kernel_rfl) (fun _ _ _ h => h) (Some'.weak (.skip (.take (.nil _)))) rfl (OpY.nilCheck rfl) ?_
       refine DW.take (i := 3) (v := .pointer (some ⟨b1, 0, none⟩)) rfl (by kernel_rfl) (by kernel_rfl) (by kernel_rfl) (fun _ _ _ h => h) (Some'.weak (.skip (.take (.nil _)))) rfl (OpY.fieldAddr Tfo_54_0 rfl rfl) ?_
       refine DW.take (i := 5) (v := .agg #[sv (x.word), .int .i64 (x.g3.1), .int .i64 (x.g3.2.1), .int .i64 (x.g3.2.2), .int .i64 (x.num), sv (x.nm), .slice A_v11 (x.ar.length) c_v11]) rfl (by kernel_rfl) (by kernel_rfl) (by kernel_rfl) (fun _ _ _ h => h) (Some'.weak (.skip (.take (.nil _)))) rfl (OpY.loadN (cs := [sv (x.word), .int .i64 (x.g3.1), .int .i64 (x.g3.2.1), .int .i64 (x.g3.2.2), .int .i64 (x.num), sv (x.nm), .slice A_v11 (x.ar.length) c_v11]) Tagg_77 rfl (Cells.blk (.head _) ⟨rfl, rfl, rfl, rfl, rfl, rfl, rfl, trivial⟩)) ?_
       refine DW.two (i := 4) (j := 6) (by kernel_rfl) rfl rfl rfl rfl ?_ ?_
       ·refine OpStep.q (v := vl) (OpQ.y (OpY.load1 Tone_51 rfl (Cells.blk (.tail _ (.tail _ (List.Mem.head _))) ⟨rfl, trivial⟩))) ?_
        refine ⟨(Some'.weak (.skip (.take (.nil _)))), ?_⟩
        refine DW.step (i := 6) (by kernel_rfl) rfl rfl (OpStep.buildSlice (us := [sv (x.word), .int .i64 (x.g3.1), .int .i64 (x.g3.2.1), .int .i64 (x.g3.2.2), .int .i64 (x.num), sv (x.nm), .slice A_v11 (x.ar.length) c_v11]) Tsl_51 (by decide) (by decide) ⟨rfl, [sv (x.word), .int .i64 (x.g3.1), .int .i64 (x.g3.2.1), .int .i64 (x.g3.2.2), .int .i64 (x.num), sv (x.nm), .slice A_v11 (x.ar.length) c_v11], _, rfl, rfl, rfl, rfl⟩ rfl fun b3 => ?_)
        refine ⟨(Some'.weak (.skip (.skip (.take (.nil _))))), ?_⟩
        refine DW.step (i := 7) (by kernel_rfl) rfl rfl (OpStep.append (H1 := [.own (.slice (some ⟨b3, 0, none⟩) 1 1) 77 7 1 ([sv (x.word), .int .i64 (x.g3.1), .int .i64 (x.g3.2.1), .int .i64 (x.g3.2.2), .int .i64 (x.num), sv (x.nm), .slice A_v11 (x.ar.length) c_v11]), .grp 3 1 (rgr (L ++ [lv x (.slice A_v11 (x.ar.length) c_v11)])), .blk b2 77 [sv (x.word), .int .i64 (x.g3.1), .int .i64 (x.g3.2.1), .int .i64 (x.g3.2.2), .int .i64 (x.num), sv (x.nm), .slice A_v11 (x.ar.length) c_v11], .blk b1 54 [vl, .slice none 0 0]]) (H2 := [.own (.slice (some ⟨gp, 0, none⟩) (P.length) c_pv1) 9 1 (P.length) (strs P)]) (v := vl) (u := .slice (some ⟨b3, 0, none⟩) 1 1) (n := L.length) (m := 1) (xs := rls L) (ys := [sv (x.word), .int .i64 (x.g3.1), .int .i64 (x.g3.2.1), .int .i64 (x.g3.2.2), .int .i64 (x.num), sv (x.nm), .slice A_v11 (x.ar.length) c_v11]) Tsl_51 (by decide) rfl rfl rfl rfl (fun w hs => hs.slOwn (.head _)) (by simp [Value.oneCell']) (by omega) (by simp only [maxLen]; omega) fun av1 hnav1 => ?_)
        refine DW.weakS (H' := [.own (.slice (some ⟨b3, 0, none⟩) 1 1) 77 7 1 ([sv (x.word), .int .i64 (x.g3.1), .int .i64 (x.g3.2.1), .int .i64 (x.g3.2.2), .int .i64 (x.num), sv (x.nm), .slice A_v11 (x.ar.length) c_v11]), .grp 3 1 (rgr (L ++ [lv x (.slice A_v11 (x.ar.length) c_v11)])), .blk b2 77 [sv (x.word), .int .i64 (x.g3.1), .int .i64 (x.g3.2.1), .int .i64 (x.g3.2.2), .int .i64 (x.num), sv (x.nm), .slice A_v11 (x.ar.length) c_v11], .blk b1 54 [vl, .slice none 0 0], .own av1 77 7 ((L ++ [lv x (.slice A_v11 (x.ar.length) c_v11)]).length) (rls (L ++ [lv x (.slice A_v11 (x.ar.length) c_v11)])), .own (.slice (some ⟨gp, 0, none⟩) (P.length) c_pv1) 9 1 (P.length) (strs P)]) (Some'.weak (.take (.take (.take (.take (.takeEq (by simp [rls, rle]) (.take (.nil _)))))))) ?_
        refine ⟨(Some'.weak (.skip (.skip (.take (.nil _))))), ?_⟩
        refine DW.take (i := 8) (v := .pointer (some ⟨b1, 0, none⟩)) rfl (by kernel_rfl) (by kernel_rfl) (by kernel_rfl) (fun _ _ _ h => h) (Some'.weak (.skip (.skip (.take (.nil _))))) rfl (OpY.nilCheck rfl) ?_
        refine DW.take (i := 9) (v := .pointer (some ⟨b1, 0, none⟩)) rfl (by kernel_rfl) (by kernel_rfl) (by kernel_rfl) (fun _ _ _ h => h) (Some'.weak (.skip (.skip (.take (.nil _))))) rfl (OpY.fieldAddr Tfo_54_0 rfl rfl) ?_
        refine DW.formOwn (.tail _ (.tail _ (.tail _ (.tail _ (List.Mem.head _))))) (fun A_av11 c_av11 hv hcapc_av11 hmaxc_av11 => ?_)
        subst hv
        refine DW.step (i := 10) (by kernel_rfl) rfl rfl (OpStep.store (us := [.slice A_av11 ((L ++ [lv x (.slice A_v11 (x.ar.length) c_v11)]).length) c_av11]) Tsize_51 rfl rfl rfl (.there _ (.there _ (.there _ (.here _)))) (by simp only [List.length_cons, List.length_nil]; omega) ?_)
        show Weak [.own (.slice (some ⟨b3, 0, none⟩) 1 1) 77 7 1 ([sv (x.word), .int .i64 (x.g3.1), .int .i64 (x.g3.2.1), .int .i64 (x.g3.2.2), .int .i64 (x.num), sv (x.nm), .slice A_v11 (x.ar.length) c_v11]), .grp 3 1 (rgr (L ++ [lv x (.slice A_v11 (x.ar.length) c_v11)])), .blk b2 77 [sv (x.word), .int .i64 (x.g3.1), .int .i64 (x.g3.2.1), .int .i64 (x.g3.2.2), .int .i64 (x.num), sv (x.nm), .slice A_v11 (x.ar.length) c_v11], .blk b1 54 [.slice A_av11 ((L ++ [lv x (.slice A_v11 (x.ar.length) c_v11)]).length) c_av11, .slice none 0 0], .own (.slice A_av11 ((L ++ [lv x (.slice A_v11 (x.ar.length) c_v11)]).length) c_av11) 77 7 ((L ++ [lv x (.slice A_v11 (x.ar.length) c_v11)]).length) (rls (L ++ [lv x (.slice A_v11 (x.ar.length) c_v11)])), .own (.slice (some ⟨gp, 0, none⟩) (P.length) c_pv1) 9 1 (P.length) (strs P)] _ ∧ DW _ _ _ _ _ _ _ [.own (.slice (some ⟨b3, 0, none⟩) 1 1) 77 7 1 ([sv (x.word), .int .i64 (x.g3.1), .int .i64 (x.g3.2.1), .int .i64 (x.g3.2.2), .int .i64 (x.num), sv (x.nm), .slice A_v11 (x.ar.length) c_v11]), .grp 3 1 (rgr (L ++ [lv x (.slice A_v11 (x.ar.length) c_v11)])), .blk b2 77 [sv (x.word), .int .i64 (x.g3.1), .int .i64 (x.g3.2.1), .int .i64 (x.g3.2.2), .int .i64 (x.num), sv (x.nm), .slice A_v11 (x.ar.length) c_v11], .blk b1 54 [.slice A_av11 ((L ++ [lv x (.slice A_v11 (x.ar.length) c_v11)]).length) c_av11, .slice none 0 0], .own (.slice A_av11 ((L ++ [lv x (.slice A_v11 (x.ar.length) c_v11)]).length) c_av11) 77 7 ((L ++ [lv x (.slice A_v11 (x.ar.length) c_v11)]).length) (rls (L ++ [lv x (.slice A_v11 (x.ar.length) c_v11)])), .own (.slice (some ⟨gp, 0, none⟩) (P.length) c_pv1) 9 1 (P.length) (strs P)]
        refine ⟨(Some'.weak (.skip (.skip (.take (.nil _))))), ?_⟩
        refine DW.done (by kernel_rfl) ?_
        refine Run.blockEnd ?_
        refine Run.region ?_
        refine Run.y (.int .i64 ((((k : Nat) : Int)) + 1)) rfl (OpY.add rfl rfl rfl (by omega) (by omega)) ?_
        refine Run.p (.int .i64 ((((k : Nat) : Int)) + 1)) rfl rfl ?_
        refine Run.done ?_
        refine Run.goal ⟨(by repeat (first | exact Same.refl _ _ | refine Same.put rfl ?_ | refine Same.over rfl rfl ?_)), (k + 1, (L ++ [lv x (.slice A_v11 (x.ar.length) c_v11)]), .slice A_av11 ((L ++ [lv x (.slice A_v11 (x.ar.length) c_v11)]).length) c_av11), ?_, ?_, ?_, ?_⟩
        ·refine ⟨by omega, by simp [hLk], by rw [lns_succ hx, List.map_append, hLm]; rfl, ?_⟩
         intro i hi
         rcases Nat.lt_succ_iff_lt_or_eq.1 hi with h | h
         ·exact hgoodk i h
         ·rw [h, badAt, hx]; rfl
        ·show P.length - (k + 1) < P.length - k; omega
        ·exact ⟨(by first | rfl | (congr 1; omega) | simp), trivial⟩
        ·exact ((Weak.selF [3, 3, 1, 2]).trans (Some'.weak (.takeEq (by first | rfl | simp) (.takeEq (by first | rfl | simp) (.takeEq (by first | rfl | simp) (.takeEq (by first | rfl | simp) (.nil _)))))))
       ·refine OpStep.buildSlice (us := [sv (x.word), .int .i64 (x.g3.1), .int .i64 (x.g3.2.1), .int .i64 (x.g3.2.2), .int .i64 (x.num), sv (x.nm), .slice A_v11 (x.ar.length) c_v11]) Tsl_51 (by decide) (by decide) ⟨rfl, [sv (x.word), .int .i64 (x.g3.1), .int .i64 (x.g3.2.1), .int .i64 (x.g3.2.2), .int .i64 (x.num), sv (x.nm), .slice A_v11 (x.ar.length) c_v11], _, rfl, rfl, rfl, rfl⟩ rfl fun b4 => ?_
        refine ⟨(Some'.weak (.skip (.skip (.take (.nil _))))), ?_⟩
        refine DW.step (i := 4) (by kernel_rfl) rfl rfl (OpStep.q (v := vl) (OpQ.y (OpY.load1 Tone_51 rfl (Cells.blk (.tail _ (.tail _ (.tail _ (List.Mem.head _)))) ⟨rfl, trivial⟩))) ?_)
        refine ⟨(Some'.weak (.skip (.skip (.take (.nil _))))), ?_⟩
        refine DW.step (i := 7) (by kernel_rfl) rfl rfl (OpStep.append (H1 := [.own (.slice (some ⟨b4, 0, none⟩) 1 1) 77 7 1 ([sv (x.word), .int .i64 (x.g3.1), .int .i64 (x.g3.2.1), .int .i64 (x.g3.2.2), .int .i64 (x.num), sv (x.nm), .slice A_v11 (x.ar.length) c_v11]), .grp 3 1 (rgr (L ++ [lv x (.slice A_v11 (x.ar.length) c_v11)])), .blk b2 77 [sv (x.word), .int .i64 (x.g3.1), .int .i64 (x.g3.2.1), .int .i64 (x.g3.2.2), .int .i64 (x.num), sv (x.nm), .slice A_v11 (x.ar.length) c_v11], .blk b1 54 [vl, .slice none 0 0]]) (H2 := [.own (.slice (some ⟨gp, 0, none⟩) (P.length) c_pv1) 9 1 (P.length) (strs P)]) (v := vl) (u := .slice (some ⟨b4, 0, none⟩) 1 1) (n := L.length) (m := 1) (xs := rls L) (ys := [sv (x.word), .int .i64 (x.g3.1), .int .i64 (x.g3.2.1), .int .i64 (x.g3.2.2), .int .i64 (x.num), sv (x.nm), .slice A_v11 (x.ar.length) c_v11]) Tsl_51 (by decide) rfl rfl rfl rfl (fun w hs => hs.slOwn (.head _)) (by simp [Value.oneCell']) (by omega) (by simp only [maxLen]; omega) fun av2 hnav2 => ?_)
        refine DW.weakS (H' := [.own (.slice (some ⟨b4, 0, none⟩) 1 1) 77 7 1 ([sv (x.word), .int .i64 (x.g3.1), .int .i64 (x.g3.2.1), .int .i64 (x.g3.2.2), .int .i64 (x.num), sv (x.nm), .slice A_v11 (x.ar.length) c_v11]), .grp 3 1 (rgr (L ++ [lv x (.slice A_v11 (x.ar.length) c_v11)])), .blk b2 77 [sv (x.word), .int .i64 (x.g3.1), .int .i64 (x.g3.2.1), .int .i64 (x.g3.2.2), .int .i64 (x.num), sv (x.nm), .slice A_v11 (x.ar.length) c_v11], .blk b1 54 [vl, .slice none 0 0], .own av2 77 7 ((L ++ [lv x (.slice A_v11 (x.ar.length) c_v11)]).length) (rls (L ++ [lv x (.slice A_v11 (x.ar.length) c_v11)])), .own (.slice (some ⟨gp, 0, none⟩) (P.length) c_pv1) 9 1 (P.length) (strs P)]) (Some'.weak (.take (.take (.take (.take (.takeEq (by simp [rls, rle]) (.take (.nil _)))))))) ?_
        refine ⟨(Some'.weak (.skip (.skip (.take (.nil _))))), ?_⟩
        refine DW.take (i := 8) (v := .pointer (some ⟨b1, 0, none⟩)) rfl (by kernel_rfl) (by kernel_rfl) (by kernel_rfl) (fun _ _ _ h => h) (Some'.weak (.skip (.skip (.take (.nil _))))) rfl (OpY.nilCheck rfl) ?_
        refine DW.take (i := 9) (v := .pointer (some ⟨b1, 0, none⟩)) rfl (by kernel_rfl) (by kernel_rfl) (by kernel_rfl) (fun _ _ _ h => h) (Some'.weak (.skip (.skip (.take (.nil _))))) rfl (OpY.fieldAddr Tfo_54_0 rfl rfl) ?_
        refine DW.formOwn (.tail _ (.tail _ (.tail _ (.tail _ (List.Mem.head _))))) (fun A_av21 c_av21 hv hcapc_av21 hmaxc_av21 => ?_)
        subst hv
        refine DW.step (i := 10) (by kernel_rfl) rfl rfl (OpStep.store (us := [.slice A_av21 ((L ++ [lv x (.slice A_v11 (x.ar.length) c_v11)]).length) c_av21]) Tsize_51 rfl rfl rfl (.there _ (.there _ (.there _ (.here _)))) (by simp only [List.length_cons, List.length_nil]; omega) ?_)
        show Weak [.own (.slice (some ⟨b4, 0, none⟩) 1 1) 77 7 1 ([sv (x.word), .int .i64 (x.g3.1), .int .i64 (x.g3.2.1), .int .i64 (x.g3.2.2), .int .i64 (x.num), sv (x.nm), .slice A_v11 (x.ar.length) c_v11]), .grp 3 1 (rgr (L ++ [lv x (.slice A_v11 (x.ar.length) c_v11)])), .blk b2 77 [sv (x.word), .int .i64 (x.g3.1), .int .i64 (x.g3.2.1), .int .i64 (x.g3.2.2), .int .i64 (x.num), sv (x.nm), .slice A_v11 (x.ar.length) c_v11], .blk b1 54 [.slice A_av21 ((L ++ [lv x (.slice A_v11 (x.ar.length) c_v11)]).length) c_av21, .slice none 0 0], .own (.slice A_av21 ((L ++ [lv x (.slice A_v11 (x.ar.length) c_v11)]).length) c_av21) 77 7 ((L ++ [lv x (.slice A_v11 (x.ar.length) c_v11)]).length) (rls (L ++ [lv x (.slice A_v11 (x.ar.length) c_v11)])), .own (.slice (some ⟨gp, 0, none⟩) (P.length) c_pv1) 9 1 (P.length) (strs P)] _ ∧ DW _ _ _ _ _ _ _ [.own (.slice (some ⟨b4, 0, none⟩) 1 1) 77 7 1 ([sv (x.word), .int .i64 (x.g3.1), .int .i64 (x.g3.2.1), .int .i64 (x.g3.2.2), .int .i64 (x.num), sv (x.nm), .slice A_v11 (x.ar.length) c_v11]), .grp 3 1 (rgr (L ++ [lv x (.slice A_v11 (x.ar.length) c_v11)])), .blk b2 77 [sv (x.word), .int .i64 (x.g3.1), .int .i64 (x.g3.2.1), .int .i64 (x.g3.2.2), .int .i64 (x.num), sv (x.nm), .slice A_v11 (x.ar.length) c_v11], .blk b1 54 [.slice A_av21 ((L ++ [lv x (.slice A_v11 (x.ar.length) c_v11)]).length) c_av21, .slice none 0 0], .own (.slice A_av21 ((L ++ [lv x (.slice A_v11 (x.ar.length) c_v11)]).length) c_av21) 77 7 ((L ++ [lv x (.slice A_v11 (x.ar.length) c_v11)]).length) (rls (L ++ [lv x (.slice A_v11 (x.ar.length) c_v11)])), .own (.slice (some ⟨gp, 0, none⟩) (P.length) c_pv1) 9 1 (P.length) (strs P)]
        refine ⟨(Some'.weak (.skip (.skip (.take (.nil _))))), ?_⟩
        refine DW.done (by kernel_rfl) ?_
        refine Run.blockEnd ?_
        refine Run.region ?_
        refine Run.y (.int .i64 ((((k : Nat) : Int)) + 1)) rfl (OpY.add rfl rfl rfl (by omega) (by omega)) ?_
        refine Run.p (.int .i64 ((((k : Nat) : Int)) + 1)) rfl rfl ?_
        refine Run.done ?_
        refine Run.goal ⟨(by repeat (first | exact Same.refl _ _ | refine Same.put rfl ?_ | refine Same.over rfl rfl ?_)), (k + 1, (L ++ [lv x (.slice A_v11 (x.ar.length) c_v11)]), .slice A_av21 ((L ++ [lv x (.slice A_v11 (x.ar.length) c_v11)]).length) c_av21), ?_, ?_, ?_, ?_⟩
        ·refine ⟨by omega, by simp [hLk], by rw [lns_succ hx, List.map_append, hLm]; rfl, ?_⟩
         intro i hi
         rcases Nat.lt_succ_iff_lt_or_eq.1 hi with h | h
         ·exact hgoodk i h
         ·rw [h, badAt, hx]; rfl
        ·show P.length - (k + 1) < P.length - k; omega
        ·exact ⟨(by first | rfl | (congr 1; omega) | simp), trivial⟩
        ·exact ((Weak.selF [3, 3, 1, 2]).trans (Some'.weak (.takeEq (by first | rfl | simp) (.takeEq (by first | rfl | simp) (.takeEq (by first | rfl | simp) (.takeEq (by first | rfl | simp) (.nil _)))))))
     ·have p39 := h39; try simp only [bs] at p39
      have hkn : k = P.length := by omega
      obtain ⟨hk, hLk, hLm, hgoodk⟩ := hinv
      have hf0 : fltL P = 0 := by rw [fltL, findI_none fun i hi => hgoodk i (by omega)]; rfl
      have hLX : L.map (·.1) = X := by rw [hLm, hkn, ← hX, lnsP, hP]
      have hXL : X.length = L.length := by rw [← hLX, List.length_map]
      have hXP : lns P P.length = X := by rw [← hX, lnsP, hP]
      have hcX : CallsOk X := by rw [← hXP]; exact lns_calls hf0
      have hq0 : (liAt X 0).word = wQ := by rw [← hXP]; exact lns_q hf0 hP1
      have hoq : OneQ X := by rw [← hXP]; exact lns_one hf0
      have hn1 : 1 ≤ L.length := by omega
      have hf : ¬ 0 < fltL (piecesP s) := by rw [hP]; omega
      refine Run.exit rfl ?_
      refine Run.seq ?_
      refine Run.sr ?_
      refine Run.p (.pointer (some ⟨b1, 0, none⟩)) rfl rfl ?_
      refine Run.q (v := .int .i64 (fbL X)) rfl (OpQ.call (vs := [.pointer (some ⟨b1, 0, none⟩)]) (caps := []) Tcall_51 rfl rfl (fun w hs => (by have h := blocks_spec (hs.slBlk (.head _)) (hs.slOwn (.tail _ (List.Mem.head _))) (hs.rq (.tail _ (.tail _ (List.Mem.head _)))) (by rw [hLX]; exact hq0) hn1 (by omega); rw [hLX] at h; exact h))) ?_
      refine Run.p (.int .i64 (fbL X)) rfl rfl ?_
      refine Run.dsr ?_
      refine Run.p (.int .i64 (fbL X)) rfl rfl ?_
      refine Run.p (.bool (decide ((fbL X) > 0))) rfl rfl ?_
      refine Run.done ?_
      refine Run.cond (b := decide ((fbL X) > 0)) rfl (fun h69 => ?_) (fun h69 => ?_)
      ·have p69 := h69; try simp only [bs] at p69
       refine Run.seq ?_
       refine Run.weak (H' := [.grp 69 3 (ggr []), .blk b1 54 [vl, .slice none 0 0], .own vl 77 7 (L.length) (rls L), .grp 3 1 (rgr L), .own (.slice (some ⟨gp, 0, none⟩) (P.length) c_pv1) 9 1 (P.length) (strs P)]) (Weak.grpNil _ _) ?_ ⟨_, _, rfl, fun _ => nofun, fun _ => nofun⟩
       refine Run.region ?_
       refine Run.p (.pointer (some ⟨b1, 0, none⟩)) rfl rfl ?_
       refine Run.p (.int .i64 (fbL X)) rfl rfl ?_
       refine Run.p (.pointer (some ⟨b1, 0, none⟩)) rfl rfl ?_
       refine Run.p (.slice none 0 0) rfl rfl ?_
       refine Run.p (.int .i64 3) rfl rfl ?_
       refine Run.p (.int .i64 (fbL X)) rfl rfl ?_
       refine Run.done ?_
       refine Run.ret ?_
       refine ⟨.tuple #[.pointer (some ⟨b1, 0, none⟩), .slice none 0 0, .int .i64 3, .int .i64 (fbL X)], [.blk b1 54 [vl, .slice none 0 0], .own vl 77 7 (L.length) (rls L), .grp 3 1 (rgr L), .own (.slice none 0 0) 22 1 (([] : List GV).length) (gvs ([] : List GV)), .grp 69 3 (ggr []), .own (.slice none 0 0) 50 4 (([] : List Dn).length) (dns ([] : List Dn))], Out.four rfl rfl rfl rfl rfl, ((Weak.nilOwn 50 4).trans ((Weak.nilOwn 22 1).trans ((Weak.selF [3, 3, 3, 0, 1, 0]).trans (Some'.weak (.take (.take (.take (.takeEq (by first | rfl | simp) (.take (.takeEq (by first | rfl | simp) (.nil _))))))))))), ?_⟩
       exact ck_bad (L := L) (G := []) (T := []) (by rw [rtC3 hgo hf (by rw [hX]; omega), hX]) (by decide)
      ·have p69 := h69; try simp only [bs] at p69
       refine Run.skip ?_
       refine Run.seq ?_
       have hb : ¬ 0 < fbL (lnsP s) := by rw [hX]; omega
       obtain ⟨T, hT⟩ : ∃ T, dfsR X = T := ⟨_, rfl⟩
       obtain ⟨ps, hps⟩ := fbL_prog hoq (by omega) (show fbL X = 0 by have := fbL_ge X; omega)
       have hTt : tt X ps = T := by rw [← hT, dfsR_prog hps hq0]
       obtain ⟨hp, hfin⟩ := run_all hcX hps hq0 (by omega)
       have hwid := wid_ok hcX hps hq0 (by omega)
       have hTl : T.length ≤ X.length := by rw [← hT]; exact (dfT_len X X.length).1
       rw [hTt] at hp hfin hwid
       refine Run.region ?_
       refine Run.p (.pointer (some ⟨b1, 0, none⟩)) rfl rfl ?_
       refine Run.step rfl (OpStep.call (vs := [.pointer (some ⟨b1, 0, none⟩)]) (caps := []) Tcall_52 rfl rfl (fun w hs => (by have h := defs_spec (hs.slBlk (.head _)) (hs.slOwn (.tail _ (List.Mem.head _))) (hs.rq (.tail _ (.tail _ (List.Mem.head _)))) (by omega); rw [hLX, hT] at h; exact h)) ?_)
       rintro vt _ rfl
       show Run _ _ (putF _ _ _ vt) [.own vt 50 4 (T.length) (dns T), .blk b1 54 [vl, .slice none 0 0], .own vl 77 7 (L.length) (rls L), .grp 3 1 (rgr L), .own (.slice (some ⟨gp, 0, none⟩) (P.length) c_pv1) 9 1 (P.length) (strs P)]
       refine Run.p (vt) rfl rfl ?_
       refine Run.done ?_
       refine Run.seq ?_
       refine Run.sr ?_
       refine Run.p (.pointer (some ⟨b1, 0, none⟩)) rfl rfl ?_
       refine Run.p (vt) rfl rfl ?_
       refine Run.q (v := .int .i64 (namR T X)) rfl (OpQ.call (vs := [.pointer (some ⟨b1, 0, none⟩), vt]) (caps := []) Tcall_53 rfl rfl (fun w hs => (by have h := names_spec (hs.slBlk (.tail _ (List.Mem.head _))) (hs.slOwn (.tail _ (.tail _ (List.Mem.head _)))) (hs.rq (.tail _ (.tail _ (.tail _ (List.Mem.head _))))) (hs.slOwn (.head _)) hn1 (by omega); rw [hLX] at h; exact h))) ?_
       refine Run.p (.int .i64 (namR T X)) rfl rfl ?_
       refine Run.dsr ?_
       refine Run.p (.int .i64 (namR T X)) rfl rfl ?_
       refine Run.p (.bool (decide ((namR T X) > 0))) rfl rfl ?_
       refine Run.done ?_
       refine Run.cond (b := decide ((namR T X) > 0)) rfl (fun h78 => ?_) (fun h78 => ?_)
       ·have p78 := h78; try simp only [bs] at p78
        refine Run.seq ?_
        refine Run.weak (H' := [.grp 69 3 (ggr []), .own vt 50 4 (T.length) (dns T), .blk b1 54 [vl, .slice none 0 0], .own vl 77 7 (L.length) (rls L), .grp 3 1 (rgr L), .own (.slice (some ⟨gp, 0, none⟩) (P.length) c_pv1) 9 1 (P.length) (strs P)]) (Weak.grpNil _ _) ?_ ⟨_, _, rfl, fun _ => nofun, fun _ => nofun⟩
        refine Run.region ?_
        refine Run.p (.pointer (some ⟨b1, 0, none⟩)) rfl rfl ?_
        refine Run.p (.int .i64 (namR T X)) rfl rfl ?_
        refine Run.p (.pointer (some ⟨b1, 0, none⟩)) rfl rfl ?_
        refine Run.p (.slice none 0 0) rfl rfl ?_
        refine Run.p (.int .i64 4) rfl rfl ?_
        refine Run.p (.int .i64 (namR T X)) rfl rfl ?_
        refine Run.done ?_
        refine Run.ret ?_
        refine ⟨.tuple #[.pointer (some ⟨b1, 0, none⟩), .slice none 0 0, .int .i64 4, .int .i64 (namR T X)], [.blk b1 54 [vl, .slice none 0 0], .own vl 77 7 (L.length) (rls L), .grp 3 1 (rgr L), .own (.slice none 0 0) 22 1 (([] : List GV).length) (gvs ([] : List GV)), .grp 69 3 (ggr []), .own (.slice none 0 0) 50 4 (([] : List Dn).length) (dns ([] : List Dn))], Out.four rfl rfl rfl rfl rfl, ((Weak.nilOwn 50 4).trans ((Weak.nilOwn 22 1).trans ((Weak.selF [4, 4, 4, 0, 1, 0]).trans (Some'.weak (.take (.take (.take (.takeEq (by first | rfl | simp) (.take (.takeEq (by first | rfl | simp) (.nil _))))))))))), ?_⟩
        exact ck_bad (L := L) (G := []) (T := []) (rt_nam hgo hf hb hX hp (by omega)) (by decide)
       ·have p78 := h78; try simp only [bs] at p78
        have hN0 : namR T X = 0 := by have := namR_ge T X; omega
        refine Run.skip ?_
        refine Run.seq ?_
        refine Run.sr ?_
        refine Run.p (.pointer (some ⟨b1, 0, none⟩)) rfl rfl ?_
        refine Run.p (vt) rfl rfl ?_
        refine Run.q (v := .int .i64 (gatR T X)) rfl (OpQ.call (vs := [.pointer (some ⟨b1, 0, none⟩), vt]) (caps := []) Tcall_54 rfl rfl (fun w hs => (by have h := gates_spec (hs.slBlk (.tail _ (List.Mem.head _))) (hs.slOwn (.tail _ (.tail _ (List.Mem.head _)))) (hs.rq (.tail _ (.tail _ (.tail _ (List.Mem.head _))))) (hs.slOwn (.head _)) hn1 (by omega) (by rw [hLX]; exact hwid) (by rw [hLX]; exact fin_okR hN0); rw [hLX] at h; exact h))) ?_
        refine Run.p (.int .i64 (gatR T X)) rfl rfl ?_
        refine Run.dsr ?_
        refine Run.p (.int .i64 (gatR T X)) rfl rfl ?_
        refine Run.p (.bool (decide ((gatR T X) > 0))) rfl rfl ?_
        refine Run.done ?_
        refine Run.cond (b := decide ((gatR T X) > 0)) rfl (fun h85 => ?_) (fun h85 => ?_)
        ·have p85 := h85; try simp only [bs] at p85
         refine Run.seq ?_
         refine Run.weak (H' := [.grp 69 3 (ggr []), .own vt 50 4 (T.length) (dns T), .blk b1 54 [vl, .slice none 0 0], .own vl 77 7 (L.length) (rls L), .grp 3 1 (rgr L), .own (.slice (some ⟨gp, 0, none⟩) (P.length) c_pv1) 9 1 (P.length) (strs P)]) (Weak.grpNil _ _) ?_ ⟨_, _, rfl, fun _ => nofun, fun _ => nofun⟩
         refine Run.region ?_
         refine Run.p (.pointer (some ⟨b1, 0, none⟩)) rfl rfl ?_
         refine Run.p (.int .i64 (gatR T X)) rfl rfl ?_
         refine Run.p (.pointer (some ⟨b1, 0, none⟩)) rfl rfl ?_
         refine Run.p (.slice none 0 0) rfl rfl ?_
         refine Run.p (.int .i64 5) rfl rfl ?_
         refine Run.p (.int .i64 (gatR T X)) rfl rfl ?_
         refine Run.done ?_
         refine Run.ret ?_
         refine ⟨.tuple #[.pointer (some ⟨b1, 0, none⟩), .slice none 0 0, .int .i64 5, .int .i64 (gatR T X)], [.blk b1 54 [vl, .slice none 0 0], .own vl 77 7 (L.length) (rls L), .grp 3 1 (rgr L), .own (.slice none 0 0) 22 1 (([] : List GV).length) (gvs ([] : List GV)), .grp 69 3 (ggr []), .own (.slice none 0 0) 50 4 (([] : List Dn).length) (dns ([] : List Dn))], Out.four rfl rfl rfl rfl rfl, ((Weak.nilOwn 50 4).trans ((Weak.nilOwn 22 1).trans ((Weak.selF [4, 4, 4, 0, 1, 0]).trans (Some'.weak (.take (.take (.take (.takeEq (by first | rfl | simp) (.take (.takeEq (by first | rfl | simp) (.nil _))))))))))), ?_⟩
         exact ck_bad (L := L) (G := []) (T := []) (rt_gat hgo hf hb hX hp hN0 (by omega)) (by decide)
        ·have p85 := h85; try simp only [bs] at p85
         have hG0 : gatR T X = 0 := by have := gatR_ge T X; omega
         obtain ⟨FD, FM, hF⟩ := hfin (noEv_of hN0 hG0)
         refine Run.skip ?_
         refine Run.seq ?_
         refine Run.seq ?_
         refine Run.weak (H' := [.own (.slice none 0 0) 22 1 0 (gvs []), .own vt 50 4 (T.length) (dns T), .blk b1 54 [vl, .slice none 0 0], .own vl 77 7 (L.length) (rls L), .grp 3 1 (rgr L), .own (.slice (some ⟨gp, 0, none⟩) (P.length) c_pv1) 9 1 (P.length) (strs P)]) (Weak.nilOwn _ _) ?_ ⟨_, _, rfl, fun _ => nofun, fun _ => nofun⟩
         refine Run.weak (H' := [.grp 69 3 (ggr []), .own (.slice none 0 0) 22 1 0 (gvs []), .own vt 50 4 (T.length) (dns T), .blk b1 54 [vl, .slice none 0 0], .own vl 77 7 (L.length) (rls L), .grp 3 1 (rgr L), .own (.slice (some ⟨gp, 0, none⟩) (P.length) c_pv1) 9 1 (P.length) (strs P)]) (Weak.grpNil _ _) ?_ ⟨_, _, rfl, fun _ => nofun, fun _ => nofun⟩
         refine Run.region ?_
         refine Run.p (vt) rfl rfl ?_
         refine Run.formOwn (.tail _ (.tail _ (List.Mem.head _))) (fun A_vt1 c_vt1 hv hcapc_vt1 hmaxc_vt1 => ?_) (fun _ _ _ => ⟨nofun, nofun, nofun⟩)
         subst hv
         refine Run.y (.int .i64 (((T.length : Nat) : Int))) rfl (OpY.len Tsl_46 rfl) ?_
         refine Run.p (.int .i64 0) rfl rfl ?_
         refine Run.done ?_
         refine Run.block ?_
         refine Run.loop (ι := Nat × List GV × Value) [2, 3, 4, 5, 16, 90, 91, 92, 93, 94, 95, 96, 97, 98, 99, 100, 101, 102, 103, 104, 105, 106, 107, 108, 109, 110, 111, 112, 113, 114, 115, 116, 117, 118, 119, 120, 121, 122, 123, 124, 125] (fun ⟨j, G, vd⟩ => [(90, .int .i64 (((j : Nat) : Int)))]) (fun ⟨j, G, vd⟩ => [.blk b1 54 [vl, vd], .own vd 22 1 (G.length) (gvs G), .grp 69 3 (ggr G), .own vl 77 7 (L.length) (rls L), .grp 3 1 (rgr L), .own (.slice A_vt1 (T.length) c_vt1) 50 4 (T.length) (dns T)]) (fun ⟨j, G, vd⟩ => j ≤ T.length ∧ G.length = j ∧ G.map (·.1) = FD.take j ∧ ∀ q, q < j → (gsx FD q).length ≤ 400) (fun ⟨j, G, vd⟩ => T.length - j) (0, [], .slice none 0 0) ?_ ?_ ?_ ?_
         ·exact ⟨Nat.zero_le _, rfl, rfl, fun q hq => by omega⟩
         ·exact ⟨rfl, trivial⟩
         ·exact ((Weak.selF [3, 1, 0, 1, 1, 0]).trans (Some'.weak (.takeEq (by first | rfl | simp) (.takeEq (by first | rfl | simp) (.takeEq (by first | rfl | simp) (.take (.take (.take (.nil _)))))))))
         ·rintro ⟨j, G, vd⟩ fr hinv
          show Run _ _ (over _ _ [(90, .int .i64 (((j : Nat) : Int)))] fr) [.blk b1 54 [vl, vd], .own vd 22 1 (G.length) (gvs G), .grp 69 3 (ggr G), .own vl 77 7 (L.length) (rls L), .grp 3 1 (rgr L), .own (.slice A_vt1 (T.length) c_vt1) 50 4 (T.length) (dns T)]
          try dsimp only at hinv
          refine Run.sr ?_
          refine Run.p (.bool (decide ((((j : Nat) : Int)) < (((T.length : Nat) : Int))))) rfl rfl ?_
          refine Run.done ?_
          refine Run.seq ?_
          refine Run.cond (b := decide ((((j : Nat) : Int)) < (((T.length : Nat) : Int)))) rfl (fun h91 => ?_) (fun h91 => ?_)
          ·have p91 := h91; try simp only [bs] at p91
           have hltj : j < T.length := by omega
           obtain ⟨hj, hGl, hGF, hj4⟩ := hinv
           have hbd := hF.bnd j hltj
           have hol := exc_len (X := X) (T := T) (gsx_400 hj4) _ (dnx T j).a.toNat (dnx T j).z.toNat [] rfl (by omega) (by simp)
           refine Run.openOwn (.tail _ (.tail _ (.tail _ (.tail _ (.tail _ (List.Mem.head _)))))) (by omega) (fun gt ct hvgt hcapgt _ => ?_) (fun _ _ _ => ⟨nofun, nofun, nofun⟩)
           injection hvgt with hAgt _ hcgt; subst hAgt; subst hcgt
           refine Run.skip ?_
           refine Run.seq ?_
           refine Run.block ?_
           refine Run.sr ?_
           refine Run.y (.pointer (some ⟨gt, j * 4, none⟩)) rfl (OpY.index (kk := j) Tsl_46 rfl rfl (by omega) (by omega) (by first | rfl | omega)) ?_
           refine Run.y (.agg #[sv ((dnx T j).nm), .int .i64 ((dnx T j).n), .int .i64 ((dnx T j).a), .int .i64 ((dnx T j).z)]) rfl (OpY.loadN (cs := [sv ((dnx T j).nm), .int .i64 ((dnx T j).n), .int .i64 ((dnx T j).a), .int .i64 ((dnx T j).z)]) Tagg_50 rfl (Cells.own0 (.tail _ (.tail _ (.tail _ (.tail _ (.tail _ (List.Mem.head _)))))) (dns_pre0 (k := j) (by omega)))) ?_
           refine Run.step rfl (OpStep.alloc (zs := [sv ([]), .int .i64 0, .int .i64 0, .int .i64 0]) Tzero_50 fun b5 => ?_)
           refine Run.step rfl (OpStep.storeAll (us := [sv ((dnx T j).nm), .int .i64 ((dnx T j).n), .int .i64 ((dnx T j).a), .int .i64 ((dnx T j).z)]) Tsize_50 rfl rfl rfl (.here _) rfl ?_)
           refine Run.done ?_
           refine Run.seq ?_
           refine Run.lastlyB [16] [.blk b5 50 [sv ((dnx T j).nm), .int .i64 ((dnx T j).n), .int .i64 ((dnx T j).a), .int .i64 ((dnx T j).z)], .blk b1 54 [vl, vd]] (by kernel_rfl) ?_
           refine DL.takeP (i := 0) (v := .pointer (some ⟨b1, 0, none⟩)) rfl (by kernel_rfl) (by kernel_rfl) (by kernel_rfl) (fun _ _ _ h => h) rfl (fun _ => OpY.pure rfl) ?_
           refine DL.takeP (i := 1) (v := .pointer (some ⟨b1, 0, none⟩)) rfl (by kernel_rfl) (by kernel_rfl) (by kernel_rfl) (fun _ _ _ h => h) rfl (fun _ => OpY.pure rfl) ?_
           refine DL.takeP (i := 2) (v := .pointer (some ⟨b1, 0, none⟩)) rfl (by kernel_rfl) (by kernel_rfl) (by kernel_rfl) (fun _ _ _ h => h) rfl (fun _ => OpY.nilCheck rfl) ?_
           refine DL.takeP (i := 3) (v := .pointer (some ⟨b1, 1, none⟩)) rfl (by kernel_rfl) (by kernel_rfl) (by kernel_rfl) (fun _ _ _ h => h) rfl (fun _ => OpY.fieldAddr Tfo_54_1 rfl rfl) ?_
           refine DL.take (i := 4) (v := vd) rfl (by kernel_rfl) (by kernel_rfl) (by kernel_rfl) (by kernel_rfl) (fun _ _ _ h => h) (Some'.weak (.take (.take (.nil _)))) rfl (OpY.load1 Tone_52 rfl (Cells.blk (.tail _ (List.Mem.head _)) ⟨rfl, trivial⟩)) ?_
           refine DL.takeP (i := 5) (v := .pointer (some ⟨b1, 0, none⟩)) rfl (by kernel_rfl) (by kernel_rfl) (by kernel_rfl) (fun _ _ _ h => h) rfl (fun _ => OpY.pure rfl) ?_
           refine DL.takeP (i := 6) (v := .slice (some ⟨gt, 0, none⟩) (T.length) c_vt1) rfl (by kernel_rfl) (by kernel_rfl) (by kernel_rfl) (fun _ _ _ h => h) rfl (fun _ => OpY.pure rfl) ?_
           refine DL.takeP (i := 7) (v := .pointer (some ⟨b5, 2, none⟩)) rfl (by kernel_rfl) (by kernel_rfl) (by kernel_rfl) (fun _ _ _ h => h) rfl (fun _ => OpY.fieldAddr Tfo_50_2 rfl rfl) ?_
           refine DL.take (i := 8) (v := .int .i64 ((dnx T j).a)) rfl (by kernel_rfl) (by kernel_rfl) (by kernel_rfl) (by kernel_rfl) (fun _ _ _ h => h) (Some'.weak (.take (.take (.nil _)))) rfl (OpY.load1 Tone_3 rfl (Cells.blk (.head _) ⟨rfl, trivial⟩)) ?_
           refine DL.takeP (i := 9) (v := .pointer (some ⟨b5, 3, none⟩)) rfl (by kernel_rfl) (by kernel_rfl) (by kernel_rfl) (fun _ _ _ h => h) rfl (fun _ => OpY.fieldAddr Tfo_50_3 rfl rfl) ?_
           refine DL.take (i := 10) (v := .int .i64 ((dnx T j).z)) rfl (by kernel_rfl) (by kernel_rfl) (by kernel_rfl) (by kernel_rfl) (fun _ _ _ h => h) (Some'.weak (.take (.take (.nil _)))) rfl (OpY.load1 Tone_3 rfl (Cells.blk (.head _) ⟨rfl, trivial⟩)) ?_
           refine DL.stepS (i := 11) (by kernel_rfl) rfl rfl (OpStep.call (vs := [.pointer (some ⟨b1, 0, none⟩), .slice (some ⟨gt, 0, none⟩) (T.length) c_vt1, .int .i64 ((dnx T j).a), .int .i64 ((dnx T j).z)]) (caps := []) Tcall_48 rfl rfl (fun w hs => (by have h := expStmt_all _ (a := (dnx T j).a.toNat) (z := (dnx T j).z.toNat) rfl (hs.slBlk (.tail _ (List.Mem.head _))) (hs.slOwn (.tail _ (.tail _ (.tail _ (.tail _ (List.Mem.head _)))))) (hs.rq (.tail _ (.tail _ (.tail _ (.tail _ (.tail _ (List.Mem.head _))))))) (hs.slOwn (.tail _ (.tail _ (.tail _ (.tail _ (.tail _ (.tail _ (List.Mem.head _)))))))) (hs.slOwn (.tail _ (.tail _ (List.Mem.head _)))) (hs.gq (.tail _ (.tail _ (.tail _ (List.Mem.head _))))) (by omega) hn1 (by omega) (by omega) (by rw [hLX]; exact hF.nest) (by rw [hLX]; exact hF.rng j hltj) (by rw [hLX, hGF]; exact hF.cal j hltj) (by rw [hGF]; exact gsx_400 hj4) (by rw [hLX]; exact hcX); rw [hLX, hGF, Int.toNat_of_nonneg hbd.1, Int.toNat_of_nonneg hbd.2.2.1] at h; exact h)) ?_)
           rintro ev _ rfl
           refine ⟨(Some'.weak (.skip (.take (.take (.nil _))))), ?_⟩
           refine DL.formOwn (.head _) (fun A_ev1 c_ev1 hv hcapc_ev1 hmaxc_ev1 => ?_)
           subst hv
           refine DL.stepS (i := 12) (by kernel_rfl) rfl rfl (OpStep.buildSlice (us := [.slice A_ev1 ((exc X T (FD.take j) (dnx T j).a.toNat (dnx T j).z.toNat []).length) c_ev1]) Tsl_52 (by decide) (by decide) ⟨rfl, [.slice A_ev1 ((exc X T (FD.take j) (dnx T j).a.toNat (dnx T j).z.toNat []).length) c_ev1], _, rfl, rfl, rfl, rfl⟩ rfl fun b6 => ?_)
           refine ⟨(Some'.weak (.skip (.skip (.take (.take (.nil _)))))), ?_⟩
           refine DL.stepS (i := 13) (by kernel_rfl) rfl rfl (OpStep.append (H1 := [.own (.slice (some ⟨b6, 0, none⟩) 1 1) 22 1 1 ([.slice A_ev1 ((exc X T (FD.take j) (dnx T j).a.toNat (dnx T j).z.toNat []).length) c_ev1]), .own (.slice A_ev1 ((exc X T (FD.take j) (dnx T j).a.toNat (dnx T j).z.toNat []).length) c_ev1) 69 3 ((exc X T (FD.take j) (dnx T j).a.toNat (dnx T j).z.toNat []).length) (ints (fl (exc X T (FD.take j) (dnx T j).a.toNat (dnx T j).z.toNat []))), .blk b5 50 [sv ((dnx T j).nm), .int .i64 ((dnx T j).n), .int .i64 ((dnx T j).a), .int .i64 ((dnx T j).z)], .blk b1 54 [vl, vd]]) (H2 := [.grp 69 3 (ggr G), .own vl 77 7 (L.length) (rls L), .grp 3 1 (rgr L), .own (.slice (some ⟨gt, 0, none⟩) (T.length) c_vt1) 50 4 (T.length) (dns T)]) (v := vd) (u := .slice (some ⟨b6, 0, none⟩) 1 1) (n := G.length) (m := 1) (xs := gvs G) (ys := [.slice A_ev1 ((exc X T (FD.take j) (dnx T j).a.toNat (dnx T j).z.toNat []).length) c_ev1]) Tsl_52 (by decide) rfl rfl rfl rfl (fun w hs => hs.slOwn (.head _)) (by simp [Value.oneCell']) (by omega) (by simp only [maxLen]; omega) fun av3 hnav3 => ?_)
           refine DL.weakS (H' := [.own (.slice (some ⟨b6, 0, none⟩) 1 1) 22 1 1 ([.slice A_ev1 ((exc X T (FD.take j) (dnx T j).a.toNat (dnx T j).z.toNat []).length) c_ev1]), .own (.slice A_ev1 ((exc X T (FD.take j) (dnx T j).a.toNat (dnx T j).z.toNat []).length) c_ev1) 69 3 ((exc X T (FD.take j) (dnx T j).a.toNat (dnx T j).z.toNat []).length) (ints (fl (exc X T (FD.take j) (dnx T j).a.toNat (dnx T j).z.toNat []))), .blk b5 50 [sv ((dnx T j).nm), .int .i64 ((dnx T j).n), .int .i64 ((dnx T j).a), .int .i64 ((dnx T j).z)], .blk b1 54 [vl, vd], .own av3 22 1 (G.length + 1) (gvs (G ++ [gv (exc X T (FD.take j) (dnx T j).a.toNat (dnx T j).z.toNat []) (.slice A_ev1 ((exc X T (FD.take j) (dnx T j).a.toNat (dnx T j).z.toNat []).length) c_ev1)])), .grp 69 3 (ggr G), .own vl 77 7 (L.length) (rls L), .grp 3 1 (rgr L), .own (.slice (some ⟨gt, 0, none⟩) (T.length) c_vt1) 50 4 (T.length) (dns T)]) (Some'.weak (.take (.take (.take (.take (.takeEq (by simp [gvs]) (.take (.take (.take (.take (.nil _))))))))))) ?_
           refine ⟨(Some'.weak (.skip (.skip (.take (.take (.nil _)))))), ?_⟩
           refine DL.takeP (i := 14) (v := .pointer (some ⟨b1, 0, none⟩)) rfl (by kernel_rfl) (by kernel_rfl) (by kernel_rfl) (fun _ _ _ h => h) rfl (fun _ => OpY.nilCheck rfl) ?_
           refine DL.takeP (i := 15) (v := .pointer (some ⟨b1, 1, none⟩)) rfl (by kernel_rfl) (by kernel_rfl) (by kernel_rfl) (fun _ _ _ h => h) rfl (fun _ => OpY.fieldAddr Tfo_54_1 rfl rfl) ?_
           refine DL.formOwn (.tail _ (.tail _ (.tail _ (.tail _ (List.Mem.head _))))) (fun A_av31 c_av31 hv hcapc_av31 hmaxc_av31 => ?_)
           subst hv
           refine DL.step (i := 16) (by kernel_rfl) (by kernel_rfl) rfl rfl (OpStep.store (us := [.slice A_av31 (G.length + 1) c_av31]) Tsize_52 rfl rfl rfl (.there _ (.there _ (.there _ (.here _)))) (by simp only [List.length_cons, List.length_nil]; omega) ?_)
           show DL _ _ _ _ _ _ _ _ [.own (.slice (some ⟨b6, 0, none⟩) 1 1) 22 1 1 ([.slice A_ev1 ((exc X T (FD.take j) (dnx T j).a.toNat (dnx T j).z.toNat []).length) c_ev1]), .own (.slice A_ev1 ((exc X T (FD.take j) (dnx T j).a.toNat (dnx T j).z.toNat []).length) c_ev1) 69 3 ((exc X T (FD.take j) (dnx T j).a.toNat (dnx T j).z.toNat []).length) (ints (fl (exc X T (FD.take j) (dnx T j).a.toNat (dnx T j).z.toNat []))), .blk b5 50 [sv ((dnx T j).nm), .int .i64 ((dnx T j).n), .int .i64 ((dnx T j).a), .int .i64 ((dnx T j).z)], .blk b1 54 [vl, .slice A_av31 (G.length + 1) c_av31], .own (.slice A_av31 (G.length + 1) c_av31) 22 1 (G.length + 1) (gvs (G ++ [gv (exc X T (FD.take j) (dnx T j).a.toNat (dnx T j).z.toNat []) (.slice A_ev1 ((exc X T (FD.take j) (dnx T j).a.toNat (dnx T j).z.toNat []).length) c_ev1)])), .grp 69 3 (ggr G), .own vl 77 7 (L.length) (rls L), .grp 3 1 (rgr L), .own (.slice (some ⟨gt, 0, none⟩) (T.length) c_vt1) 50 4 (T.length) (dns T)]
           refine DL.done (by kernel_rfl) ?_
           refine Run.seq ?_
           refine Run.weak (H' := [.grp 69 3 (ggr (G ++ [gv (exc X T (FD.take j) (dnx T j).a.toNat (dnx T j).z.toNat []) (.slice A_ev1 ((exc X T (FD.take j) (dnx T j).a.toNat (dnx T j).z.toNat []).length) c_ev1)])), .own (.slice (some ⟨b6, 0, none⟩) 1 1) 22 1 1 ([.slice A_ev1 ((exc X T (FD.take j) (dnx T j).a.toNat (dnx T j).z.toNat []).length) c_ev1]), .blk b5 50 [sv ((dnx T j).nm), .int .i64 ((dnx T j).n), .int .i64 ((dnx T j).a), .int .i64 ((dnx T j).z)], .blk b1 54 [vl, .slice A_av31 (G.length + 1) c_av31], .own (.slice A_av31 (G.length + 1) c_av31) 22 1 (G.length + 1) (gvs (G ++ [gv (exc X T (FD.take j) (dnx T j).a.toNat (dnx T j).z.toNat []) (.slice A_ev1 ((exc X T (FD.take j) (dnx T j).a.toNat (dnx T j).z.toNat []).length) c_ev1)])), .own vl 77 7 (L.length) (rls L), .grp 3 1 (rgr L), .own (.slice (some ⟨gt, 0, none⟩) (T.length) c_vt1) 50 4 (T.length) (dns T)]) ((Weak.selF [1, 4]).trans Weak.ggrSnoc) ?_ ⟨_, _, rfl, fun _ => nofun, fun _ => nofun⟩
           refine Run.openOwn (.tail _ (.tail _ (.tail _ (.tail _ (List.Mem.head _))))) (by omega) (fun gd cd hvgd hcapgd _ => ?_) (fun _ _ _ => ⟨nofun, nofun, nofun⟩)
           injection hvgd with hAgd _ hcgd; subst hAgd; subst hcgd
           refine Run.draws (by kernel_rfl) (by kernel_rfl) ?_
           refine Lex.q (v := .pointer (some ⟨b1, 0, none⟩)) rfl (OpQ.y (OpY.pure rfl)) ?_
           refine Lex.q (v := .pointer (some ⟨b1, 0, none⟩)) rfl (OpQ.y (OpY.nilCheck rfl)) ?_
           refine Lex.q (v := .pointer (some ⟨b1, 1, none⟩)) rfl (OpQ.y (OpY.fieldAddr Tfo_54_1 rfl rfl)) ?_
           refine Lex.q (v := .slice (some ⟨gd, 0, none⟩) (G.length + 1) c_av31) rfl (OpQ.y (OpY.load1 Tone_52 rfl (Cells.blk (.tail _ (.tail _ (.tail _ (List.Mem.head _)))) ⟨rfl, trivial⟩))) ?_
           refine Lex.q (v := .pointer (some ⟨b1, 0, none⟩)) rfl (OpQ.y (OpY.pure rfl)) ?_
           refine Lex.q (v := .pointer (some ⟨b1, 0, none⟩)) rfl (OpQ.y (OpY.nilCheck rfl)) ?_
           refine Lex.q (v := .pointer (some ⟨b1, 1, none⟩)) rfl (OpQ.y (OpY.fieldAddr Tfo_54_1 rfl rfl)) ?_
           refine Lex.q (v := .slice (some ⟨gd, 0, none⟩) (G.length + 1) c_av31) rfl (OpQ.y (OpY.load1 Tone_52 rfl (Cells.blk (.tail _ (.tail _ (.tail _ (List.Mem.head _)))) ⟨rfl, trivial⟩))) ?_
           refine Lex.q (v := .int .i64 (((G.length + 1 : Nat) : Int))) rfl (OpQ.y (OpY.len Tsl_52 rfl)) ?_
           refine Lex.q (v := .int .i64 ((((G.length + 1 : Nat) : Int)) - 1)) rfl (OpQ.y (OpY.sub rfl rfl rfl (by omega) (by omega))) ?_
           refine Lex.q (v := .pointer (some ⟨gd, j, none⟩)) rfl (OpQ.y (OpY.index (kk := j) Tsl_52 rfl rfl (by omega) (by omega) (by first | rfl | omega))) ?_
           refine Lex.q (v := .slice A_ev1 ((exc X T (FD.take j) (dnx T j).a.toNat (dnx T j).z.toNat []).length) c_ev1) rfl (OpQ.y (OpY.load1 Tone_22 rfl (Cells.own0 (.tail _ (.tail _ (.tail _ (.tail _ (List.Mem.head _))))) (gvs_pre (by rw [List.length_append, List.length_singleton]; omega) (by rw [← hGl, gvx_end]))))) ?_
           refine Lex.q (v := .int .i64 ((((exc X T (FD.take j) (dnx T j).a.toNat (dnx T j).z.toNat []).length : Nat) : Int))) rfl (OpQ.y (OpY.len Tsl_22 rfl)) ?_
           refine Lex.q (v := .bool (decide (((((exc X T (FD.take j) (dnx T j).a.toNat (dnx T j).z.toNat []).length : Nat) : Int)) > 400))) rfl (OpQ.y (OpY.pure rfl)) ?_
           refine Lex.done ?_
           refine Run.cond (b := decide (((((exc X T (FD.take j) (dnx T j).a.toNat (dnx T j).z.toNat []).length : Nat) : Int)) > 400)) rfl (fun h123 => ?_) (fun h123 => ?_)
           ·have p123 := h123; try simp only [bs] at p123
            refine Run.sr ?_
            refine Run.p (.pointer (some ⟨b1, 0, none⟩)) rfl rfl ?_
            refine Run.p (.pointer (some ⟨b1, 0, none⟩)) rfl rfl ?_
            refine Run.p (.slice none 0 0) rfl rfl ?_
            refine Run.p (.int .i64 6) rfl rfl ?_
            refine Run.p (.int .i64 0) rfl rfl ?_
            refine Run.done ?_
            refine Run.ret ?_
            refine ⟨.tuple #[.pointer (some ⟨b1, 0, none⟩), .slice none 0 0, .int .i64 6, .int .i64 0], [.blk b1 54 [vl, .slice (some ⟨gd, 0, none⟩) (G.length + 1) c_av31], .own vl 77 7 (L.length) (rls L), .grp 3 1 (rgr L), .own (.slice (some ⟨gd, 0, none⟩) (G.length + 1) c_av31) 22 1 (((G ++ [gv (exc X T (FD.take j) (dnx T j).a.toNat (dnx T j).z.toNat []) (.slice A_ev1 ((exc X T (FD.take j) (dnx T j).a.toNat (dnx T j).z.toNat []).length) c_ev1)])).length) (gvs (G ++ [gv (exc X T (FD.take j) (dnx T j).a.toNat (dnx T j).z.toNat []) (.slice A_ev1 ((exc X T (FD.take j) (dnx T j).a.toNat (dnx T j).z.toNat []).length) c_ev1)])), .grp 69 3 (ggr (G ++ [gv (exc X T (FD.take j) (dnx T j).a.toNat (dnx T j).z.toNat []) (.slice A_ev1 ((exc X T (FD.take j) (dnx T j).a.toNat (dnx T j).z.toNat []).length) c_ev1)])), .own (.slice none 0 0) 50 4 (([] : List Dn).length) (dns ([] : List Dn))], Out.four rfl rfl rfl rfl rfl, ((Weak.nilOwn 50 4).trans ((Weak.selF [4, 5, 5, 4, 1, 0]).trans (Some'.weak (.take (.take (.take (.takeEq (by first | rfl | simp) (.take (.takeEq (by first | rfl | simp) (.nil _)))))))))), ?_⟩
            exact ck_bad (L := L) (G := (G ++ [gv (exc X T (FD.take j) (dnx T j).a.toNat (dnx T j).z.toNat []) (.slice A_ev1 ((exc X T (FD.take j) (dnx T j).a.toNat (dnx T j).z.toNat []).length) c_ev1)])) (T := []) (rt_big hgo hf hb hX hp hN0 hG0 hF (by first | exact .inl ⟨j, hltj, tr_big (hF.ex j hltj) (by omega)⟩ | exact .inr (tr_big hF.exM (by rw [hXL]; omega)))) (by decide)
           ·have p123 := h123; try simp only [bs] at p123
            have hoo : (exc X T (FD.take j) (dnx T j).a.toNat (dnx T j).z.toNat []) = gsx FD j := (hF.ex j hltj).of_le (by omega)
            refine Run.skip ?_
            refine Run.blockEnd ?_
            refine Run.region ?_
            refine Run.y (.int .i64 ((((j : Nat) : Int)) + 1)) rfl (OpY.add rfl rfl rfl (by omega) (by omega)) ?_
            refine Run.p (.int .i64 ((((j : Nat) : Int)) + 1)) rfl rfl ?_
            refine Run.done ?_
            refine Run.goal ⟨(by repeat (first | exact Same.refl _ _ | refine Same.put rfl ?_ | refine Same.over rfl rfl ?_)), (j + 1, (G ++ [gv (exc X T (FD.take j) (dnx T j).a.toNat (dnx T j).z.toNat []) (.slice A_ev1 ((exc X T (FD.take j) (dnx T j).a.toNat (dnx T j).z.toNat []).length) c_ev1)]), .slice (some ⟨gd, 0, none⟩) (G.length + 1) c_av31), ?_, ?_, ?_, ?_⟩
            ·refine ⟨by omega, by simp [hGl], by rw [List.map_append, hGF, take_gsx (by have := hF.len; omega), ← hoo]; rfl, ?_⟩
             intro q hq
             rcases Nat.lt_succ_iff_lt_or_eq.1 hq with h | h
             ·exact hj4 q h
             ·rw [h, ← hoo]; omega
            ·show T.length - (j + 1) < T.length - j; omega
            ·exact ⟨(by first | rfl | (congr 1; omega) | simp), trivial⟩
            ·exact ((Weak.selF [3, 3, 0, 2, 2, 2]).trans (Some'.weak (.takeEq (by first | rfl | simp) (.takeEq (by first | rfl | simp) (.takeEq (by first | rfl | simp) (.takeEq (by first | rfl | simp) (.takeEq (by first | rfl | simp) (.takeEq (by first | rfl | simp) (.nil _)))))))))
          ·have p91 := h91; try simp only [bs] at p91
           obtain ⟨hj, hGl, hGF, hj4⟩ := hinv
           have hjn : j = T.length := by omega
           have hGF2 : G.map (·.1) = FD := by rw [hGF, hjn, ← hF.len, List.take_length]
           have h400 := gsx_400 hj4
           rw [← hGF, hGF2] at h400
           have hol := exc_len (X := X) (T := T) h400 _ 1 L.length [] rfl (by omega) (by simp)
           refine Run.exit rfl ?_
           refine Run.seq ?_
           refine Run.sr ?_
           refine Run.p (.pointer (some ⟨b1, 0, none⟩)) rfl rfl ?_
           refine Run.p (.slice A_vt1 (T.length) c_vt1) rfl rfl ?_
           refine Run.p (.pointer (some ⟨b1, 0, none⟩)) rfl rfl ?_
           refine Run.y (.pointer (some ⟨b1, 0, none⟩)) rfl (OpY.nilCheck rfl) ?_
           refine Run.y (.pointer (some ⟨b1, 0, none⟩)) rfl (OpY.fieldAddr Tfo_54_0 rfl rfl) ?_
           refine Run.y (vl) rfl (OpY.load1 Tone_51 rfl (Cells.blk (.head _) ⟨rfl, trivial⟩)) ?_
           refine Run.formOwn (.tail _ (.tail _ (.tail _ (List.Mem.head _)))) (fun A_vl1 c_vl1 hv hcapc_vl1 hmaxc_vl1 => ?_) (fun _ _ _ => ⟨nofun, nofun, nofun⟩)
           subst hv
           refine Run.y (.int .i64 (((L.length : Nat) : Int))) rfl (OpY.len Tsl_51 rfl) ?_
           refine Run.step rfl (OpStep.call (vs := [.pointer (some ⟨b1, 0, none⟩), .slice A_vt1 (T.length) c_vt1, .int .i64 1, .int .i64 (((L.length : Nat) : Int))]) (caps := []) Tcall_48 rfl rfl (fun w hs => (by have h := expStmt_all _ (a := 1) (z := L.length) rfl (hs.slBlk (.head _)) (hs.slOwn (.tail _ (.tail _ (.tail _ (List.Mem.head _))))) (hs.rq (.tail _ (.tail _ (.tail _ (.tail _ (List.Mem.head _)))))) (hs.slOwn (.tail _ (.tail _ (.tail _ (.tail _ (.tail _ (List.Mem.head _))))))) (hs.slOwn (.tail _ (List.Mem.head _))) (hs.gq (.tail _ (.tail _ (List.Mem.head _)))) (by omega) hn1 (by omega) (by omega) (by rw [hLX]; exact hF.nest) (by rw [hLX, ← hXL]; exact hF.rngM) (by rw [hLX, hGF2, ← hXL]; exact hF.calM) (by rw [hGF2]; exact h400) (by rw [hLX]; exact hcX); rw [hLX, hGF2] at h; exact h)) ?_)
           rintro ev _ rfl
           show Run _ _ (putF _ _ _ ev) [.own ev 69 3 ((exc X T FD 1 L.length []).length) (ints (fl (exc X T FD 1 L.length []))), .blk b1 54 [.slice A_vl1 (L.length) c_vl1, vd], .own vd 22 1 (G.length) (gvs G), .grp 69 3 (ggr G), .own (.slice A_vl1 (L.length) c_vl1) 77 7 (L.length) (rls L), .grp 3 1 (rgr L), .own (.slice A_vt1 (T.length) c_vt1) 50 4 (T.length) (dns T)]
           refine Run.formOwn (.head _) (fun A_ev2 c_ev2 hv hcapc_ev2 hmaxc_ev2 => ?_) (fun _ _ _ => ⟨nofun, nofun, nofun⟩)
           subst hv
           refine Run.y (.int .i64 ((((exc X T FD 1 L.length []).length : Nat) : Int))) rfl (OpY.len Tsl_22 rfl) ?_
           refine Run.p (.bool (decide (((((exc X T FD 1 L.length []).length : Nat) : Int)) > 400))) rfl rfl ?_
           refine Run.done ?_
           refine Run.cond (b := decide (((((exc X T FD 1 L.length []).length : Nat) : Int)) > 400)) rfl (fun h135 => ?_) (fun h135 => ?_)
           ·have p135 := h135; try simp only [bs] at p135
            refine Run.sr ?_
            refine Run.p (.pointer (some ⟨b1, 0, none⟩)) rfl rfl ?_
            refine Run.p (.pointer (some ⟨b1, 0, none⟩)) rfl rfl ?_
            refine Run.p (.slice none 0 0) rfl rfl ?_
            refine Run.p (.int .i64 6) rfl rfl ?_
            refine Run.p (.int .i64 0) rfl rfl ?_
            refine Run.done ?_
            refine Run.ret ?_
            refine ⟨.tuple #[.pointer (some ⟨b1, 0, none⟩), .slice none 0 0, .int .i64 6, .int .i64 0], [.blk b1 54 [.slice A_vl1 (L.length) c_vl1, vd], .own (.slice A_vl1 (L.length) c_vl1) 77 7 (L.length) (rls L), .grp 3 1 (rgr L), .own vd 22 1 (G.length) (gvs G), .grp 69 3 (ggr G), .own (.slice none 0 0) 50 4 (([] : List Dn).length) (dns ([] : List Dn))], Out.four rfl rfl rfl rfl rfl, ((Weak.nilOwn 50 4).trans ((Weak.selF [2, 4, 4, 2, 2, 0]).trans (Some'.weak (.take (.take (.take (.take (.take (.takeEq (by first | rfl | simp) (.nil _)))))))))), ?_⟩
            exact ck_bad (L := L) (G := G) (T := []) (rt_big hgo hf hb hX hp hN0 hG0 hF (by first | exact .inl ⟨j, hltj, tr_big (hF.ex j hltj) (by omega)⟩ | exact .inr (tr_big hF.exM (by rw [hXL]; omega)))) (by decide)
           ·have p135 := h135; try simp only [bs] at p135
            refine Run.skip ?_
            refine Run.sr ?_
            refine Run.p (.pointer (some ⟨b1, 0, none⟩)) rfl rfl ?_
            refine Run.p (.slice A_vt1 (T.length) c_vt1) rfl rfl ?_
            refine Run.p (.pointer (some ⟨b1, 0, none⟩)) rfl rfl ?_
            refine Run.p (.slice A_vt1 (T.length) c_vt1) rfl rfl ?_
            refine Run.p (.int .i64 0) rfl rfl ?_
            refine Run.p (.int .i64 0) rfl rfl ?_
            refine Run.done ?_
            refine Run.ret ?_
            refine ⟨.tuple #[.pointer (some ⟨b1, 0, none⟩), .slice A_vt1 (T.length) c_vt1, .int .i64 0, .int .i64 0], [.blk b1 54 [.slice A_vl1 (L.length) c_vl1, vd], .own (.slice A_vl1 (L.length) c_vl1) 77 7 (L.length) (rls L), .grp 3 1 (rgr L), .own vd 22 1 (G.length) (gvs G), .grp 69 3 (ggr G), .own (.slice A_vt1 (T.length) c_vt1) 50 4 (T.length) (dns T)], Out.four rfl rfl rfl rfl rfl, ((Weak.selF [1, 3, 3, 1, 1, 1]).trans (Some'.weak (.take (.take (.take (.take (.take (.take (.nil _))))))))), ?_⟩
            have hM2 : exc X T FD 1 L.length [] = FM := by have := hF.exM.of_le (by rw [hXL]; omega); rwa [hXL] at this
            have hM4 : FM.length ≤ 400 := by rw [← hM2]; omega
            have hrt := rt_ok hgo hf hb hX hp hN0 hG0 hF (fun q hq => hj4 q (by omega)) hM4
            refine ⟨_, _, _, _, L, G, T, by rw [hrt], rfl, fun _ => ?_⟩
            refine ⟨hn1, by omega, ?_, by omega, fun q hq => ?_, by rw [hLX, hrt], by rw [hLX]; exact hF.nest, by rw [hLX, ← hXL]; exact hF.rngM, by rw [hLX, hGF2, ← hXL]; exact hF.calM, by rw [hGF2]; exact h400, by rw [hLX]; exact hcX, by rw [hLX, hGF2, hM2, hrt]⟩
            ·rw [hrt]; exact hF.runD.1.symm
            ·rw [hrt, gvx_gs, hGF2]
             obtain ⟨r1, r2, r3⟩ := hF.runD.2 q hq
             exact ⟨r1.symm, r2.symm, by show gsx FD q = (dfx (runL X).1 q).gs; rw [r3, trim_small (hj4 q (by omega))]⟩

end Go.Proofs.YtgpkpopbajkklaaGreatDoor
