/- Plain laws: the states of the search for routes. -/
import Derived.Test.YtekikmdjldincaaLsi
import Derived.Test.YtekikmdjldincaaBf
import Derived.Test.YtekikmdjldincaaProg
set_option linter.unusedSimpArgs false
set_option linter.unusedVariables false
namespace Go.Proofs.Ytekikmdjldincaa
open Go Go.RowKit

abbrev RK := List Int × List Bool
def kstep (es : List Int) (m : Nat) (xs : List Int) (n : Nat) (k : RK) (e : Nat) : RK := (swL (ix es (e * 2)) (ix es (e * 2 + 1)) k.1, (advS (goB es m xs (swL (ix es (e * 2)) (ix es (e * 2 + 1)) k.1)) n k.2 []).1)
structure KOk (N Q : Int) (pn n : Nat) (xs : List Int) (k : RK) : Prop where
  pl : k.1.length = pn
  po : plOk N Q k.1 pn = true
  dl : k.2.length = n
  dn : Dn xs k.2
  fu : Full xs n k.2
theorem plOk_swL {N Q a b : Int} {ps : List Int} {pn : Nat} (hl : ps.length = pn) (ha : 0 ≤ a ∧ a < N) (hb : 0 ≤ b ∧ b < N) (h : plOk N Q ps pn = true) : plOk N Q (swL a b ps) pn = true := by
  simp only [plOk, Bool.and_eq_true] at h ⊢
  exact ⟨placeOk_swL hl ha hb h.1, h.2⟩
theorem adv_ok {es xs ps : List Int} {m n : Nat} {ds : List Bool} (L : List T3) (hl : ds.length = n) (hd : Dn xs ds) : (advS (goB es m xs ps) n ds L).1.length = n ∧ Dn xs (advS (goB es m xs ps) n ds L).1 ∧ Full xs n (advS (goB es m xs ps) n ds L).1 := by
  obtain ⟨h1, h2, h3⟩ := advS_keep (es := es) (m := m) (xs := xs) (ps := ps) (n := n) (P := Dn xs) (fun ds i h1 h2 h3 h4 => h3.step h1 h2 h4) (und ds) ds L rfl hl hd
  exact ⟨h2, h1, Full.of h3⟩
theorem adv_same {g : List Bool → Nat → Bool} {n : Nat} (ds : List Bool) (L M : List T3) : (advS g n ds L).1 = (advS g n ds M).1 := adv_fst g n _ ds L M
theorem kstep_ok {N Q : Int} {es xs : List Int} {m n pn : Nat} (hes : edgesOk N es m = true) {k : RK} {e : Nat} (he : e < m) (h : KOk N Q pn n xs k) : KOk N Q pn n xs (kstep es m xs n k e) := by
  have h1 := (of_decide_eq_true hes) e he
  simp only [edgeOk] at h1
  have hp := plOk_swL (a := ix es (e * 2)) (b := ix es (e * 2 + 1)) h.pl (by omega) (by omega) h.po
  obtain ⟨h2, h3, h4⟩ := adv_ok (es := es) (m := m) (ps := swL (ix es (e * 2)) (ix es (e * 2 + 1)) k.1) [] h.dl h.dn
  exact ⟨by rw [kstep, swL_length]; exact h.pl, hp, h2, h3, h4⟩
def kcode (pn n : Nat) (xs : List Int) (k : RK) : Nat := (cdP k.1 pn).toNat * 4096 + tcD xs k.2 n
theorem pl_range {N Q : Int} {ps : List Int} {pn : Nat} (hN : N ≤ 5) (h : plOk N Q ps pn = true) : ∀ i, i < pn → 0 ≤ ix ps i ∧ ix ps i < 5 := by
  simp only [plOk, Bool.and_eq_true] at h
  intro i hi
  have := (placeOk_iff.1 h.1).1 i hi
  omega
theorem tc_4096 {xs : List Int} {n : Nat} (hc : cnt2 xs n ≤ 12) (ds : List Bool) : tcD xs ds n < 4096 :=
  Nat.lt_of_lt_of_le (tcD_lt xs ds n) (Nat.le_trans (Nat.pow_le_pow_right (n := 2) (by omega) hc) (by decide))
theorem kcode_lt {N Q : Int} {xs : List Int} {n pn : Nat} (hN : N ≤ 5) (h5 : pn ≤ 5) (hc : cnt2 xs n ≤ 12) {k : RK} (h : KOk N Q pn n xs k) : kcode pn n xs k < 12800000 := by
  have h1 := cdP_range (pl_range hN h.po) pn (Nat.le_refl _)
  have h2 := pow5_le h5
  have h3 := tc_4096 hc k.2
  unfold kcode; omega
theorem kcode_inj {N Q : Int} {xs : List Int} {n pn : Nat} (hN : N ≤ 5) (hc : cnt2 xs n ≤ 12) {k l : RK} (h : KOk N Q pn n xs k) (h' : KOk N Q pn n xs l) (he : kcode pn n xs k = kcode pn n xs l) : k = l := by
  have h3 := tc_4096 hc k.2
  have h4 := tc_4096 hc l.2
  unfold kcode at he
  have h1 := cdP_range (pl_range hN h.po) pn (Nat.le_refl _)
  have h2 := cdP_range (pl_range hN h'.po) pn (Nat.le_refl _)
  have e1 : cdP k.1 pn = cdP l.1 pn := by omega
  have e2 : tcD xs k.2 n = tcD xs l.2 n := by omega
  have hp := cdP_inj (pl_range hN h.po) (pl_range hN h'.po) pn (Nat.le_refl _) e1
  have hd := done_eq h.dn h'.dn h.fu h'.fu (tcD_inj n e2)
  refine Prod.ext (list_ext_ix (by rw [h.pl, h'.pl]) fun j hj => hp j (by rw [← h.pl]; exact hj)) ?_
  refine List.ext_getElem (by rw [h.dl, h'.dl]) fun i h5 h6 => ?_
  have := hd i (by rw [← h.dl]; exact h5)
  simpa [bx, List.getD, h5, h6] using this
/-- The search. -/
def rQ (es : List Int) (m : Nat) (xs : List Int) (n : Nat) (s : RK) (i : Nat) : List (RK × List Nat) := bfs (kstep es m xs n) (fun _ => true) m s i
theorem rQ_key {N Q : Int} {es xs : List Int} {m n pn : Nat} {s : RK} (hes : edgesOk N es m = true) (h0 : KOk N Q pn n xs s) (i : Nat) : ∀ y ∈ rQ es m xs n s i, KOk N Q pn n xs y.1 :=
  bfs_keys (p := KOk N Q pn n xs) (fun k e h he _ => kstep_ok hes he h) h0 i
theorem rQ_small {N Q : Int} {es xs : List Int} {m n pn : Nat} {s : RK} (hN : N ≤ 5) (h5 : pn ≤ 5) (hc : cnt2 xs n ≤ 12) (hes : edgesOk N es m = true) (h0 : KOk N Q pn n xs s) (i : Nat) : (rQ es m xs n s i).length ≤ 12800000 :=
  bfs_small (p := KOk N Q pn n xs) (code := kcode pn n xs) (fun k e h he _ => kstep_ok hes he h) h0 (fun k h => kcode_lt hN h5 hc h) (fun k k' h h' he => kcode_inj hN hc h h' he) i
/-- The steps of a path. -/
def stp (es : List Int) (m : Nat) (xs : List Int) (n : Nat) : RK → List T3 → List Nat → List T3
  | _, L, [] => L
  | k, L, e :: p => stp es m xs n (kstep es m xs n k e) (advS (goB es m xs (swL (ix es (e * 2)) (ix es (e * 2 + 1)) k.1)) n k.2 (L ++ [((-1, ix es (e * 2), ix es (e * 2 + 1)) : T3)])).2 p
theorem stp_snoc (es : List Int) (m : Nat) (xs : List Int) (n : Nat) : ∀ (p : List Nat) (k : RK) (L : List T3) (e : Nat), stp es m xs n k L (p ++ [e]) = (advS (goB es m xs (swL (ix es (e * 2)) (ix es (e * 2 + 1)) (bev (kstep es m xs n) k p).1)) n (bev (kstep es m xs n) k p).2 (stp es m xs n k L p ++ [((-1, ix es (e * 2), ix es (e * 2 + 1)) : T3)])).2
  | [], k, L, e => rfl
  | a :: p, k, L, e => by
    rw [List.cons_append, stp, stp_snoc es m xs n p, stp]; rfl

end Go.Proofs.Ytekikmdjldincaa
