/- Walks: the program goes through all lines of a circuit text. -/
import Derived.Test.YtgpkpopbajkklaaGreatDoorV6
import Derived.Test.YtgpkpopbajkklaaGreatDoorProg
set_option linter.unusedSimpArgs false
set_option linter.unusedVariables false
namespace Go.Proofs.YtgpkpopbajkklaaGreatDoor
open Go Go.RowKit
namespace TxlT
theorem Tagg_95 : aggOf Tryz.prog 95 = some 5 := by kernel_rfl
theorem Tcall_59 : callable Tryz.prog 59 = true := by kernel_rfl
theorem Tcall_90 : callable Tryz.prog 90 = true := by kernel_rfl
theorem Tcall_91 : callable Tryz.prog 91 = true := by kernel_rfl
theorem Tfo_91_0 : fieldOff Tryz.prog 91 0 = some 0 := by kernel_rfl
theorem Tfo_91_1 : fieldOff Tryz.prog 91 1 = some 1 := by kernel_rfl
theorem Tfo_91_2 : fieldOff Tryz.prog 91 2 = some 2 := by kernel_rfl
theorem Tfo_95_0 : fieldOff Tryz.prog 95 0 = some 0 := by kernel_rfl
theorem Tfo_95_2 : fieldOff Tryz.prog 95 2 = some 2 := by kernel_rfl
theorem Tfo_95_3 : fieldOff Tryz.prog 95 3 = some 3 := by kernel_rfl
theorem Tone_3 : oneOf Tryz.prog 3 = true := by kernel_rfl
theorem Tone_55 : oneOf Tryz.prog 55 = true := by kernel_rfl
theorem Tone_85 : oneOf Tryz.prog 85 = true := by kernel_rfl
theorem Tone_9 : oneOf Tryz.prog 9 = true := by kernel_rfl
theorem Tsize_3 : (Tryz.prog.info? 3).map (·.size) = some 1 := by kernel_rfl
theorem Tsize_55 : (Tryz.prog.info? 55).map (·.size) = some 1 := by kernel_rfl
theorem Tsize_59 : (Tryz.prog.info? 59).map (·.size) = some 3 := by kernel_rfl
theorem Tsize_95 : (Tryz.prog.info? 95).map (·.size) = some 5 := by kernel_rfl
theorem Tsl_55 : sliceOf Tryz.prog 55 = some (59, 3, 48, [sv ([]), .int .i64 0, .slice none 0 0]) := by kernel_rfl
theorem Tsl_85 : sliceOf Tryz.prog 85 = some (95, 5, 72, [sv ([]), .int .i64 0, sv ([]), .int .i64 0, .slice none 0 0]) := by kernel_rfl
theorem Tzero_59 : zeroOf Tryz.prog 59 = some [sv ([]), .int .i64 0, .slice none 0 0] := by kernel_rfl
theorem Tzero_95 : zeroOf Tryz.prog 95 = some [sv ([]), .int .i64 0, sv ([]), .int .i64 0, .slice none 0 0] := by kernel_rfl
end TxlT
open TxlT
theorem mapG_ok {n m : Int} {q : List Int} {g : G3} (hg : gateOk m g.1 g.2.1 g.2.2 = true) (hm : ((q.length : Nat) : Int) = m) (hb : anyI (badC n m q) q.length = false) (h0 : ∀ i, i < q.length → 0 ≤ ix q i) : gateOk n (mapG q g).1 (mapG q g).2.1 (mapG q g).2.2 = true := by
  have hlow : ∀ i, i < q.length → 0 ≤ ix q i ∧ ix q i < n ∧ hasI q (ix q i) i = false := by
    intro i hi
    have h1 : badC n m q i = false := by
      cases h2 : badC n m q i with
      | false => rfl
      | true => rw [anyI_true hi h2] at hb; cases hb
    simp only [badC, Bool.or_eq_false_iff, decide_eq_false_iff_not] at h1
    exact ⟨h0 i hi, by omega, h1.2.1⟩
  have hdist : ∀ i j, i < j → j < q.length → ix q i ≠ ix q j := by
    intro i j hij hj h
    have h1 := (hlow j hj).2.2
    have h2 : hasI q (ix q j) j = true := anyI_true (i := i) hij (decide_eq_true h)
    rw [h2] at h1; cases h1
  obtain ⟨k, a, b⟩ := g
  have h1 := gateOk_split hg
  simp only at h1
  simp only [mapG]
  refine decide_eq_true ?_
  rcases h1 with h1 | h1 | h1
  · left
    rw [if_neg (by omega), if_neg (by omega)]
    have := hlow a.toNat (by omega)
    exact ⟨h1.1, h1.2.1, this.1, this.2.1, h1.2.2.2.2⟩
  · right; left
    rw [if_neg (by omega), if_pos (by omega)]
    have ha := hlow a.toNat (by omega)
    have hb := hlow b.toNat (by omega)
    refine ⟨h1.1, h1.2.1, ha.1, ha.2.1, hb.1, hb.2.1, ?_⟩
    rcases Nat.lt_trichotomy a.toNat b.toNat with h | h | h
    · exact hdist _ _ h (by omega)
    · omega
    · exact Ne.symm (hdist _ _ h (by omega))
  · right; right
    rw [if_pos h1.1, if_neg (by omega)]
    exact h1
def GsOk (n : Int) (L : List G3) : Prop := ∀ g ∈ L, gateOk n g.1 g.2.1 g.2.2 = true
theorem GsOk.nil (n : Int) : GsOk n [] := fun _ h => nomatch h
theorem GsOk.app {n : Int} {L M : List G3} (h : GsOk n L) (h' : GsOk n M) : GsOk n (L ++ M) := fun g hg => (List.mem_append.1 hg).elim (h g) (h' g)
theorem GsOk.trim {n : Int} {L : List G3} (h : GsOk n L) : GsOk n (trim L) := fun g hg => h g (List.mem_of_mem_take hg)
theorem GsOk.rep {n : Int} {part : List G3} (hp : GsOk n part) : ∀ {m : Nat} {out : List G3}, GsOk n out → GsOk n (repT part m out)
  | 0, _, h => h
  | m + 1, _, h => GsOk.rep hp (m := m) (h.app hp).trim
theorem gateP_ok (n k : Int) (q : List Int) (a : Int) (p : Int × Int) : GsOk n (gateP n k q a p).1 := by
  unfold gateP
  split
  · rename_i h; intro g hg; simp at hg; subst hg; exact h
  · exact GsOk.nil n
theorem callP_ok {n : Int} {D : List Df} {known : Nat} {nm : Bs} {q : List Int} {a : Int} {p : Int × Int} (hD : DVal D) (hk : known ≤ D.length) (h1 : 1 ≤ q.length) (h0 : ∀ i, i < q.length → 0 ≤ ix q i) : GsOk n (callP n D known nm q a p).1 := by
  unfold callP
  split
  · exact GsOk.nil n
  · split
    · exact GsOk.nil n
    · rename_i h2 h3
      have hb : anyI (badC n (dfx D (fdJ D known nm).toNat).n q) q.length = false := by simpa using h3
      have hlt := fdJ_lt (D := D) (known := known) (nm := nm)
      have hm : ((q.length : Nat) : Int) = (dfx D (fdJ D known nm).toNat).n := by
        have h4 : badC n (dfx D (fdJ D known nm).toNat).n q 0 = false := by
          cases h5 : badC n (dfx D (fdJ D known nm).toNat).n q 0 with
          | false => rfl
          | true => rw [anyI_true (i := 0) (by omega) h5] at hb; cases hb
        simp only [badC, Bool.or_eq_false_iff, Bool.not_eq_false', decide_eq_true_eq] at h4
        exact h4.2.2
      intro g hg
      obtain ⟨g', hg', rfl⟩ := List.mem_map.1 hg
      exact mapG_ok (hD _ (by omega) g' hg') hm hb h0
theorem bkc_ok {xs : List Li} {D : List Df} {known : Nat} {n : Int} (hX : CallsOk xs) (hD : DVal D) (hk : known ≤ D.length) : ∀ (d a : Nat) (p : Int × Int) (out : List G3), xs.length - a = d → GsOk n out → GsOk n (bkc xs D known n a p out).1 := by
  intro d
  induction d using Nat.strongRecOn with
  | _ d ih =>
    intro a p out hd ho
    by_cases h : a < xs.length
    · rw [bkc_eq h]
      have k : ∀ b p out, a < b → GsOk n out → GsOk n (bkc xs D known n b p out).1 := fun b p out hb ho => ih (xs.length - b) (by omega) b p out rfl ho
      split
      · exact ho
      · split
        · exact k _ _ _ (Nat.lt_succ_self a) (ho.app (gateP_ok n _ _ _ _)).trim
        · split
          · rename_i hw; exact k _ _ _ (Nat.lt_succ_self a) (ho.app (callP_ok hD hk ((hX a h).call hw) (hX a h).pos)).trim
          · split
            · exact k _ _ _ (bkc_le ..) ((k _ _ _ (Nat.lt_succ_self a) (GsOk.nil n)).rep ho)
            · exact k _ _ _ (Nat.lt_succ_self a) ho.trim
    · rw [bkc_end h]; exact ho
theorem DVal.snoc {D : List Df} {nm : Bs} {n : Int} {gs : List G3} (hD : DVal D) (hg : GsOk n gs) : DVal (D ++ [⟨nm, n, gs⟩]) := by
  intro k hk
  rw [List.length_append, List.length_singleton] at hk
  by_cases h : k < D.length
  · have e : dfx (D ++ [⟨nm, n, gs⟩]) k = dfx D k := by simp [dfx, List.getD, List.getElem?_append_left h]
    rw [e]; exact hD k h
  · have e : dfx (D ++ [⟨nm, n, gs⟩]) k = ⟨nm, n, gs⟩ := by
      have : k = D.length := by omega
      subst this; simp [dfx, List.getD]
    rw [e]; exact hg
/-- A definition is noted twice? -/
def twiceP (D : List Df) (nm : Bs) (a : Int) (p : Int × Int) : Int × Int := if 0 ≤ fdJ D D.length nm then tellP 4 (a + 1) p else p
/-- The definitions at the beginning of a text. -/
def rn (xs : List Li) : Nat → Nat → Int × Int → List Df → List Df × Nat × (Int × Int)
  | 0, a, p, D => (D, a, p)
  | f + 1, a, p, D =>
    if a < xs.length ∧ (liAt xs a).word = wD then
      rn xs f (bkc xs D D.length (liAt xs a).num (a + 1) (twiceP D (liAt xs a).nm a p) []).2.1 (bkc xs D D.length (liAt xs a).num (a + 1) (twiceP D (liAt xs a).nm a p) []).2.2 (D ++ [⟨(liAt xs a).nm, (liAt xs a).num, (bkc xs D D.length (liAt xs a).num (a + 1) (twiceP D (liAt xs a).nm a p) []).1⟩])
    else (D, a, p)
theorem rn_fuel {xs : List Li} : ∀ (f a : Nat) (p : Int × Int) (D : List Df), xs.length - a + 1 ≤ f → ∀ f', f ≤ f' → rn xs f' a p D = rn xs f a p D
  | 0, a, p, D, h => by omega
  | f + 1, a, p, D, h => by
    intro f' hf'
    obtain ⟨g, rfl⟩ : ∃ g, f' = g + 1 := ⟨f' - 1, by omega⟩
    rw [rn, rn]
    split
    · rename_i hc
      have h1 := bkc_le xs D D.length (liAt xs a).num (a + 1) (twiceP D (liAt xs a).nm a p) []
      exact rn_fuel f _ _ _ (by omega) g (by omega)
    · rfl
def rnc (xs : List Li) (a : Nat) (p : Int × Int) (D : List Df) : List Df × Nat × (Int × Int) := rn xs (xs.length - a + 1) a p D
theorem rnc_end {xs : List Li} {a : Nat} {p : Int × Int} {D : List Df} (h : ¬ (a < xs.length ∧ (liAt xs a).word = wD)) : rnc xs a p D = (D, a, p) := by rw [rnc, rn, if_neg h]
theorem rnc_eq {xs : List Li} {a : Nat} {p : Int × Int} {D : List Df} (h : a < xs.length) (hw : (liAt xs a).word = wD) : rnc xs a p D =
    rnc xs (bkc xs D D.length (liAt xs a).num (a + 1) (twiceP D (liAt xs a).nm a p) []).2.1 (bkc xs D D.length (liAt xs a).num (a + 1) (twiceP D (liAt xs a).nm a p) []).2.2 (D ++ [⟨(liAt xs a).nm, (liAt xs a).num, (bkc xs D D.length (liAt xs a).num (a + 1) (twiceP D (liAt xs a).nm a p) []).1⟩]) := by
  have h1 := bkc_le xs D D.length (liAt xs a).num (a + 1) (twiceP D (liAt xs a).nm a p) []
  rw [rnc, rn, if_pos ⟨h, hw⟩]
  exact rn_fuel _ _ _ _ (Nat.le_refl _) _ (by omega)
/-- All that the program finds in a text whose blocks are right: definitions, gates, fault. -/
def runL (xs : List Li) : List Df × List G3 × (Int × Int) :=
  ((rnc xs 1 (0, 0) []).1, (bkc xs (rnc xs 1 (0, 0) []).1 (rnc xs 1 (0, 0) []).1.length (liAt xs 0).num (rnc xs 1 (0, 0) []).2.1 (rnc xs 1 (0, 0) []).2.2 []).1, (bkc xs (rnc xs 1 (0, 0) []).1 (rnc xs 1 (0, 0) []).1.length (liAt xs 0).num (rnc xs 1 (0, 0) []).2.1 (rnc xs 1 (0, 0) []).2.2 []).2.2)
theorem tls_word {L : List LV} {k : Nat} {x : Li} (hk : k < L.length) (hx : (tx L k).1 = x) : Pre (tls L) (k * 5) [sv x.word] := by subst hx; exact tls_pre hk 1 0 (by decide)
theorem tls_num {L : List LV} {k : Nat} {x : Li} (hk : k < L.length) (hx : (tx L k).1 = x) : Pre (tls L) (k * 5 + 3) [.int .i64 x.num] := by subst hx; exact tls_pre hk 1 3 (by decide)
theorem DAp.grp {M : Nat → Prop} {H0 R : List Res} {w0 w : World} {e : TypeId} {D : List DV} (hm : Res.grp e 3 (dgr D) ∈ R) (hs : St M w0 w (H0 ++ R)) : DAp H0 w D := by
  intro k hk
  have hp : ((dx D k).2, (dx D k).1.gs.length, ints (fl (dx D k).1.gs)) ∈ dgr D := List.mem_map.2 ⟨_, dx_mem hk, rfl⟩
  obtain ⟨A, B, hAB⟩ := List.append_of_mem hp
  obtain ⟨R1, R2, rfl⟩ := List.append_of_mem hm
  rw [hAB] at hs
  have h1 : St M w0 w (Res.grp e 3 (A ++ ((dx D k).2, (dx D k).1.gs.length, ints (fl (dx D k).1.gs)) :: B) :: (H0 ++ (R1 ++ R2))) := by
    have h := hs.perm (H' := Res.grp e 3 (A ++ ((dx D k).2, (dx D k).1.gs.length, ints (fl (dx D k).1.gs)) :: B) :: (H0 ++ (R1 ++ R2))) (by rw [← List.append_assoc, ← List.append_assoc]; exact List.perm_middle)
    exact h
  have h2 := Weak.grpTakeG _ _ _ h1
  have h3 : St M w0 w (H0 ++ (Res.own (dx D k).2 e 3 (dx D k).1.gs.length (ints (fl (dx D k).1.gs)) :: Res.grp e 3 (A ++ B) :: (R1 ++ R2))) := by
    have h := h2.perm (H' := H0 ++ (Res.own (dx D k).2 e 3 (dx D k).1.gs.length (ints (fl (dx D k).1.gs)) :: Res.grp e 3 (A ++ B) :: (R1 ++ R2))) (by
      refine List.Perm.trans ?_ List.perm_middle.symm
      exact List.Perm.cons _ List.perm_middle.symm)
    exact h
  exact Ap.own (.head _) h3
abbrev dv (d : Df) (v : Value) : DV := (d, v)
theorem d401_snoc {E : List DV} {d : Df} {v : Value} (h : ∀ k, k < E.length → (dx E k).1.gs.length ≤ 401) (hg : d.gs.length ≤ 401) : ∀ k, k < (E ++ [dv d v]).length → (dx (E ++ [dv d v]) k).1.gs.length ≤ 401 := by
  intro k hk
  rw [List.length_append, List.length_singleton] at hk
  by_cases h2 : k < E.length
  · have e : dx (E ++ [dv d v]) k = dx E k := by simp [dx, List.getD, List.getElem?_append_left h2]
    rw [e]; exact h k h2
  · have e : dx (E ++ [dv d v]) k = dv d v := by
      have : k = E.length := by omega
      subst this; simp [dx, List.getD]
    rw [e]; exact hg

set_option maxHeartbeats 16000000 in
set_option maxRecDepth 20000 in
theorem run_spec {r : Nat} {vl : Value} {N : Nat} {L : List LV} {w : World} (hN : N ≤ 16777) (hN1 : 1 ≤ N) (hl : Ap [.blk r 91 [vl, .int .i64 0, .slice none 0 0, .int .i64 0, .int .i64 0]] w vl 5 N (tls L)) (hLq : LAp [.blk r 91 [vl, .int .i64 0, .slice none 0 0, .int .i64 0, .int .i64 0]] w L) (hcx : CallsOk (L.map (·.1))) (hq0 : (liAt (L.map (·.1)) 0).word = wQ) (h : (Res.blk r 91 [vl, .int .i64 0, .slice none 0 0, .int .i64 0, .int .i64 0]).holds w) : Calls Tryz.prog 58 #[.pointer (some ⟨r, 0, none⟩)] w (Post (Of [.blk r 91 [vl, .int .i64 0, .slice none 0 0, .int .i64 0, .int .i64 0]]) w fun v H => ∃ vd D ra, D.map (·.1) = (runL (L.map (·.1))).1 ∧ H = [.own v 69 3 (runL (L.map (·.1))).2.1.length (ints (fl (runL (L.map (·.1))).2.1)), .blk r 91 [vl, .int .i64 ra, vd, .int .i64 (runL (L.map (·.1))).2.2.1, .int .i64 (runL (L.map (·.1))).2.2.2], .own vd 59 3 D.length (dls D), .grp 69 3 (dgr D)]) := by
 obtain ⟨X, hX⟩ : ∃ X, L.map (·.1) = X := ⟨_, rfl⟩
 rw [hX] at hq0 ⊢
 have hLN : L.length = N := by have := hl.sl.1; simp at this; omega
 have hXN : X.length = N := by rw [← hX, List.length_map]; exact hLN
 have hcX : CallsOk X := by rw [← hX]; exact hcx
 have hn0 : 1 ≤ (liAt X 0).num ∧ (liAt X 0).num ≤ 5 := (hcX 0 (by omega)).qb hq0
 obtain ⟨x0, hx0⟩ : ∃ x, (tx L 0).1 = x := ⟨_, rfl⟩
 have hx00 : liAt X 0 = x0 := by rw [← hX, ← tx_li, hx0]
 rw [hx00] at hn0
 obtain ⟨Al, cl, rfl, _, _⟩ := hl.sl.form0
 obtain ⟨bl, ol, rfl⟩ := hl.sl.opn hN1
 refine enter (n := 109) (args := [.pointer (some ⟨r, 0, none⟩)]) Tryz.func58 rfl rfl (St.start1 h) ?_
 refine .sr ?_
 refine .m ?_
 refine .done ?_
 refine .seq ?_
 refine Run.weak (H' := [.own (.slice none 0 0) 59 3 0 (dls []), .blk r 91 [.slice (some ⟨bl, ol, none⟩) N cl, .int .i64 0, .slice none 0 0, .int .i64 0, .int .i64 0]]) (Weak.nilOwn _ _) ?_ ⟨_, _, rfl, fun _ => nofun, fun _ => nofun⟩
 refine Run.weak (H' := [.grp 69 3 (dgr []), .own (.slice none 0 0) 59 3 0 (dls []), .blk r 91 [.slice (some ⟨bl, ol, none⟩) N cl, .int .i64 0, .slice none 0 0, .int .i64 0, .int .i64 0]]) (Weak.grpNil _ _) ?_ ⟨_, _, rfl, fun _ => nofun, fun _ => nofun⟩
 refine .region ?_
 refine .m ?_
 refine .u (.pointer (some ⟨r, 0, none⟩)) (.nilCheck rfl) ?_
 refine .fa Tfo_91_1 ?_
 refine .step rfl (.store (us := [.int .i64 1]) Tsize_3 rfl rfl rfl (.there _ (.there _ (.here _))) (by simp only [List.length_cons, List.length_nil]; omega) ?_)
 show Run _ _ _ [.grp 69 3 (dgr []), .own (.slice none 0 0) 59 3 0 (dls []), .blk r 91 [.slice (some ⟨bl, ol, none⟩) N cl, .int .i64 1, .slice none 0 0, .int .i64 0, .int .i64 0]]
 refine .done ?_
 refine .seq ?_
 refine .block ?_
 refine Run.loop (ι := Nat × Int × Int × List DV × Value) ([3, 4, 5, 6, 10, 11, 12, 13, 14, 15, 16, 17, 18, 19, 20, 21, 22, 23, 24, 25, 26, 27, 28, 29, 30, 31, 32, 33, 34, 35, 36, 37, 38, 39, 40, 41, 42, 43, 44, 45, 46, 47, 48, 49, 50, 51, 52, 53, 54, 55] ++ [56, 57, 58, 59, 60, 61, 62, 63, 64, 65, 66, 67, 68, 69, 70, 71, 72, 73, 74, 75, 76, 77, 78, 79, 80, 81, 82, 83, 84, 85, 86, 87, 88, 89, 90, 91, 92, 93, 94]) (fun ⟨b, p, q, E, vd⟩ => []) (fun ⟨b, p, q, E, vd⟩ => [.blk r 91 [.slice (some ⟨bl, ol, none⟩) N cl, .int .i64 (((b : Nat) : Int)), vd, .int .i64 p, .int .i64 q], .own vd 59 3 (E.length) (dls E), .grp 69 3 (dgr E)]) (fun ⟨b, p, q, E, vd⟩ => 1 ≤ b ∧ b ≤ N ∧ rnc X b (p, q) (E.map (·.1)) = rnc X 1 (0, 0) [] ∧ DVal (E.map (·.1)) ∧ (∀ k, k < E.length → (dx E k).1.gs.length ≤ 401) ∧ E.length ≤ b) (fun ⟨b, p, q, E, vd⟩ => N - b) (1, 0, 0, [], .slice none 0 0) ?_ ?_ ?_ ?_
 ·exact ⟨Nat.le_refl _, hN1, rfl, (fun k hk => by simp at hk), (fun k hk => by simp at hk), Nat.zero_le _⟩
 ·exact trivial
 ·exact ((Weak.selF [2, 1, 0]).trans (Some'.weak (.takeEq (by first | rfl | simp) (.takeEq (by first | rfl | simp) (.takeEq (by first | rfl | simp) (.nil _))))))
 rintro ⟨b, p, q, E, vd⟩ fr hinv
 show Run _ _ (over _ _ [] fr) [.blk r 91 [.slice (some ⟨bl, ol, none⟩) N cl, .int .i64 (((b : Nat) : Int)), vd, .int .i64 p, .int .i64 q], .own vd 59 3 (E.length) (dls E), .grp 69 3 (dgr E)]
 try dsimp only at hinv
 refine .seq ?_
 refine .seq ?_
 refine Run.formOwn (.tail _ (.head _)) (fun A_vd1 c_vd1 hv hcapc_vd1 hmaxc_vd1 => ?_) (fun _ _ _ => ⟨nofun, nofun, nofun⟩)
 subst hv
 refine Run.cut (ι := Bool) [10, 11, 12, 13, 14, 15, 16, 17, 18, 19, 20, 21, 22, 23, 24, 25, 26, 27, 28, 29, 30, 31, 32, 33] (fun bb => [(33, .bool bb)]) (fun bb => [.blk r 91 [.slice (some ⟨bl, ol, none⟩) N cl, .int .i64 (((b : Nat) : Int)), .slice A_vd1 (E.length) c_vd1, .int .i64 p, .int .i64 q], .own (.slice A_vd1 (E.length) c_vd1) 59 3 (E.length) (dls E), .grp 69 3 (dgr E)]) (fun bb => bb = (decide (b < N) && ((liAt X b).word == wD))) ?_ ?_
 ·refine .draws (by kernel_rfl) (by kernel_rfl) ?_
  refine .m ?_
  refine .u (.pointer (some ⟨r, 0, none⟩)) (.nilCheck rfl) ?_
  refine .u (.pointer (some ⟨r, 1, none⟩)) (.fieldAddr Tfo_91_1 rfl rfl) ?_
  refine .u (.int .i64 (((b : Nat) : Int))) (.load1 Tone_3 rfl (.b (.head _))) ?_
  refine .m ?_
  refine .u (.pointer (some ⟨r, 0, none⟩)) (.nilCheck rfl) ?_
  refine .u (.pointer (some ⟨r, 0, none⟩)) (.fieldAddr Tfo_91_0 rfl rfl) ?_
  refine .u (.slice (some ⟨bl, ol, none⟩) N cl) (.load1 Tone_85 rfl (.b (.head _))) ?_
  refine .u (.int .i64 (((N : Nat) : Int))) (.len Tsl_85 rfl) ?_
  refine .w (.bool (decide ((((b : Nat) : Int)) < (((N : Nat) : Int))))) ?_
  rcases Bool.eq_false_or_eq_true (decide ((((b : Nat) : Int)) < (((N : Nat) : Int)))) with h20 | h20
  ·refine .u (.bool true) (.moveB rfl h20) ?_
   have p20 := h20; try simp only [bs] at p20
   obtain ⟨hb1, hbN, hrn, hval, hD401, hEb⟩ := hinv
   obtain ⟨x, hx⟩ : ∃ x, (tx L b).1 = x := ⟨_, rfl⟩
   have hxl : liAt X b = x := by rw [← hX, ← tx_li, hx]
   obtain ⟨Aq, cq, hq, _, _⟩ := (hLq b (by omega)).sl.form0
   rw [hx] at hq
   refine .m ?_
   refine .u (.pointer (some ⟨r, 0, none⟩)) (.nilCheck rfl) ?_
   refine .u (.pointer (some ⟨r, 0, none⟩)) (.fieldAddr Tfo_91_0 rfl rfl) ?_
   refine .u (.slice (some ⟨bl, ol, none⟩) N cl) (.load1 Tone_85 rfl (.b (.head _))) ?_
   refine .m ?_
   refine .u (.pointer (some ⟨r, 0, none⟩)) (.nilCheck rfl) ?_
   refine .u (.pointer (some ⟨r, 1, none⟩)) (.fieldAddr Tfo_91_1 rfl rfl) ?_
   refine .u (.int .i64 (((b : Nat) : Int))) (.load1 Tone_3 rfl (.b (.head _))) ?_
   refine .u (.pointer (some ⟨bl, ol + b * 5, none⟩)) (.ix b Tsl_85) ?_
   refine .u (.pointer (some ⟨bl, ol + b * 5, none⟩)) (.fieldAddr Tfo_95_0 rfl rfl) ?_
   refine .u (sv (x.word)) (.load1 Tone_9 rfl (Cells.ap (k := b * 5) hl rfl (by omega) (tls_word (k := b) (by omega) hx))) ?_
   refine .u (.bool ((x.word) == wD)) (.eqS rfl rfl) ?_
   refine .w (.bool ((x.word) == wD)) ?_
   refine .done ?_
   refine .goal ⟨(by repeat (first | exact Same.refl _ _ | refine Same.put rfl ?_ | refine Same.over rfl rfl ?_)), (x.word) == wD, ?_, ?_, ?_⟩
   ·first | (rw [hxl, decide_eq_true (show b < N by omega), Bool.true_and]; done) | (rw [decide_eq_false (show ¬ b < N by omega), Bool.false_and]; done)
   ·exact ⟨(by first | rfl | (congr 1; omega) | simp [*]), trivial⟩
   ·exact ((Weak.refl _).trans (Some'.weak (.take (.takeEq (by first | rfl | simp) (.takeEq (by first | rfl | simp) (.nil _))))))
  refine .u (.bool false) (.moveB rfl h20) ?_
  have p20 := h20; try simp only [bs] at p20
  iterate 12 refine .pass rfl ?_
  refine .w (.bool false) ?_
  refine .done ?_
  refine .goal ⟨(by repeat (first | exact Same.refl _ _ | refine Same.put rfl ?_ | refine Same.over rfl rfl ?_)), false, ?_, ?_, ?_⟩
  ·first | (rw [hxl, decide_eq_true (show b < N by omega), Bool.true_and]; done) | (rw [decide_eq_false (show ¬ b < N by omega), Bool.false_and]; done)
  ·exact ⟨(by first | rfl | (congr 1; omega) | simp [*]), trivial⟩
  ·exact ((Weak.refl _).trans (Some'.weak (.take (.takeEq (by first | rfl | simp) (.takeEq (by first | rfl | simp) (.nil _))))))
 rintro bb fr hcut
 show Run _ _ (over _ _ [(33, .bool bb)] fr) [.blk r 91 [.slice (some ⟨bl, ol, none⟩) N cl, .int .i64 (((b : Nat) : Int)), .slice A_vd1 (E.length) c_vd1, .int .i64 p, .int .i64 q], .own (.slice A_vd1 (E.length) c_vd1) 59 3 (E.length) (dls E), .grp 69 3 (dgr E)]
 refine .cond (b := bb) rfl (fun h33 => ?_) (fun h33 => ?_)
 ·have p33 := h33; try simp only [bs] at p33
  have hw := hcut.symm.trans h33
  simp only [Bool.and_eq_true, decide_eq_true_eq, beq_iff_eq] at hw
  obtain ⟨hbl, hwd⟩ := hw
  obtain ⟨hb1, hbN, hrn, hval, hD401, hEb⟩ := hinv
  obtain ⟨x, hx⟩ : ∃ x, (tx L b).1 = x := ⟨_, rfl⟩
  have hxl : liAt X b = x := by rw [← hX, ← tx_li, hx]
  obtain ⟨Aq, cq, hq, _, _⟩ := (hLq b (by omega)).sl.form0
  rw [hx] at hq
  have p33 : x.word = wD := by rw [← hxl]; exact hwd
  have hnx : 1 ≤ x.num ∧ x.num ≤ 5 := by rw [← hxl]; exact (hcX b (by omega)).df (by rw [hxl]; exact p33)
  rw [rnc_eq (by omega) (by rw [hxl]; exact p33), hxl, List.length_map] at hrn
  refine .skip ?_
  refine .block ?_
  refine .seq ?_
  refine .held (by kernel_rfl) ?_
  refine DW.m 0 rfl (Weak.refl _) ?_
  refine DW.t 1 rfl (Weak.refl _) (.pointer (some ⟨r, 0, none⟩)) (.nilCheck rfl) ?_
  refine DW.t 2 rfl (Weak.refl _) (.pointer (some ⟨r, 0, none⟩)) (.fieldAddr Tfo_91_0 rfl rfl) ?_
  refine DW.t 3 rfl (Weak.refl _) (.slice (some ⟨bl, ol, none⟩) N cl) (.load1 Tone_85 rfl (.b (.head _))) ?_
  refine DW.m 4 rfl (Weak.refl _) ?_
  refine DW.t 5 rfl (Weak.refl _) (.pointer (some ⟨r, 0, none⟩)) (.nilCheck rfl) ?_
  refine DW.t 6 rfl (Weak.refl _) (.pointer (some ⟨r, 1, none⟩)) (.fieldAddr Tfo_91_1 rfl rfl) ?_
  refine DW.t 7 rfl (Weak.refl _) (.int .i64 (((b : Nat) : Int))) (.load1 Tone_3 rfl (.b (.head _))) ?_
  refine DW.t 8 rfl (Weak.refl _) (.pointer (some ⟨bl, ol + b * 5, none⟩)) (.ix b Tsl_85) ?_
  refine DW.t 9 rfl (Weak.refl _) (.agg #[sv (x.word), .int .i64 (x.kind), sv (x.nm), .int .i64 (x.num), .slice Aq (x.qs.length) cq]) (.loadN (cs := [sv (x.word), .int .i64 (x.kind), sv (x.nm), .int .i64 (x.num), .slice Aq (x.qs.length) cq]) Tagg_95 rfl (Cells.ap (k := b * 5) hl rfl (by omega) (tls_preF (k := b) (by omega) hx hq))) ?_
  refine DW.step (i := 10) (by kernel_rfl) rfl rfl (OpStep.alloc (zs := [sv ([]), .int .i64 0, sv ([]), .int .i64 0, .slice none 0 0]) Tzero_95 fun b1 => ?_)
  refine ⟨(Some'.weak (.skip (.take (.take (.take (.nil _)))))), ?_⟩
  refine DW.step (i := 11) (by kernel_rfl) rfl rfl (OpStep.storeAll (us := [sv (x.word), .int .i64 (x.kind), sv (x.nm), .int .i64 (x.num), .slice Aq (x.qs.length) cq]) Tsize_95 rfl rfl rfl (.here _) rfl ?_)
  refine ⟨(Some'.weak (.skip (.take (.take (.take (.nil _)))))), ?_⟩
  refine DW.done (by kernel_rfl) ?_
  refine .seq ?_
  refine .seq ?_
  refine .held (by kernel_rfl) ?_
  refine DW.m 0 rfl (Weak.refl _) ?_
  refine DW.t 1 rfl (Weak.refl _) (.pointer (some ⟨b1, 2, none⟩)) (.fieldAddr Tfo_95_2 rfl rfl) ?_
  refine DW.t 2 rfl (Weak.refl _) (sv (x.nm)) (.load1 Tone_9 rfl (.b (.head _))) ?_
  refine DW.m 3 rfl (Weak.refl _) ?_
  refine DW.t 4 rfl (Weak.refl _) (.pointer (some ⟨r, 0, none⟩)) (.nilCheck rfl) ?_
  refine DW.t 5 rfl (Weak.refl _) (.pointer (some ⟨r, 2, none⟩)) (.fieldAddr Tfo_91_2 rfl rfl) ?_
  refine DW.t 6 rfl (Weak.refl _) (.slice A_vd1 (E.length) c_vd1) (.load1 Tone_55 rfl (.b (.tail _ (.head _)))) ?_
  refine DW.t 7 rfl (Weak.refl _) (.int .i64 (((E.length : Nat) : Int))) (.len Tsl_55 rfl) ?_
  refine DW.two (i := 8) (j := 12) (by kernel_rfl) rfl rfl rfl rfl ?_ ?_
  ·refine OpStep.c [.pointer (some ⟨r, 0, none⟩), sv (x.nm), .int .i64 (((E.length : Nat) : Int))] Tcall_90 (fun w hs => find_spec (hs.slBlk (.tail _ (.head _))) (hs.slOwn (.tail _ (.tail _ (.head _)))) (hs.dq (.tail _ (.tail _ (.tail _ (.head _))))) (Nat.le_refl _)) ?_
   rintro _ _ ⟨s1, i1, Ag, mg, cg, rfl, rfl, hf⟩
   refine ⟨(Some'.weak (.take (.take (.take (.take (.nil _)))))), ?_⟩
   refine DW.t 9 rfl (Weak.refl _) (.tuple #[.agg #[sv s1, .int .i64 i1, .slice Ag mg cg], .bool (decide (0 ≤ fdI E E.length x.nm))]) (.pure rfl) ?_
   refine DW.t 10 rfl (Weak.refl _) (.agg #[sv s1, .int .i64 i1, .slice Ag mg cg]) (.pure rfl) ?_
   refine DW.t 11 rfl (Weak.refl _) (.bool (decide (0 ≤ fdI E E.length x.nm))) (.pure rfl) ?_
   refine DW.step (i := 12) (by kernel_rfl) rfl rfl (OpStep.alloc (zs := [sv ([]), .int .i64 0, .slice none 0 0]) Tzero_59 fun b2 => ?_)
   refine ⟨(Some'.weak (.skip (.take (.take (.take (.take (.nil _))))))), ?_⟩
   refine DW.step (i := 13) (by kernel_rfl) rfl rfl (OpStep.storeAll (us := [sv s1, .int .i64 i1, .slice Ag mg cg]) Tsize_59 rfl rfl rfl (.here _) rfl ?_)
   refine ⟨(Some'.weak (.skip (.take (.take (.take (.take (.nil _))))))), ?_⟩
   refine DW.m 14 rfl (Some'.weak (.skip (.take (.take (.take (.take (.nil _))))))) ?_
   refine DW.done (by kernel_rfl) ?_
   refine .sr ?_
   refine .m ?_
   refine .done ?_
   refine Run.cut (ι := Int × Int) [57, 58, 59, 60, 61, 62, 63] (fun ⟨p2, q2⟩ => []) (fun ⟨p2, q2⟩ => [.blk b2 59 [sv s1, .int .i64 i1, .slice Ag mg cg], .blk b1 95 [sv (x.word), .int .i64 (x.kind), sv (x.nm), .int .i64 (x.num), .slice Aq (x.qs.length) cq], .blk r 91 [.slice (some ⟨bl, ol, none⟩) N cl, .int .i64 (((b : Nat) : Int)), .slice A_vd1 (E.length) c_vd1, .int .i64 p2, .int .i64 q2], .own (.slice A_vd1 (E.length) c_vd1) 59 3 (E.length) (dls E), .grp 69 3 (dgr E)]) (fun ⟨p2, q2⟩ => twiceP (E.map (·.1)) x.nm ((b : Nat) : Int) (p, q) = (p2, q2)) ?_ ?_
   ·refine .cond (b := decide (0 ≤ fdI E E.length x.nm)) rfl (fun h56 => ?_) (fun h56 => ?_)
    ·have p56 := h56; try simp only [bs] at p56
     have htw : twiceP (E.map (·.1)) x.nm ((b : Nat) : Int) (p, q) = tellP 4 (((b : Nat) : Int) + 1) (p, q) := by rw [twiceP, List.length_map, ← fdI_J]; exact if_pos p56
     rw [htw] at hrn
     refine .region ?_
     iterate 2 refine .m ?_
     refine .u (.pointer (some ⟨r, 0, none⟩)) (.nilCheck rfl) ?_
     refine .fa Tfo_91_1 ?_
     refine .u (.int .i64 (((b : Nat) : Int))) (.load1 Tone_3 rfl (.b (.tail _ (.tail _ (.head _))))) ?_
     refine .u (.int .i64 ((((b : Nat) : Int)) + 1)) (.add rfl rfl rfl (by omega) (by omega)) ?_
     refine .step rfl (.callM (H1 := [.blk r 91 [.slice (some ⟨bl, ol, none⟩) N cl, .int .i64 (((b : Nat) : Int)), .slice A_vd1 (E.length) c_vd1, .int .i64 p, .int .i64 q]]) (H2 := [.blk b2 59 [sv s1, .int .i64 i1, .slice Ag mg cg], .blk b1 95 [sv (x.word), .int .i64 (x.kind), sv (x.nm), .int .i64 (x.num), .slice Aq (x.qs.length) cq], .own (.slice A_vd1 (E.length) c_vd1) 59 3 (E.length) (dls E), .grp 69 3 (dgr E)]) (vs := [.pointer (some ⟨r, 0, none⟩), .int .i64 4, .int .i64 ((((b : Nat) : Int)) + 1)]) (caps := []) Tcall_59 rfl rfl (Weak.selF [2]) (fun w hs => tell_spec (hs.holds _ (.head _))) ?_)
     rintro _ _ ⟨rfl, rfl⟩
     show Run _ _ (putF _ _ _ (.tuple #[])) [.blk r 91 [.slice (some ⟨bl, ol, none⟩) N cl, .int .i64 (((b : Nat) : Int)), .slice A_vd1 (E.length) c_vd1, .int .i64 ((tellP 4 ((((b : Nat) : Int)) + 1) (p, q)).1), .int .i64 ((tellP 4 ((((b : Nat) : Int)) + 1) (p, q)).2)], .blk b2 59 [sv s1, .int .i64 i1, .slice Ag mg cg], .blk b1 95 [sv (x.word), .int .i64 (x.kind), sv (x.nm), .int .i64 (x.num), .slice Aq (x.qs.length) cq], .own (.slice A_vd1 (E.length) c_vd1) 59 3 (E.length) (dls E), .grp 69 3 (dgr E)]
     refine .done ?_
     refine .goal ⟨(by repeat (first | exact Same.refl _ _ | refine Same.put rfl ?_ | refine Same.over rfl rfl ?_)), ((tellP 4 ((((b : Nat) : Int)) + 1) (p, q)).1, (tellP 4 ((((b : Nat) : Int)) + 1) (p, q)).2), ?_, ?_, ?_⟩
     ·exact htw
     ·exact trivial
     ·exact ((Weak.selF [1, 1, 0, 0, 0]).trans (Some'.weak (.take (.take (.takeEq (by first | rfl | simp) (.takeEq (by first | rfl | simp) (.takeEq (by first | rfl | simp) (.nil _))))))))
    have p56 := h56; try simp only [bs] at p56
    have htw : twiceP (E.map (·.1)) x.nm ((b : Nat) : Int) (p, q) = (p, q) := by rw [twiceP, List.length_map, ← fdI_J]; exact if_neg (by omega)
    rw [htw] at hrn
    refine .skip ?_
    refine .goal ⟨(by repeat (first | exact Same.refl _ _ | refine Same.put rfl ?_ | refine Same.over rfl rfl ?_)), (p, q), ?_, ?_, ?_⟩
    ·exact htw
    ·exact trivial
    ·exact ((Weak.refl _).trans (Some'.weak (.take (.take (.takeEq (by first | rfl | simp) (.takeEq (by first | rfl | simp) (.takeEq (by first | rfl | simp) (.nil _))))))))
   rintro ⟨p2, q2⟩ fr hcut
   show Run _ _ (over _ _ [] fr) [.blk b2 59 [sv s1, .int .i64 i1, .slice Ag mg cg], .blk b1 95 [sv (x.word), .int .i64 (x.kind), sv (x.nm), .int .i64 (x.num), .slice Aq (x.qs.length) cq], .blk r 91 [.slice (some ⟨bl, ol, none⟩) N cl, .int .i64 (((b : Nat) : Int)), .slice A_vd1 (E.length) c_vd1, .int .i64 p2, .int .i64 q2], .own (.slice A_vd1 (E.length) c_vd1) 59 3 (E.length) (dls E), .grp 69 3 (dgr E)]
   rw [hcut] at hrn
   refine .sr ?_
   refine .m ?_
   refine .u (.pointer (some ⟨r, 0, none⟩)) (.nilCheck rfl) ?_
   refine .fa Tfo_91_1 ?_
   refine .u (.int .i64 (((b : Nat) : Int))) (.load1 Tone_3 rfl (.b (.tail _ (.tail _ (.head _))))) ?_
   refine .u (.int .i64 ((((b : Nat) : Int)) + 1)) (.add rfl rfl rfl (by omega) (by omega)) ?_
   refine .u (.pointer (some ⟨r, 0, none⟩)) (.nilCheck rfl) ?_
   refine .fa Tfo_91_1 ?_
   refine .step rfl (.store (us := [.int .i64 ((((b : Nat) : Int)) + 1)]) Tsize_3 rfl rfl rfl (.there _ (.there _ (.here _))) (by simp only [List.length_cons, List.length_nil]; omega) ?_)
   show Run _ _ _ [.blk b2 59 [sv s1, .int .i64 i1, .slice Ag mg cg], .blk b1 95 [sv (x.word), .int .i64 (x.kind), sv (x.nm), .int .i64 (x.num), .slice Aq (x.qs.length) cq], .blk r 91 [.slice (some ⟨bl, ol, none⟩) N cl, .int .i64 ((((b : Nat) : Int)) + 1), .slice A_vd1 (E.length) c_vd1, .int .i64 p2, .int .i64 q2], .own (.slice A_vd1 (E.length) c_vd1) 59 3 (E.length) (dls E), .grp 69 3 (dgr E)]
   refine .done ?_
   refine .seq ?_
   refine .lastlyB [8] [.blk b2 59 [sv s1, .int .i64 i1, .slice Ag mg cg], .blk b1 95 [sv (x.word), .int .i64 (x.kind), sv (x.nm), .int .i64 (x.num), .slice Aq (x.qs.length) cq], .blk r 91 [.slice (some ⟨bl, ol, none⟩) N cl, .int .i64 ((((b : Nat) : Int)) + 1), .slice A_vd1 (E.length) c_vd1, .int .i64 p2, .int .i64 q2]] (by kernel_rfl) ?_
   refine DL.m 0 rfl ?_
   refine DL.tP 1 rfl (.pointer (some ⟨b1, 3, none⟩)) (fun _ => OpY.fieldAddr Tfo_95_3 rfl rfl) ?_
   refine DL.tT 2 rfl (Some'.weak (.take (.take (.take (.nil _))))) (.int .i64 (x.num)) (.load1 Tone_3 rfl (.b (.tail _ (.head _)))) ?_
   refine DL.m 3 rfl ?_
   refine DL.tP 4 rfl (.pointer (some ⟨r, 0, none⟩)) (fun _ => OpY.nilCheck rfl) ?_
   refine DL.tP 5 rfl (.pointer (some ⟨r, 2, none⟩)) (fun _ => OpY.fieldAddr Tfo_91_2 rfl rfl) ?_
   refine DL.tT 6 rfl (Some'.weak (.take (.take (.take (.nil _))))) (.slice A_vd1 (E.length) c_vd1) (.load1 Tone_55 rfl (.b (.tail _ (.tail _ (.head _))))) ?_
   refine DL.tP 7 rfl (.int .i64 (((E.length : Nat) : Int))) (fun _ => OpY.len Tsl_55 rfl) ?_
   refine DL.step (i := 8) (by kernel_rfl) (by kernel_rfl) rfl rfl (OpStep.callM (H1 := [.blk r 91 [.slice (some ⟨bl, ol, none⟩) N cl, .int .i64 ((((b : Nat) : Int)) + 1), .slice A_vd1 (E.length) c_vd1, .int .i64 p2, .int .i64 q2]]) (H2 := [.blk b2 59 [sv s1, .int .i64 i1, .slice Ag mg cg], .blk b1 95 [sv (x.word), .int .i64 (x.kind), sv (x.nm), .int .i64 (x.num), .slice Aq (x.qs.length) cq], .own (.slice A_vd1 (E.length) c_vd1) 59 3 (E.length) (dls E), .grp 69 3 (dgr E)]) (vs := [.pointer (some ⟨r, 0, none⟩), .int .i64 (x.num), .int .i64 (((E.length : Nat) : Int))]) (caps := []) Tcall_91 rfl rfl (Weak.selF [2]) (fun w hs => (by have h := blkStmt_all _ (known := E.length) (a := (b + 1)) rfl hnx hN (Ap.ap hl hs) (hLq.ap hs) hcx (Ap.own (.tail _ (.tail _ (List.Mem.head _))) hs) (DAp.grp (.tail _ (.tail _ (.tail _ (List.Mem.head _)))) hs) hval hD401 (Nat.le_refl _) (by omega) (hs.holds _ (.head _)); rw [hX] at h; exact h)) ?_)
   rintro v1 _ rfl
   refine DL.tP 9 rfl v1 (fun _ => OpY.pure rfl) ?_
   refine DL.done (by kernel_rfl) ?_
   refine Run.formOwn (.head _) (fun A_v11 c_v11 hv hcapc_v11 hmaxc_v11 => ?_) (fun _ _ _ => ⟨nofun, nofun, nofun⟩)
   subst hv
   refine Run.weak (H' := [.grp 69 3 (dgr (E ++ [(dv ⟨x.nm, x.num, (bkc X (E.map (·.1)) E.length x.num (b + 1) (p2, q2) []).1⟩ (.slice A_v11 ((bkc X (E.map (·.1)) E.length x.num (b + 1) (p2, q2) []).1.length) c_v11))])), .blk r 91 [.slice (some ⟨bl, ol, none⟩) N cl, .int .i64 ((((bkc X (E.map (·.1)) E.length x.num (b + 1) (p2, q2) []).2.1 : Nat) : Int)), .slice A_vd1 (E.length) c_vd1, .int .i64 ((bkc X (E.map (·.1)) E.length x.num (b + 1) (p2, q2) []).2.2.1), .int .i64 ((bkc X (E.map (·.1)) E.length x.num (b + 1) (p2, q2) []).2.2.2)], .blk b2 59 [sv s1, .int .i64 i1, .slice Ag mg cg], .blk b1 95 [sv (x.word), .int .i64 (x.kind), sv (x.nm), .int .i64 (x.num), .slice Aq (x.qs.length) cq], .own (.slice A_vd1 (E.length) c_vd1) 59 3 (E.length) (dls E)]) ((Weak.selF [0, 4]).trans (Weak.dgrSnoc (d := ⟨x.nm, x.num, (bkc X (E.map (·.1)) E.length x.num (b + 1) (p2, q2) []).1⟩))) ?_ ⟨_, _, rfl, fun _ => nofun, fun _ => nofun⟩
   refine .lastlyB [15] [.blk r 91 [.slice (some ⟨bl, ol, none⟩) N cl, .int .i64 ((((bkc X (E.map (·.1)) E.length x.num (b + 1) (p2, q2) []).2.1 : Nat) : Int)), .slice A_vd1 (E.length) c_vd1, .int .i64 ((bkc X (E.map (·.1)) E.length x.num (b + 1) (p2, q2) []).2.2.1), .int .i64 ((bkc X (E.map (·.1)) E.length x.num (b + 1) (p2, q2) []).2.2.2)], .blk b2 59 [sv s1, .int .i64 i1, .slice Ag mg cg], .blk b1 95 [sv (x.word), .int .i64 (x.kind), sv (x.nm), .int .i64 (x.num), .slice Aq (x.qs.length) cq]] (by kernel_rfl) ?_
   refine DL.m 0 rfl ?_
   refine DL.m 1 rfl ?_
   refine DL.tP 2 rfl (.pointer (some ⟨r, 0, none⟩)) (fun _ => OpY.nilCheck rfl) ?_
   refine DL.tP 3 rfl (.pointer (some ⟨r, 2, none⟩)) (fun _ => OpY.fieldAddr Tfo_91_2 rfl rfl) ?_
   refine DL.t 4 rfl (Some'.weak (.skip (.take (.take (.take (.nil _)))))) (.slice A_vd1 (E.length) c_vd1) (.load1 Tone_55 rfl (.b (.head _))) ?_
   refine DL.tP 5 rfl (.pointer (some ⟨b1, 2, none⟩)) (fun _ => OpY.fieldAddr Tfo_95_2 rfl rfl) ?_
   refine DL.t 6 rfl (Some'.weak (.skip (.take (.take (.take (.nil _)))))) (sv (x.nm)) (.load1 Tone_9 rfl (.b (.tail _ (.tail _ (.head _))))) ?_
   refine DL.tP 7 rfl (.pointer (some ⟨b1, 3, none⟩)) (fun _ => OpY.fieldAddr Tfo_95_3 rfl rfl) ?_
   refine DL.t 8 rfl (Some'.weak (.skip (.take (.take (.take (.nil _)))))) (.int .i64 (x.num)) (.load1 Tone_3 rfl (.b (.tail _ (.tail _ (.head _))))) ?_
   refine DL.m 9 rfl ?_
   refine DL.tP 10 rfl (.agg #[sv (x.nm), .int .i64 (x.num), .slice A_v11 ((bkc X (E.map (·.1)) E.length x.num (b + 1) (p2, q2) []).1.length) c_v11]) (fun _ => OpY.build (cs := [sv (x.nm), .int .i64 (x.num), .slice A_v11 ((bkc X (E.map (·.1)) E.length x.num (b + 1) (p2, q2) []).1.length) c_v11]) (by kernel_rfl)) ?_
   refine DL.stepS (i := 11) (by kernel_rfl) rfl rfl (OpStep.buildSlice (us := [sv (x.nm), .int .i64 (x.num), .slice A_v11 ((bkc X (E.map (·.1)) E.length x.num (b + 1) (p2, q2) []).1.length) c_v11]) Tsl_55 (by decide) (by decide) ⟨rfl, [sv (x.nm), .int .i64 (x.num), .slice A_v11 ((bkc X (E.map (·.1)) E.length x.num (b + 1) (p2, q2) []).1.length) c_v11], _, rfl, rfl, rfl, rfl⟩ rfl fun b3 => ?_)
   refine ⟨(Some'.weak (.skip (.skip (.take (.take (.take (.nil _))))))), ?_⟩
   refine DL.stepS (i := 12) (by kernel_rfl) rfl rfl (OpStep.append (H1 := [.own (.slice (some ⟨b3, 0, none⟩) 1 1) 59 3 1 ([sv (x.nm), .int .i64 (x.num), .slice A_v11 ((bkc X (E.map (·.1)) E.length x.num (b + 1) (p2, q2) []).1.length) c_v11]), .grp 69 3 (dgr (E ++ [(dv ⟨x.nm, x.num, (bkc X (E.map (·.1)) E.length x.num (b + 1) (p2, q2) []).1⟩ (.slice A_v11 ((bkc X (E.map (·.1)) E.length x.num (b + 1) (p2, q2) []).1.length) c_v11))])), .blk r 91 [.slice (some ⟨bl, ol, none⟩) N cl, .int .i64 ((((bkc X (E.map (·.1)) E.length x.num (b + 1) (p2, q2) []).2.1 : Nat) : Int)), .slice A_vd1 (E.length) c_vd1, .int .i64 ((bkc X (E.map (·.1)) E.length x.num (b + 1) (p2, q2) []).2.2.1), .int .i64 ((bkc X (E.map (·.1)) E.length x.num (b + 1) (p2, q2) []).2.2.2)], .blk b2 59 [sv s1, .int .i64 i1, .slice Ag mg cg], .blk b1 95 [sv (x.word), .int .i64 (x.kind), sv (x.nm), .int .i64 (x.num), .slice Aq (x.qs.length) cq]]) (H2 := []) (v := .slice A_vd1 (E.length) c_vd1) (u := .slice (some ⟨b3, 0, none⟩) 1 1) (n := E.length) (m := 1) (xs := dls E) (ys := [sv (x.nm), .int .i64 (x.num), .slice A_v11 ((bkc X (E.map (·.1)) E.length x.num (b + 1) (p2, q2) []).1.length) c_v11]) Tsl_55 (by decide) rfl rfl rfl rfl (fun w hs => hs.slOwn (.head _)) (by simp [Value.oneCell']) (by omega) (by simp only [maxLen]; omega) fun av1 hnav1 => ?_)
   refine DL.weakS (H' := [.own (.slice (some ⟨b3, 0, none⟩) 1 1) 59 3 1 ([sv (x.nm), .int .i64 (x.num), .slice A_v11 ((bkc X (E.map (·.1)) E.length x.num (b + 1) (p2, q2) []).1.length) c_v11]), .grp 69 3 (dgr (E ++ [(dv ⟨x.nm, x.num, (bkc X (E.map (·.1)) E.length x.num (b + 1) (p2, q2) []).1⟩ (.slice A_v11 ((bkc X (E.map (·.1)) E.length x.num (b + 1) (p2, q2) []).1.length) c_v11))])), .blk r 91 [.slice (some ⟨bl, ol, none⟩) N cl, .int .i64 ((((bkc X (E.map (·.1)) E.length x.num (b + 1) (p2, q2) []).2.1 : Nat) : Int)), .slice A_vd1 (E.length) c_vd1, .int .i64 ((bkc X (E.map (·.1)) E.length x.num (b + 1) (p2, q2) []).2.2.1), .int .i64 ((bkc X (E.map (·.1)) E.length x.num (b + 1) (p2, q2) []).2.2.2)], .blk b2 59 [sv s1, .int .i64 i1, .slice Ag mg cg], .blk b1 95 [sv (x.word), .int .i64 (x.kind), sv (x.nm), .int .i64 (x.num), .slice Aq (x.qs.length) cq], .own av1 59 3 ((E ++ [(dv ⟨x.nm, x.num, (bkc X (E.map (·.1)) E.length x.num (b + 1) (p2, q2) []).1⟩ (.slice A_v11 ((bkc X (E.map (·.1)) E.length x.num (b + 1) (p2, q2) []).1.length) c_v11))]).length) (dls (E ++ [(dv ⟨x.nm, x.num, (bkc X (E.map (·.1)) E.length x.num (b + 1) (p2, q2) []).1⟩ (.slice A_v11 ((bkc X (E.map (·.1)) E.length x.num (b + 1) (p2, q2) []).1.length) c_v11))]))]) (Some'.weak (.take (.take (.take (.take (.take (.takeEq (by simp [dls, dle]) (.nil _)))))))) ?_
   refine ⟨(Some'.weak (.skip (.skip (.take (.take (.take (.nil _))))))), ?_⟩
   refine DL.tP 13 rfl (.pointer (some ⟨r, 0, none⟩)) (fun _ => OpY.nilCheck rfl) ?_
   refine DL.tP 14 rfl (.pointer (some ⟨r, 2, none⟩)) (fun _ => OpY.fieldAddr Tfo_91_2 rfl rfl) ?_
   refine DL.formOwn (.tail _ (.tail _ (.tail _ (.tail _ (.tail _ (.head _)))))) (fun A_av11 c_av11 hv hcapc_av11 hmaxc_av11 => ?_)
   subst hv
   refine DL.step (i := 15) (by kernel_rfl) (by kernel_rfl) rfl rfl (OpStep.store (us := [.slice A_av11 ((E ++ [(dv ⟨x.nm, x.num, (bkc X (E.map (·.1)) E.length x.num (b + 1) (p2, q2) []).1⟩ (.slice A_v11 ((bkc X (E.map (·.1)) E.length x.num (b + 1) (p2, q2) []).1.length) c_v11))]).length) c_av11]) Tsize_55 rfl rfl rfl (.there _ (.there _ (.here _))) (by simp only [List.length_cons, List.length_nil]; omega) ?_)
   show DL _ _ _ _ _ _ _ _ [.own (.slice (some ⟨b3, 0, none⟩) 1 1) 59 3 1 ([sv (x.nm), .int .i64 (x.num), .slice A_v11 ((bkc X (E.map (·.1)) E.length x.num (b + 1) (p2, q2) []).1.length) c_v11]), .grp 69 3 (dgr (E ++ [(dv ⟨x.nm, x.num, (bkc X (E.map (·.1)) E.length x.num (b + 1) (p2, q2) []).1⟩ (.slice A_v11 ((bkc X (E.map (·.1)) E.length x.num (b + 1) (p2, q2) []).1.length) c_v11))])), .blk r 91 [.slice (some ⟨bl, ol, none⟩) N cl, .int .i64 ((((bkc X (E.map (·.1)) E.length x.num (b + 1) (p2, q2) []).2.1 : Nat) : Int)), .slice A_av11 ((E ++ [(dv ⟨x.nm, x.num, (bkc X (E.map (·.1)) E.length x.num (b + 1) (p2, q2) []).1⟩ (.slice A_v11 ((bkc X (E.map (·.1)) E.length x.num (b + 1) (p2, q2) []).1.length) c_v11))]).length) c_av11, .int .i64 ((bkc X (E.map (·.1)) E.length x.num (b + 1) (p2, q2) []).2.2.1), .int .i64 ((bkc X (E.map (·.1)) E.length x.num (b + 1) (p2, q2) []).2.2.2)], .blk b2 59 [sv s1, .int .i64 i1, .slice Ag mg cg], .blk b1 95 [sv (x.word), .int .i64 (x.kind), sv (x.nm), .int .i64 (x.num), .slice Aq (x.qs.length) cq], .own (.slice A_av11 ((E ++ [(dv ⟨x.nm, x.num, (bkc X (E.map (·.1)) E.length x.num (b + 1) (p2, q2) []).1⟩ (.slice A_v11 ((bkc X (E.map (·.1)) E.length x.num (b + 1) (p2, q2) []).1.length) c_v11))]).length) c_av11) 59 3 ((E ++ [(dv ⟨x.nm, x.num, (bkc X (E.map (·.1)) E.length x.num (b + 1) (p2, q2) []).1⟩ (.slice A_v11 ((bkc X (E.map (·.1)) E.length x.num (b + 1) (p2, q2) []).1.length) c_v11))]).length) (dls (E ++ [(dv ⟨x.nm, x.num, (bkc X (E.map (·.1)) E.length x.num (b + 1) (p2, q2) []).1⟩ (.slice A_v11 ((bkc X (E.map (·.1)) E.length x.num (b + 1) (p2, q2) []).1.length) c_v11))]))]
   refine DL.done (by kernel_rfl) ?_
   refine .blockEnd ?_
   refine .goal ⟨(by repeat (first | exact Same.refl _ _ | refine Same.put rfl ?_ | refine Same.over rfl rfl ?_)), ((bkc X (E.map (·.1)) E.length x.num (b + 1) (p2, q2) []).2.1, (bkc X (E.map (·.1)) E.length x.num (b + 1) (p2, q2) []).2.2.1, (bkc X (E.map (·.1)) E.length x.num (b + 1) (p2, q2) []).2.2.2, (E ++ [(dv ⟨x.nm, x.num, (bkc X (E.map (·.1)) E.length x.num (b + 1) (p2, q2) []).1⟩ (.slice A_v11 ((bkc X (E.map (·.1)) E.length x.num (b + 1) (p2, q2) []).1.length) c_v11))]), .slice A_av11 ((E ++ [(dv ⟨x.nm, x.num, (bkc X (E.map (·.1)) E.length x.num (b + 1) (p2, q2) []).1⟩ (.slice A_v11 ((bkc X (E.map (·.1)) E.length x.num (b + 1) (p2, q2) []).1.length) c_v11))]).length) c_av11), ?_, ?_, ?_, ?_⟩
   ·refine ⟨?_, ?_, ?_, ?_, ?_, ?_⟩
    ·have := bkc_le X (E.map (·.1)) E.length x.num (b + 1) (p2, q2) []; omega
    ·have := bkc_ub (xs := X) (D := E.map (·.1)) (known := E.length) (n := x.num) _ (b + 1) (p2, q2) [] rfl (by omega); omega
    ·rw [List.map_append]; exact hrn
    ·rw [List.map_append]; exact hval.snoc (bkc_ok hcX hval (by simp) _ _ _ _ rfl (GsOk.nil _))
    ·exact d401_snoc hD401 (bkc_len _ _ _ _ rfl (by simp))
    ·have := bkc_le X (E.map (·.1)) E.length x.num (b + 1) (p2, q2) []
     rw [List.length_append, List.length_singleton]; omega
   ·have := bkc_le X (E.map (·.1)) E.length x.num (b + 1) (p2, q2) []
    show N - _ < N - b; omega
   ·exact trivial
   ·exact ((Weak.selF [2, 4, 1]).trans (Some'.weak (.takeEq (by first | rfl | simp) (.takeEq (by first | rfl | simp) (.takeEq (by first | rfl | simp) (.nil _))))))
  ·refine OpStep.alloc (zs := [sv ([]), .int .i64 0, .slice none 0 0]) Tzero_59 fun b4 => ?_
   refine ⟨(Some'.weak (.skip (.take (.take (.take (.take (.nil _))))))), ?_⟩
   refine DW.step (i := 8) (by kernel_rfl) rfl rfl (OpStep.c [.pointer (some ⟨r, 0, none⟩), sv (x.nm), .int .i64 (((E.length : Nat) : Int))] Tcall_90 (fun w hs => find_spec (hs.slBlk (.tail _ (.tail _ (.head _)))) (hs.slOwn (.tail _ (.tail _ (.tail _ (.head _))))) (hs.dq (.tail _ (.tail _ (.tail _ (.tail _ (.head _)))))) (Nat.le_refl _)) ?_)
   rintro _ _ ⟨s1, i1, Ag, mg, cg, rfl, rfl, hf⟩
   refine ⟨(Some'.weak (.skip (.take (.take (.take (.take (.nil _))))))), ?_⟩
   refine DW.t 9 rfl (Some'.weak (.skip (.take (.take (.take (.take (.nil _))))))) (.tuple #[.agg #[sv s1, .int .i64 i1, .slice Ag mg cg], .bool (decide (0 ≤ fdI E E.length x.nm))]) (.pure rfl) ?_
   refine DW.t 10 rfl (Some'.weak (.skip (.take (.take (.take (.take (.nil _))))))) (.agg #[sv s1, .int .i64 i1, .slice Ag mg cg]) (.pure rfl) ?_
   refine DW.t 11 rfl (Some'.weak (.skip (.take (.take (.take (.take (.nil _))))))) (.bool (decide (0 ≤ fdI E E.length x.nm))) (.pure rfl) ?_
   refine DW.step (i := 13) (by kernel_rfl) rfl rfl (OpStep.storeAll (us := [sv s1, .int .i64 i1, .slice Ag mg cg]) Tsize_59 rfl rfl rfl (.here _) rfl ?_)
   refine ⟨(Some'.weak (.skip (.take (.take (.take (.take (.nil _))))))), ?_⟩
   refine DW.m 14 rfl (Some'.weak (.skip (.take (.take (.take (.take (.nil _))))))) ?_
   refine DW.done (by kernel_rfl) ?_
   refine .sr ?_
   refine .m ?_
   refine .done ?_
   refine Run.cut (ι := Int × Int) [57, 58, 59, 60, 61, 62, 63] (fun ⟨p2, q2⟩ => []) (fun ⟨p2, q2⟩ => [.blk b4 59 [sv s1, .int .i64 i1, .slice Ag mg cg], .blk b1 95 [sv (x.word), .int .i64 (x.kind), sv (x.nm), .int .i64 (x.num), .slice Aq (x.qs.length) cq], .blk r 91 [.slice (some ⟨bl, ol, none⟩) N cl, .int .i64 (((b : Nat) : Int)), .slice A_vd1 (E.length) c_vd1, .int .i64 p2, .int .i64 q2], .own (.slice A_vd1 (E.length) c_vd1) 59 3 (E.length) (dls E), .grp 69 3 (dgr E)]) (fun ⟨p2, q2⟩ => twiceP (E.map (·.1)) x.nm ((b : Nat) : Int) (p, q) = (p2, q2)) ?_ ?_
   ·refine .cond (b := decide (0 ≤ fdI E E.length x.nm)) rfl (fun h56 => ?_) (fun h56 => ?_)
    ·have p56 := h56; try simp only [bs] at p56
     have htw : twiceP (E.map (·.1)) x.nm ((b : Nat) : Int) (p, q) = tellP 4 (((b : Nat) : Int) + 1) (p, q) := by rw [twiceP, List.length_map, ← fdI_J]; exact if_pos p56
     rw [htw] at hrn
     refine .region ?_
     iterate 2 refine .m ?_
     refine .u (.pointer (some ⟨r, 0, none⟩)) (.nilCheck rfl) ?_
     refine .fa Tfo_91_1 ?_
     refine .u (.int .i64 (((b : Nat) : Int))) (.load1 Tone_3 rfl (.b (.tail _ (.tail _ (.head _))))) ?_
     refine .u (.int .i64 ((((b : Nat) : Int)) + 1)) (.add rfl rfl rfl (by omega) (by omega)) ?_
     refine .step rfl (.callM (H1 := [.blk r 91 [.slice (some ⟨bl, ol, none⟩) N cl, .int .i64 (((b : Nat) : Int)), .slice A_vd1 (E.length) c_vd1, .int .i64 p, .int .i64 q]]) (H2 := [.blk b4 59 [sv s1, .int .i64 i1, .slice Ag mg cg], .blk b1 95 [sv (x.word), .int .i64 (x.kind), sv (x.nm), .int .i64 (x.num), .slice Aq (x.qs.length) cq], .own (.slice A_vd1 (E.length) c_vd1) 59 3 (E.length) (dls E), .grp 69 3 (dgr E)]) (vs := [.pointer (some ⟨r, 0, none⟩), .int .i64 4, .int .i64 ((((b : Nat) : Int)) + 1)]) (caps := []) Tcall_59 rfl rfl (Weak.selF [2]) (fun w hs => tell_spec (hs.holds _ (.head _))) ?_)
     rintro _ _ ⟨rfl, rfl⟩
     show Run _ _ (putF _ _ _ (.tuple #[])) [.blk r 91 [.slice (some ⟨bl, ol, none⟩) N cl, .int .i64 (((b : Nat) : Int)), .slice A_vd1 (E.length) c_vd1, .int .i64 ((tellP 4 ((((b : Nat) : Int)) + 1) (p, q)).1), .int .i64 ((tellP 4 ((((b : Nat) : Int)) + 1) (p, q)).2)], .blk b4 59 [sv s1, .int .i64 i1, .slice Ag mg cg], .blk b1 95 [sv (x.word), .int .i64 (x.kind), sv (x.nm), .int .i64 (x.num), .slice Aq (x.qs.length) cq], .own (.slice A_vd1 (E.length) c_vd1) 59 3 (E.length) (dls E), .grp 69 3 (dgr E)]
     refine .done ?_
     refine .goal ⟨(by repeat (first | exact Same.refl _ _ | refine Same.put rfl ?_ | refine Same.over rfl rfl ?_)), ((tellP 4 ((((b : Nat) : Int)) + 1) (p, q)).1, (tellP 4 ((((b : Nat) : Int)) + 1) (p, q)).2), ?_, ?_, ?_⟩
     ·exact htw
     ·exact trivial
     ·exact ((Weak.selF [1, 1, 0, 0, 0]).trans (Some'.weak (.take (.take (.takeEq (by first | rfl | simp) (.takeEq (by first | rfl | simp) (.takeEq (by first | rfl | simp) (.nil _))))))))
    have p56 := h56; try simp only [bs] at p56
    have htw : twiceP (E.map (·.1)) x.nm ((b : Nat) : Int) (p, q) = (p, q) := by rw [twiceP, List.length_map, ← fdI_J]; exact if_neg (by omega)
    rw [htw] at hrn
    refine .skip ?_
    refine .goal ⟨(by repeat (first | exact Same.refl _ _ | refine Same.put rfl ?_ | refine Same.over rfl rfl ?_)), (p, q), ?_, ?_, ?_⟩
    ·exact htw
    ·exact trivial
    ·exact ((Weak.refl _).trans (Some'.weak (.take (.take (.takeEq (by first | rfl | simp) (.takeEq (by first | rfl | simp) (.takeEq (by first | rfl | simp) (.nil _))))))))
   rintro ⟨p2, q2⟩ fr hcut
   show Run _ _ (over _ _ [] fr) [.blk b4 59 [sv s1, .int .i64 i1, .slice Ag mg cg], .blk b1 95 [sv (x.word), .int .i64 (x.kind), sv (x.nm), .int .i64 (x.num), .slice Aq (x.qs.length) cq], .blk r 91 [.slice (some ⟨bl, ol, none⟩) N cl, .int .i64 (((b : Nat) : Int)), .slice A_vd1 (E.length) c_vd1, .int .i64 p2, .int .i64 q2], .own (.slice A_vd1 (E.length) c_vd1) 59 3 (E.length) (dls E), .grp 69 3 (dgr E)]
   rw [hcut] at hrn
   refine .sr ?_
   refine .m ?_
   refine .u (.pointer (some ⟨r, 0, none⟩)) (.nilCheck rfl) ?_
   refine .fa Tfo_91_1 ?_
   refine .u (.int .i64 (((b : Nat) : Int))) (.load1 Tone_3 rfl (.b (.tail _ (.tail _ (.head _))))) ?_
   refine .u (.int .i64 ((((b : Nat) : Int)) + 1)) (.add rfl rfl rfl (by omega) (by omega)) ?_
   refine .u (.pointer (some ⟨r, 0, none⟩)) (.nilCheck rfl) ?_
   refine .fa Tfo_91_1 ?_
   refine .step rfl (.store (us := [.int .i64 ((((b : Nat) : Int)) + 1)]) Tsize_3 rfl rfl rfl (.there _ (.there _ (.here _))) (by simp only [List.length_cons, List.length_nil]; omega) ?_)
   show Run _ _ _ [.blk b4 59 [sv s1, .int .i64 i1, .slice Ag mg cg], .blk b1 95 [sv (x.word), .int .i64 (x.kind), sv (x.nm), .int .i64 (x.num), .slice Aq (x.qs.length) cq], .blk r 91 [.slice (some ⟨bl, ol, none⟩) N cl, .int .i64 ((((b : Nat) : Int)) + 1), .slice A_vd1 (E.length) c_vd1, .int .i64 p2, .int .i64 q2], .own (.slice A_vd1 (E.length) c_vd1) 59 3 (E.length) (dls E), .grp 69 3 (dgr E)]
   refine .done ?_
   refine .seq ?_
   refine .lastlyB [8] [.blk b4 59 [sv s1, .int .i64 i1, .slice Ag mg cg], .blk b1 95 [sv (x.word), .int .i64 (x.kind), sv (x.nm), .int .i64 (x.num), .slice Aq (x.qs.length) cq], .blk r 91 [.slice (some ⟨bl, ol, none⟩) N cl, .int .i64 ((((b : Nat) : Int)) + 1), .slice A_vd1 (E.length) c_vd1, .int .i64 p2, .int .i64 q2]] (by kernel_rfl) ?_
   refine DL.m 0 rfl ?_
   refine DL.tP 1 rfl (.pointer (some ⟨b1, 3, none⟩)) (fun _ => OpY.fieldAddr Tfo_95_3 rfl rfl) ?_
   refine DL.tT 2 rfl (Some'.weak (.take (.take (.take (.nil _))))) (.int .i64 (x.num)) (.load1 Tone_3 rfl (.b (.tail _ (.head _)))) ?_
   refine DL.m 3 rfl ?_
   refine DL.tP 4 rfl (.pointer (some ⟨r, 0, none⟩)) (fun _ => OpY.nilCheck rfl) ?_
   refine DL.tP 5 rfl (.pointer (some ⟨r, 2, none⟩)) (fun _ => OpY.fieldAddr Tfo_91_2 rfl rfl) ?_
   refine DL.tT 6 rfl (Some'.weak (.take (.take (.take (.nil _))))) (.slice A_vd1 (E.length) c_vd1) (.load1 Tone_55 rfl (.b (.tail _ (.tail _ (.head _))))) ?_
   refine DL.tP 7 rfl (.int .i64 (((E.length : Nat) : Int))) (fun _ => OpY.len Tsl_55 rfl) ?_
   refine DL.step (i := 8) (by kernel_rfl) (by kernel_rfl) rfl rfl (OpStep.callM (H1 := [.blk r 91 [.slice (some ⟨bl, ol, none⟩) N cl, .int .i64 ((((b : Nat) : Int)) + 1), .slice A_vd1 (E.length) c_vd1, .int .i64 p2, .int .i64 q2]]) (H2 := [.blk b4 59 [sv s1, .int .i64 i1, .slice Ag mg cg], .blk b1 95 [sv (x.word), .int .i64 (x.kind), sv (x.nm), .int .i64 (x.num), .slice Aq (x.qs.length) cq], .own (.slice A_vd1 (E.length) c_vd1) 59 3 (E.length) (dls E), .grp 69 3 (dgr E)]) (vs := [.pointer (some ⟨r, 0, none⟩), .int .i64 (x.num), .int .i64 (((E.length : Nat) : Int))]) (caps := []) Tcall_91 rfl rfl (Weak.selF [2]) (fun w hs => (by have h := blkStmt_all _ (known := E.length) (a := (b + 1)) rfl hnx hN (Ap.ap hl hs) (hLq.ap hs) hcx (Ap.own (.tail _ (.tail _ (List.Mem.head _))) hs) (DAp.grp (.tail _ (.tail _ (.tail _ (List.Mem.head _)))) hs) hval hD401 (Nat.le_refl _) (by omega) (hs.holds _ (.head _)); rw [hX] at h; exact h)) ?_)
   rintro v1 _ rfl
   refine DL.tP 9 rfl v1 (fun _ => OpY.pure rfl) ?_
   refine DL.done (by kernel_rfl) ?_
   refine Run.formOwn (.head _) (fun A_v12 c_v12 hv hcapc_v12 hmaxc_v12 => ?_) (fun _ _ _ => ⟨nofun, nofun, nofun⟩)
   subst hv
   refine Run.weak (H' := [.grp 69 3 (dgr (E ++ [(dv ⟨x.nm, x.num, (bkc X (E.map (·.1)) E.length x.num (b + 1) (p2, q2) []).1⟩ (.slice A_v12 ((bkc X (E.map (·.1)) E.length x.num (b + 1) (p2, q2) []).1.length) c_v12))])), .blk r 91 [.slice (some ⟨bl, ol, none⟩) N cl, .int .i64 ((((bkc X (E.map (·.1)) E.length x.num (b + 1) (p2, q2) []).2.1 : Nat) : Int)), .slice A_vd1 (E.length) c_vd1, .int .i64 ((bkc X (E.map (·.1)) E.length x.num (b + 1) (p2, q2) []).2.2.1), .int .i64 ((bkc X (E.map (·.1)) E.length x.num (b + 1) (p2, q2) []).2.2.2)], .blk b4 59 [sv s1, .int .i64 i1, .slice Ag mg cg], .blk b1 95 [sv (x.word), .int .i64 (x.kind), sv (x.nm), .int .i64 (x.num), .slice Aq (x.qs.length) cq], .own (.slice A_vd1 (E.length) c_vd1) 59 3 (E.length) (dls E)]) ((Weak.selF [0, 4]).trans (Weak.dgrSnoc (d := ⟨x.nm, x.num, (bkc X (E.map (·.1)) E.length x.num (b + 1) (p2, q2) []).1⟩))) ?_ ⟨_, _, rfl, fun _ => nofun, fun _ => nofun⟩
   refine .lastlyB [15] [.blk r 91 [.slice (some ⟨bl, ol, none⟩) N cl, .int .i64 ((((bkc X (E.map (·.1)) E.length x.num (b + 1) (p2, q2) []).2.1 : Nat) : Int)), .slice A_vd1 (E.length) c_vd1, .int .i64 ((bkc X (E.map (·.1)) E.length x.num (b + 1) (p2, q2) []).2.2.1), .int .i64 ((bkc X (E.map (·.1)) E.length x.num (b + 1) (p2, q2) []).2.2.2)], .blk b4 59 [sv s1, .int .i64 i1, .slice Ag mg cg], .blk b1 95 [sv (x.word), .int .i64 (x.kind), sv (x.nm), .int .i64 (x.num), .slice Aq (x.qs.length) cq]] (by kernel_rfl) ?_
   refine DL.m 0 rfl ?_
   refine DL.m 1 rfl ?_
   refine DL.tP 2 rfl (.pointer (some ⟨r, 0, none⟩)) (fun _ => OpY.nilCheck rfl) ?_
   refine DL.tP 3 rfl (.pointer (some ⟨r, 2, none⟩)) (fun _ => OpY.fieldAddr Tfo_91_2 rfl rfl) ?_
   refine DL.t 4 rfl (Some'.weak (.skip (.take (.take (.take (.nil _)))))) (.slice A_vd1 (E.length) c_vd1) (.load1 Tone_55 rfl (.b (.head _))) ?_
   refine DL.tP 5 rfl (.pointer (some ⟨b1, 2, none⟩)) (fun _ => OpY.fieldAddr Tfo_95_2 rfl rfl) ?_
   refine DL.t 6 rfl (Some'.weak (.skip (.take (.take (.take (.nil _)))))) (sv (x.nm)) (.load1 Tone_9 rfl (.b (.tail _ (.tail _ (.head _))))) ?_
   refine DL.tP 7 rfl (.pointer (some ⟨b1, 3, none⟩)) (fun _ => OpY.fieldAddr Tfo_95_3 rfl rfl) ?_
   refine DL.t 8 rfl (Some'.weak (.skip (.take (.take (.take (.nil _)))))) (.int .i64 (x.num)) (.load1 Tone_3 rfl (.b (.tail _ (.tail _ (.head _))))) ?_
   refine DL.m 9 rfl ?_
   refine DL.tP 10 rfl (.agg #[sv (x.nm), .int .i64 (x.num), .slice A_v12 ((bkc X (E.map (·.1)) E.length x.num (b + 1) (p2, q2) []).1.length) c_v12]) (fun _ => OpY.build (cs := [sv (x.nm), .int .i64 (x.num), .slice A_v12 ((bkc X (E.map (·.1)) E.length x.num (b + 1) (p2, q2) []).1.length) c_v12]) (by kernel_rfl)) ?_
   refine DL.stepS (i := 11) (by kernel_rfl) rfl rfl (OpStep.buildSlice (us := [sv (x.nm), .int .i64 (x.num), .slice A_v12 ((bkc X (E.map (·.1)) E.length x.num (b + 1) (p2, q2) []).1.length) c_v12]) Tsl_55 (by decide) (by decide) ⟨rfl, [sv (x.nm), .int .i64 (x.num), .slice A_v12 ((bkc X (E.map (·.1)) E.length x.num (b + 1) (p2, q2) []).1.length) c_v12], _, rfl, rfl, rfl, rfl⟩ rfl fun b5 => ?_)
   refine ⟨(Some'.weak (.skip (.skip (.take (.take (.take (.nil _))))))), ?_⟩
   refine DL.stepS (i := 12) (by kernel_rfl) rfl rfl (OpStep.append (H1 := [.own (.slice (some ⟨b5, 0, none⟩) 1 1) 59 3 1 ([sv (x.nm), .int .i64 (x.num), .slice A_v12 ((bkc X (E.map (·.1)) E.length x.num (b + 1) (p2, q2) []).1.length) c_v12]), .grp 69 3 (dgr (E ++ [(dv ⟨x.nm, x.num, (bkc X (E.map (·.1)) E.length x.num (b + 1) (p2, q2) []).1⟩ (.slice A_v12 ((bkc X (E.map (·.1)) E.length x.num (b + 1) (p2, q2) []).1.length) c_v12))])), .blk r 91 [.slice (some ⟨bl, ol, none⟩) N cl, .int .i64 ((((bkc X (E.map (·.1)) E.length x.num (b + 1) (p2, q2) []).2.1 : Nat) : Int)), .slice A_vd1 (E.length) c_vd1, .int .i64 ((bkc X (E.map (·.1)) E.length x.num (b + 1) (p2, q2) []).2.2.1), .int .i64 ((bkc X (E.map (·.1)) E.length x.num (b + 1) (p2, q2) []).2.2.2)], .blk b4 59 [sv s1, .int .i64 i1, .slice Ag mg cg], .blk b1 95 [sv (x.word), .int .i64 (x.kind), sv (x.nm), .int .i64 (x.num), .slice Aq (x.qs.length) cq]]) (H2 := []) (v := .slice A_vd1 (E.length) c_vd1) (u := .slice (some ⟨b5, 0, none⟩) 1 1) (n := E.length) (m := 1) (xs := dls E) (ys := [sv (x.nm), .int .i64 (x.num), .slice A_v12 ((bkc X (E.map (·.1)) E.length x.num (b + 1) (p2, q2) []).1.length) c_v12]) Tsl_55 (by decide) rfl rfl rfl rfl (fun w hs => hs.slOwn (.head _)) (by simp [Value.oneCell']) (by omega) (by simp only [maxLen]; omega) fun av2 hnav2 => ?_)
   refine DL.weakS (H' := [.own (.slice (some ⟨b5, 0, none⟩) 1 1) 59 3 1 ([sv (x.nm), .int .i64 (x.num), .slice A_v12 ((bkc X (E.map (·.1)) E.length x.num (b + 1) (p2, q2) []).1.length) c_v12]), .grp 69 3 (dgr (E ++ [(dv ⟨x.nm, x.num, (bkc X (E.map (·.1)) E.length x.num (b + 1) (p2, q2) []).1⟩ (.slice A_v12 ((bkc X (E.map (·.1)) E.length x.num (b + 1) (p2, q2) []).1.length) c_v12))])), .blk r 91 [.slice (some ⟨bl, ol, none⟩) N cl, .int .i64 ((((bkc X (E.map (·.1)) E.length x.num (b + 1) (p2, q2) []).2.1 : Nat) : Int)), .slice A_vd1 (E.length) c_vd1, .int .i64 ((bkc X (E.map (·.1)) E.length x.num (b + 1) (p2, q2) []).2.2.1), .int .i64 ((bkc X (E.map (·.1)) E.length x.num (b + 1) (p2, q2) []).2.2.2)], .blk b4 59 [sv s1, .int .i64 i1, .slice Ag mg cg], .blk b1 95 [sv (x.word), .int .i64 (x.kind), sv (x.nm), .int .i64 (x.num), .slice Aq (x.qs.length) cq], .own av2 59 3 ((E ++ [(dv ⟨x.nm, x.num, (bkc X (E.map (·.1)) E.length x.num (b + 1) (p2, q2) []).1⟩ (.slice A_v12 ((bkc X (E.map (·.1)) E.length x.num (b + 1) (p2, q2) []).1.length) c_v12))]).length) (dls (E ++ [(dv ⟨x.nm, x.num, (bkc X (E.map (·.1)) E.length x.num (b + 1) (p2, q2) []).1⟩ (.slice A_v12 ((bkc X (E.map (·.1)) E.length x.num (b + 1) (p2, q2) []).1.length) c_v12))]))]) (Some'.weak (.take (.take (.take (.take (.take (.takeEq (by simp [dls, dle]) (.nil _)))))))) ?_
   refine ⟨(Some'.weak (.skip (.skip (.take (.take (.take (.nil _))))))), ?_⟩
   refine DL.tP 13 rfl (.pointer (some ⟨r, 0, none⟩)) (fun _ => OpY.nilCheck rfl) ?_
   refine DL.tP 14 rfl (.pointer (some ⟨r, 2, none⟩)) (fun _ => OpY.fieldAddr Tfo_91_2 rfl rfl) ?_
   refine DL.formOwn (.tail _ (.tail _ (.tail _ (.tail _ (.tail _ (.head _)))))) (fun A_av21 c_av21 hv hcapc_av21 hmaxc_av21 => ?_)
   subst hv
   refine DL.step (i := 15) (by kernel_rfl) (by kernel_rfl) rfl rfl (OpStep.store (us := [.slice A_av21 ((E ++ [(dv ⟨x.nm, x.num, (bkc X (E.map (·.1)) E.length x.num (b + 1) (p2, q2) []).1⟩ (.slice A_v12 ((bkc X (E.map (·.1)) E.length x.num (b + 1) (p2, q2) []).1.length) c_v12))]).length) c_av21]) Tsize_55 rfl rfl rfl (.there _ (.there _ (.here _))) (by simp only [List.length_cons, List.length_nil]; omega) ?_)
   show DL _ _ _ _ _ _ _ _ [.own (.slice (some ⟨b5, 0, none⟩) 1 1) 59 3 1 ([sv (x.nm), .int .i64 (x.num), .slice A_v12 ((bkc X (E.map (·.1)) E.length x.num (b + 1) (p2, q2) []).1.length) c_v12]), .grp 69 3 (dgr (E ++ [(dv ⟨x.nm, x.num, (bkc X (E.map (·.1)) E.length x.num (b + 1) (p2, q2) []).1⟩ (.slice A_v12 ((bkc X (E.map (·.1)) E.length x.num (b + 1) (p2, q2) []).1.length) c_v12))])), .blk r 91 [.slice (some ⟨bl, ol, none⟩) N cl, .int .i64 ((((bkc X (E.map (·.1)) E.length x.num (b + 1) (p2, q2) []).2.1 : Nat) : Int)), .slice A_av21 ((E ++ [(dv ⟨x.nm, x.num, (bkc X (E.map (·.1)) E.length x.num (b + 1) (p2, q2) []).1⟩ (.slice A_v12 ((bkc X (E.map (·.1)) E.length x.num (b + 1) (p2, q2) []).1.length) c_v12))]).length) c_av21, .int .i64 ((bkc X (E.map (·.1)) E.length x.num (b + 1) (p2, q2) []).2.2.1), .int .i64 ((bkc X (E.map (·.1)) E.length x.num (b + 1) (p2, q2) []).2.2.2)], .blk b4 59 [sv s1, .int .i64 i1, .slice Ag mg cg], .blk b1 95 [sv (x.word), .int .i64 (x.kind), sv (x.nm), .int .i64 (x.num), .slice Aq (x.qs.length) cq], .own (.slice A_av21 ((E ++ [(dv ⟨x.nm, x.num, (bkc X (E.map (·.1)) E.length x.num (b + 1) (p2, q2) []).1⟩ (.slice A_v12 ((bkc X (E.map (·.1)) E.length x.num (b + 1) (p2, q2) []).1.length) c_v12))]).length) c_av21) 59 3 ((E ++ [(dv ⟨x.nm, x.num, (bkc X (E.map (·.1)) E.length x.num (b + 1) (p2, q2) []).1⟩ (.slice A_v12 ((bkc X (E.map (·.1)) E.length x.num (b + 1) (p2, q2) []).1.length) c_v12))]).length) (dls (E ++ [(dv ⟨x.nm, x.num, (bkc X (E.map (·.1)) E.length x.num (b + 1) (p2, q2) []).1⟩ (.slice A_v12 ((bkc X (E.map (·.1)) E.length x.num (b + 1) (p2, q2) []).1.length) c_v12))]))]
   refine DL.done (by kernel_rfl) ?_
   refine .blockEnd ?_
   refine .goal ⟨(by repeat (first | exact Same.refl _ _ | refine Same.put rfl ?_ | refine Same.over rfl rfl ?_)), ((bkc X (E.map (·.1)) E.length x.num (b + 1) (p2, q2) []).2.1, (bkc X (E.map (·.1)) E.length x.num (b + 1) (p2, q2) []).2.2.1, (bkc X (E.map (·.1)) E.length x.num (b + 1) (p2, q2) []).2.2.2, (E ++ [(dv ⟨x.nm, x.num, (bkc X (E.map (·.1)) E.length x.num (b + 1) (p2, q2) []).1⟩ (.slice A_v12 ((bkc X (E.map (·.1)) E.length x.num (b + 1) (p2, q2) []).1.length) c_v12))]), .slice A_av21 ((E ++ [(dv ⟨x.nm, x.num, (bkc X (E.map (·.1)) E.length x.num (b + 1) (p2, q2) []).1⟩ (.slice A_v12 ((bkc X (E.map (·.1)) E.length x.num (b + 1) (p2, q2) []).1.length) c_v12))]).length) c_av21), ?_, ?_, ?_, ?_⟩
   ·refine ⟨?_, ?_, ?_, ?_, ?_, ?_⟩
    ·have := bkc_le X (E.map (·.1)) E.length x.num (b + 1) (p2, q2) []; omega
    ·have := bkc_ub (xs := X) (D := E.map (·.1)) (known := E.length) (n := x.num) _ (b + 1) (p2, q2) [] rfl (by omega); omega
    ·rw [List.map_append]; exact hrn
    ·rw [List.map_append]; exact hval.snoc (bkc_ok hcX hval (by simp) _ _ _ _ rfl (GsOk.nil _))
    ·exact d401_snoc hD401 (bkc_len _ _ _ _ rfl (by simp))
    ·have := bkc_le X (E.map (·.1)) E.length x.num (b + 1) (p2, q2) []
     rw [List.length_append, List.length_singleton]; omega
   ·have := bkc_le X (E.map (·.1)) E.length x.num (b + 1) (p2, q2) []
    show N - _ < N - b; omega
   ·exact trivial
   ·exact ((Weak.selF [2, 4, 1]).trans (Some'.weak (.takeEq (by first | rfl | simp) (.takeEq (by first | rfl | simp) (.takeEq (by first | rfl | simp) (.nil _))))))
 have p33 := h33; try simp only [bs] at p33
 have hw := hcut.symm.trans h33
 obtain ⟨hb1, hbN, hrn, hval, hD401, hEb⟩ := hinv
 have hR : rnc X 1 (0, 0) [] = (E.map (·.1), b, (p, q)) := by rw [← hrn, rnc_end (by rintro ⟨h1, h2⟩; rw [h2, decide_eq_true (by omega)] at hw; simp at hw)]
 refine .exit rfl ?_
 refine .seq ?_
 refine .lastlyB [13] [.blk r 91 [.slice (some ⟨bl, ol, none⟩) N cl, .int .i64 (((b : Nat) : Int)), .slice A_vd1 (E.length) c_vd1, .int .i64 p, .int .i64 q]] (by kernel_rfl) ?_
 refine DL.m 0 rfl ?_
 refine DL.m 1 rfl ?_
 refine DL.tP 2 rfl (.pointer (some ⟨r, 0, none⟩)) (fun _ => OpY.nilCheck rfl) ?_
 refine DL.tP 3 rfl (.pointer (some ⟨r, 0, none⟩)) (fun _ => OpY.fieldAddr Tfo_91_0 rfl rfl) ?_
 refine DL.tT 4 rfl (Some'.weak (.take (.nil _))) (.slice (some ⟨bl, ol, none⟩) N cl) (.load1 Tone_85 rfl (.b (.head _))) ?_
 refine DL.tP 5 rfl (.pointer (some ⟨bl, ol, none⟩)) (fun _ => OpY.ix 0 Tsl_85) ?_
 refine DL.tP 6 rfl (.pointer (some ⟨bl, ol + 3, none⟩)) (fun _ => OpY.fieldAddr Tfo_95_3 rfl rfl) ?_
 refine DL.tT 7 rfl (Some'.weak (.take (.nil _))) (.int .i64 (x0.num)) (.load1 Tone_3 rfl (Cells.ap (k := 3) hl rfl (by omega) (tls_num (k := 0) (by omega) hx0))) ?_
 refine DL.m 8 rfl ?_
 refine DL.tP 9 rfl (.pointer (some ⟨r, 0, none⟩)) (fun _ => OpY.nilCheck rfl) ?_
 refine DL.tP 10 rfl (.pointer (some ⟨r, 2, none⟩)) (fun _ => OpY.fieldAddr Tfo_91_2 rfl rfl) ?_
 refine DL.tT 11 rfl (Some'.weak (.take (.nil _))) (.slice A_vd1 (E.length) c_vd1) (.load1 Tone_55 rfl (.b (.head _))) ?_
 refine DL.tP 12 rfl (.int .i64 (((E.length : Nat) : Int))) (fun _ => OpY.len Tsl_55 rfl) ?_
 refine DL.step (i := 13) (by kernel_rfl) (by kernel_rfl) rfl rfl (OpStep.callM (H1 := [.blk r 91 [.slice (some ⟨bl, ol, none⟩) N cl, .int .i64 (((b : Nat) : Int)), .slice A_vd1 (E.length) c_vd1, .int .i64 p, .int .i64 q]]) (H2 := [.own (.slice A_vd1 (E.length) c_vd1) 59 3 (E.length) (dls E), .grp 69 3 (dgr E)]) (vs := [.pointer (some ⟨r, 0, none⟩), .int .i64 (x0.num), .int .i64 (((E.length : Nat) : Int))]) (caps := []) Tcall_91 rfl rfl (Weak.refl _) (fun w hs => (by have h := blkStmt_all _ (known := E.length) (a := b) rfl hn0 hN (Ap.ap hl hs) (hLq.ap hs) hcx (Ap.own (.head _) hs) (DAp.grp (.tail _ (List.Mem.head _)) hs) hval hD401 (Nat.le_refl _) (by omega) (hs.holds _ (.head _)); rw [hX] at h; exact h)) ?_)
 rintro v1 _ rfl
 refine DL.tP 14 rfl v1 (fun _ => OpY.pure rfl) ?_
 refine DL.done (by kernel_rfl) ?_
 refine .ret ?_
 refine ⟨v1, [.own v1 69 3 ((runL X).2.1.length) (ints (fl (runL X).2.1)), .blk r 91 [.slice (some ⟨bl, ol, none⟩) N cl, .int .i64 ((((bkc X (E.map (·.1)) E.length x0.num b (p, q) []).2.1 : Nat) : Int)), .slice A_vd1 (E.length) c_vd1, .int .i64 ((runL X).2.2.1), .int .i64 ((runL X).2.2.2)], .own (.slice A_vd1 (E.length) c_vd1) 59 3 (E.length) (dls E), .grp 69 3 (dgr E)], Out.one rfl rfl, (Some'.weak (.takeEq (by simp only [runL, hR, List.length_map, hx00]) (.takeEq (by simp only [runL, hR, List.length_map, hx00]) (.take (.take (.nil _)))))), ?_⟩
 exact ⟨_, E, _, by simp only [runL, hR], rfl⟩

end Go.Proofs.YtgpkpopbajkklaaGreatDoor
