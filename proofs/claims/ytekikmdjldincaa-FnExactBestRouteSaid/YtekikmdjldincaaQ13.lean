/- Walks: RouteFrom and LeastSwaps of both sides. -/
import Derived.Test.YtekikmdjldincaaQ12
import Derived.Test.YtekikmdjldincaaProg
set_option linter.unusedSimpArgs false
set_option linter.unusedVariables false
namespace Go.Proofs.Ytekikmdjldincaa
open Go Go.RowKit
namespace LstT
theorem Tagg_35 : aggOf Try.prog 35 = some 2 := by kernel_rfl
theorem Tagg_39 : aggOf Try.prog 39 = some 2 := by kernel_rfl
theorem Tagg_48 : aggOf Try.prog 48 = some 2 := by kernel_rfl
theorem Tcall_30 : callable Try.prog 30 = true := by kernel_rfl
theorem Tcall_31 : callable Try.prog 31 = true := by kernel_rfl
theorem Tcall_34 : callable Try.prog 34 = true := by kernel_rfl
theorem Tcall_36 : callable Try.prog 36 = true := by kernel_rfl
theorem Tfo_39_0 : fieldOff Try.prog 39 0 = some 0 := by kernel_rfl
theorem Tfo_39_1 : fieldOff Try.prog 39 1 = some 1 := by kernel_rfl
theorem Tfo_48_1 : fieldOff Try.prog 48 1 = some 1 := by kernel_rfl
theorem Tone_3 : oneOf Try.prog 3 = true := by kernel_rfl
theorem Tone_37 : oneOf Try.prog 37 = true := by kernel_rfl
theorem Tone_46 : oneOf Try.prog 46 = true := by kernel_rfl
theorem Tsize_48 : (Try.prog.info? 48).map (·.size) = some 2 := by kernel_rfl
theorem Tsl_37 : sliceOf Try.prog 37 = some (81, 3, 24, [.int .i64 0, .int .i64 0, .int .i64 0]) := by kernel_rfl
theorem Tsl_46 : sliceOf Try.prog 46 = some (101, 3, 24, [.int .i64 0, .int .i64 0, .int .i64 0]) := by kernel_rfl
theorem Tsl_68 : sliceOf Try.prog 68 = some (28, 1, 24, [.slice none 0 0]) := by kernel_rfl
theorem Tzero_48 : zeroOf Try.prog 48 = some [.slice none 0 0, .slice none 0 0] := by kernel_rfl
end LstT
open LstT
theorem rt_count {M : Nat} {N Q : Int} {es xs ps : List Int} {m n pn : Nat} {p : List Nat} (hl : ps.length = pn) (ho : rtO N es m Q xs n ps pn = true) (h : rtP M es m xs n (rS es m xs n ps) = some p) : (rtL M N es m Q xs n ps pn).length = n + p.length ∧ swC (rtL M N es m Q xs n ps pn) = p.length := by
  obtain ⟨_, _, h3⟩ := rt_yes (M := M) (pn := pn) ho h
  have hF := rtF_of ho
  rw [h3]
  rw [rtP, Option.map_eq_some_iff] at h
  obtain ⟨y, hy, rfl⟩ := h
  have hym := List.mem_of_find?_eq_some hy
  have hyd : allD y.1.2 n = true := List.find?_some (p := fun y : RK × List Nat => allD y.1.2 n) hy
  have hev := (bfs_inv (step := kstep es m xs n) (ok := fun _ => true) (E := m) (s := rS es m xs n ps) M).ev y hym
  have hbw : ∀ e ∈ y.2, e < m := fun e he => ((bfs_inv (step := kstep es m xs n) (ok := fun _ => true) (E := m) (s := rS es m xs n ps) M).okw y hym e he).1
  have h4 := stp_len hF.he y.2 (rS es m xs n ps) (rL es m xs n ps) (rS_ok hF hl) hbw
  have h5 := advS_len (es := es) (m := m) (xs := xs) (ps := ps) (n := n) _ (List.replicate n false) [] rfl (by simp)
  have h6 : (rL es m xs n ps).length + und (rS es m xs n ps).2 = n := by
    have e : (rL es m xs n ps).length + und (rS es m xs n ps).2 = (advS (goB es m xs ps) n (List.replicate n false) []).2.length + und (advS (goB es m xs ps) n (List.replicate n false) []).1 := rfl
    rw [e, h5]; simp [und]
  have h7 : und y.1.2 = 0 := by
    have hk : KOk N Q pn n xs y.1 := rQ_key hF.he (rS_ok hF hl) M y hym
    unfold und
    rw [List.count_eq_zero]
    intro hm
    obtain ⟨j, hj, hje⟩ := List.getElem_of_mem hm
    have hb : bx y.1.2 j = false := by simp [bx, List.getD, hj, hje]
    have h8 : allD y.1.2 n = false := by
      unfold allD
      rw [anyI_true (by rw [← hk.dl]; exact hj) (by rw [hb]; rfl)]; rfl
    rw [h8] at hyd; exact absurd hyd (by decide)
  rw [hev, h7, h6] at h4
  refine ⟨by omega, ?_⟩
  rw [stp_sw]
  have h9 : swC (rL es m xs n ps) = 0 := by
    unfold rL advS
    rw [adv_sw]; rfl
  rw [h9]; omega
theorem rt_bnd {M : Nat} {N Q : Int} {es xs ps : List Int} {m n pn : Nat} (hl : ps.length = pn) : (rtS M N es m Q xs n ps pn).length ≤ 5 ∧ (rtL M N es m Q xs n ps pn).length ≤ 12800040 := by
  cases ho : rtO N es m Q xs n ps pn with
  | false =>
    obtain ⟨_, h2, h3⟩ := rt_no (M := M) (N := N) (es := es) (m := m) (Q := Q) (xs := xs) (n := n) (ps := ps) (pn := pn) (.inl ho)
    rw [h2, h3]; simp
  | true =>
    have hF := rtF_of ho
    cases h : rtP M es m xs n (rS es m xs n ps) with
    | none =>
      obtain ⟨_, h2, h3⟩ := rt_no (M := M) (N := N) (es := es) (m := m) (Q := Q) (xs := xs) (n := n) (ps := ps) (pn := pn) (.inr h)
      rw [h2, h3]; simp
    | some p =>
      obtain ⟨_, h2, _⟩ := rt_yes (M := M) (pn := pn) ho h
      have h3 := (rt_count (M := M) hl ho h).1
      have hp : p.length ≤ 12800000 := by
        rw [rtP, Option.map_eq_some_iff] at h
        obtain ⟨y, hy, rfl⟩ := h
        obtain ⟨j, hj, hje⟩ := List.getElem_of_mem (List.mem_of_find?_eq_some hy)
        have h4 := bfs_plen (step := kstep es m xs n) (ok := fun _ => true) (E := m) (s := rS es m xs n ps) M j y (show (rQ es m xs n (rS es m xs n ps) M)[j]? = some y by rw [List.getElem?_eq_getElem hj, hje])
        have h5 := rQ_small hF.hN.2 hF.hpn.2 hF.hc hF.he (rS_ok hF hl) M
        omega
      have := hF.hn
      have := hF.hpn
      rw [h2, h3]; omega


end Go.Proofs.Ytekikmdjldincaa
/- Plain laws: all placements; the best of their routes. -/
set_option linter.unusedSimpArgs false
set_option linter.unusedVariables false
namespace Go.Proofs.Ytekikmdjldincaa
open Go Go.RowKit
def plK (f : List Int → List (List Int)) (l : List Int) : Nat → List (List Int)
  | 0 => []
  | k + 1 => plK f l k ++ if hasI l (k : Int) l.length then [] else f (l ++ [(k : Int)])
/-- The placements that begin with l. -/
def plS (N : Nat) : Nat → List Int → List (List Int)
  | 0, l => [l]
  | d + 1, l => plK (plS N d) l N
def exK (p : List Int) : Nat → List (List Int)
  | 0 => []
  | k + 1 => exK p k ++ if hasI p (k : Int) p.length then [] else [p ++ [(k : Int)]]
/-- The placements of j qubits. -/
def lvS (N : Nat) : Nat → List (List Int)
  | 0 => [[]]
  | j + 1 => (lvS N j).flatMap fun p => exK p N
theorem exK_pl (N d : Nat) (p : List Int) : ∀ k, (exK p k).flatMap (plS N d) = plK (plS N d) p k
  | 0 => rfl
  | k + 1 => by
    rw [exK, List.flatMap_append, exK_pl N d p k, plK]
    congr 1
    split <;> simp
theorem lvS_go (N : Nat) : ∀ d j, (lvS N j).flatMap (plS N d) = lvS N (j + d)
  | 0, j => by
    have h : ∀ l : List (List Int), l.flatMap (plS N 0) = l := by
      intro l
      induction l with
      | nil => rfl
      | cons a l ih => rw [List.flatMap_cons, ih]; rfl
    exact h _
  | d + 1, j => by
    have ih := lvS_go N d (j + 1)
    rw [show j + (d + 1) = j + 1 + d by omega, ← ih, lvS, List.flatMap_assoc]
    congr 1
    funext p
    rw [exK_pl]; rfl
theorem lvS_eq (N n : Nat) : lvS N n = plS N n [] := by
  have h := lvS_go N n 0
  rw [Nat.zero_add] at h
  rw [← h, lvS]; simp
theorem plK_mem {f : List Int → List (List Int)} {l : List Int} {p : List Int} : ∀ {k}, p ∈ plK f l k → ∃ j, j < k ∧ hasI l (j : Int) l.length = false ∧ p ∈ f (l ++ [(j : Int)])
  | 0, h => by simp [plK] at h
  | k + 1, h => by
    rw [plK, List.mem_append] at h
    rcases h with h | h
    · obtain ⟨j, h1, h2, h3⟩ := plK_mem h
      exact ⟨j, by omega, h2, h3⟩
    · cases hb : hasI l (k : Int) l.length with
      | true => rw [hb] at h; simp at h
      | false => rw [hb] at h; exact ⟨k, by omega, hb, by simpa using h⟩
theorem placeOk_snoc {N : Nat} {l : List Int} {k : Nat} (h : placeOk (N : Int) l l.length = true) (hk : k < N) (hn : hasI l (k : Int) l.length = false) : placeOk (N : Int) (l ++ [(k : Int)]) (l ++ [(k : Int)]).length = true := by
  have hx : ∀ i, i < l.length → ix (l ++ [(k : Int)]) i = ix l i := fun i hi => by simp only [ix, List.getD]; rw [List.getElem?_append_left hi]
  have hxl : ix (l ++ [(k : Int)]) l.length = k := by simp [ix, List.getD]
  have hh : ∀ (x : Int) i, i ≤ l.length → hasI (l ++ [(k : Int)]) x i = hasI l x i := fun x i hi => anyI_congr fun j hj => by rw [hx j (by omega)]
  unfold placeOk at h ⊢
  rw [allI_iff] at h ⊢
  intro i hi
  simp only [List.length_append, List.length_cons, List.length_nil] at hi
  by_cases hil : i < l.length
  · rw [hx i hil, hh _ i (by omega)]; exact h i hil
  · have : i = l.length := by omega
    subst this
    rw [hxl, hh _ _ (Nat.le_refl _), hn]
    simp only [Bool.not_false, Bool.and_true]
    exact within_iff.2 (by omega)
theorem plS_ok {N : Nat} : ∀ (d : Nat) (l : List Int), placeOk (N : Int) l l.length = true → ∀ p ∈ plS N d l, p.length = l.length + d ∧ placeOk (N : Int) p p.length = true
  | 0, l, h, p, hp => by simp only [plS, List.mem_singleton] at hp; subst hp; exact ⟨rfl, h⟩
  | d + 1, l, h, p, hp => by
    rw [plS] at hp
    obtain ⟨j, h1, h2, h3⟩ := plK_mem hp
    obtain ⟨h4, h5⟩ := plS_ok d (l ++ [(j : Int)]) (placeOk_snoc h h1 h2) p h3
    exact ⟨by rw [h4]; simp; omega, h5⟩
theorem plS_pre {N : Nat} : ∀ (d : Nat) (l p : List Int), p ∈ plS N d l → ∃ t, p = l ++ t
  | 0, l, p, hp => by simp only [plS, List.mem_singleton] at hp; exact ⟨[], by simp [hp]⟩
  | d + 1, l, p, hp => by
    rw [plS] at hp
    obtain ⟨j, _, _, h3⟩ := plK_mem hp
    obtain ⟨t, ht⟩ := plS_pre d _ p h3
    exact ⟨(j : Int) :: t, by rw [ht]; simp⟩
theorem plS_nodup {N : Nat} : ∀ (d : Nat) (l : List Int), (plS N d l).Nodup
  | 0, l => by simp [plS]
  | d + 1, l => by
    rw [plS]
    have key : ∀ k, (plK (plS N d) l k).Nodup := by
      intro k
      induction k with
      | zero => simp [plK]
      | succ k ih =>
        rw [plK, List.nodup_append]
        refine ⟨ih, ?_, ?_⟩
        · split
          · simp
          · exact plS_nodup d _
        · intro a ha b hb e
          subst e
          split at hb
          · simp at hb
          · obtain ⟨j, hj, _, h3⟩ := plK_mem ha
            obtain ⟨t, ht⟩ := plS_pre d _ a h3
            obtain ⟨u, hu⟩ := plS_pre d _ a hb
            rw [ht, List.append_assoc, List.append_assoc, List.append_cancel_left_eq] at hu
            simp only [List.cons_append, List.nil_append, List.cons.injEq] at hu
            omega
    exact key N
theorem plK_le {N d : Nat} {l : List Int} (h : ∀ l, (plS N d l).length ≤ N ^ d) : ∀ k, (plK (plS N d) l k).length ≤ k * N ^ d
  | 0 => by simp [plK]
  | k + 1 => by
    rw [plK, List.length_append, Nat.succ_mul]
    have h1 := plK_le (l := l) h k
    have h2 := h (l ++ [(k : Int)])
    split
    · simp only [List.length_nil]; omega
    · omega
theorem plS_le {N : Nat} : ∀ (d : Nat) (l : List Int), (plS N d l).length ≤ N ^ d
  | 0, l => by simp [plS]
  | d + 1, l => by
    rw [plS, Nat.pow_succ, Nat.mul_comm]
    exact plK_le (plS_le d) N
abbrev Best := List Int × List T3 × Bool
def bstep (M : Nat) (N : Int) (es : List Int) (m : Nat) (Q : Int) (xs : List Int) (n pn : Nat) (σ : Best) (ps : List Int) : Best :=
  if rtB M N es m Q xs n ps pn && (!σ.2.2 || decide (swC (rtL M N es m Q xs n ps pn) < swC σ.2.1)) then (rtS M N es m Q xs n ps pn, rtL M N es m Q xs n ps pn, true) else σ
theorem sle_cons {a : Nat} {u v : List Nat} (h : sle (a :: u) (a :: v)) : sle u v := by
  rcases h with h | h
  · exact .inl ((slt_cons a).1 h)
  · exact .inr (by simpa using h)
theorem rtP_least {M : Nat} {N Q : Int} {es xs ps : List Int} {m n pn : Nat} (hM : 12800000 < M) (hl : ps.length = pn) (ho : rtO N es m Q xs n ps pn = true) {v : List Nat} (h : rtP M es m xs n (rS es m xs n ps) = some v) : ((∀ e ∈ v, e < m) ∧ allD (bev (kstep es m xs n) (rS es m xs n ps) v).2 n = true) ∧ ∀ u, (∀ e ∈ u, e < m) → allD (bev (kstep es m xs n) (rS es m xs n ps) u).2 n = true → sle v u := by
  have hF := rtF_of ho
  have hsm := rQ_small hF.hN.2 hF.hpn.2 hF.hc hF.he (rS_ok hF hl) M
  have e := rtP_mP M es m xs n (rS es m xs n ps)
  rw [h] at e
  have hb : (bfsL (kstep es m xs n) m (st0 [rS es m xs n ps] 0) M).length ≤ M := by
    rw [bfsL_one, List.length_map]
    have : (bfs (kstep es m xs n) (fun _ => true) m (rS es m xs n ps) M).length ≤ 12800000 := hsm
    omega
  obtain ⟨⟨s, k, u, h1, h2, h3, h4⟩, h5⟩ := mP_least (by simp) hb e
  obtain ⟨rfl, rfl⟩ : s = 0 ∧ v = u := by
    simp only [List.cons.injEq] at h1; exact ⟨h1.1.symm, h1.2⟩
  simp only [List.getElem?_cons_zero, Option.some.injEq] at h2
  subst h2
  exact ⟨⟨h3, h4⟩, fun u hu hd => sle_cons (h5 (0 :: u) ⟨0, _, u, rfl, rfl, hu, hd⟩)⟩
theorem rtP_never {M : Nat} {N Q : Int} {es xs ps : List Int} {m n pn : Nat} (hM : 12800000 < M) (hl : ps.length = pn) (ho : rtO N es m Q xs n ps pn = true) (h : rtP M es m xs n (rS es m xs n ps) = none) (u : List Nat) (hu : ∀ e ∈ u, e < m) : ¬ allD (bev (kstep es m xs n) (rS es m xs n ps) u).2 n = true := by
  intro hd
  have hF := rtF_of ho
  have hsm := rQ_small hF.hN.2 hF.hpn.2 hF.hc hF.he (rS_ok hF hl) M
  have e := rtP_mP M es m xs n (rS es m xs n ps)
  rw [h] at e
  have hb : (bfsL (kstep es m xs n) m (st0 [rS es m xs n ps] 0) M).length ≤ M := by
    rw [bfsL_one, List.length_map]
    have : (bfs (kstep es m xs n) (fun _ => true) m (rS es m xs n ps) M).length ≤ 12800000 := hsm
    omega
  exact mP_no (by simp) hb e (0 :: u) ⟨0, _, u, rfl, rfl, hu, hd⟩
theorem sle_two {s t : Nat} {u v : List Nat} (h : sle (s :: u) (t :: v)) : u.length ≤ v.length ∧ (u.length = v.length → s ≤ t) := by
  have hl := sle_len h
  simp only [List.length_cons] at hl
  refine ⟨by omega, fun he => ?_⟩
  rcases Nat.lt_or_ge t s with hts | hts
  · exfalso
    have h2 : slt (t :: v) (s :: u) := slt_head he.symm hts
    rcases h with h | h
    · exact slt_irrefl _ (slt_trans h h2)
    · rw [h] at h2; exact slt_irrefl _ h2
  · exact hts
theorem best_fold {M : Nat} {N Q : Int} {es xs : List Int} {m n pn : Nat} {sts : List (List Int)} (hM : 12800000 < M) (hsm : smB N es m Q xs n = true) (hpl : ∀ ps ∈ sts, plOk N Q ps pn = true ∧ ps.length = pn) (hnd : sts.Nodup) : sts.foldl (bstep M N es m Q xs n pn) ([], [], false) = (mS M es m xs n sts, mL M es m xs n sts, (mR M es m xs n sts).isSome) := by
  have hO : ∀ ps ∈ sts, rtO N es m Q xs n ps pn = true := fun ps hp => by rw [rtO, hsm, (hpl ps hp).1]; rfl
  have hB : ∀ ps ∈ sts, rtB M N es m Q xs n ps pn = (rtP M es m xs n (rS es m xs n ps)).isSome := fun ps hp => by rw [rtB, hO ps hp, Bool.true_and]
  have hkn : (mKeys es m xs n sts).Nodup := mKeys_nodup hnd
  have hb : (bfsL (kstep es m xs n) m (st0 (mKeys es m xs n sts) 0) M).length ≤ M := by
    rcases Nat.eq_zero_or_pos sts.length with h0 | h0
    · have : sts = [] := List.length_eq_zero_iff.1 h0
      subst this
      have h : ∀ i, bfsL (kstep es m xs n) m (st0 (mKeys es m xs n []) 0) i = [] := by
        intro i
        induction i with
        | zero => rfl
        | succ i ih => rw [bfsL, ih]; rfl
      rw [h]; simp
    · have hF := rtF_of (hO sts[0] (List.getElem_mem h0))
      have := bfsL_small (step := kstep es m xs n) (E := m) (p := KOk N Q pn n xs) (code := kcode pn n xs) (M := 12800000) hkn (fun k e h he => kstep_ok hF.he he h) (fun k hk => by
        obtain ⟨ps, hp, rfl⟩ := List.mem_map.1 hk
        exact rS_ok (rtF_of (hO ps hp)) (hpl ps hp).2) (fun k h => kcode_lt hF.hN.2 hF.hpn.2 hF.hc h) (fun k k' h h' he => kcode_inj hF.hN.2 hF.hc h h' he) M
      omega
  cases hmr : mR M es m xs n sts with
  | none =>
    obtain ⟨h1, h2, h3⟩ := mR_no hmr
    have hno := mP_no hkn hb hmr
    have hnone : ∀ ps ∈ sts, rtB M N es m Q xs n ps pn = false := by
      intro ps hp
      rw [hB ps hp]
      cases hr : rtP M es m xs n (rS es m xs n ps) with
      | none => rfl
      | some v =>
        exfalso
        obtain ⟨⟨h4, h5⟩, _⟩ := rtP_least hM (hpl ps hp).2 (hO ps hp) hr
        obtain ⟨i, hi, rfl⟩ := List.getElem_of_mem hp
        exact hno (i :: v) ⟨i, rS es m xs n sts[i], v, rfl, by rw [List.getElem?_map, List.getElem?_eq_getElem hi]; rfl, h4, h5⟩
    have hfold : ∀ (l : List (List Int)), (∀ ps ∈ l, rtB M N es m Q xs n ps pn = false) → l.foldl (bstep M N es m Q xs n pn) ([], [], false) = ([], [], false) := by
      intro l
      induction l with
      | nil => intro _; rfl
      | cons a l ih =>
        intro h
        rw [List.foldl_cons, bstep, h a (by simp), Bool.false_and, if_neg (by decide)]
        exact ih fun ps hp => h ps (by simp [hp])
    rw [hfold sts hnone, h2, h3]; rfl
  | some w =>
    obtain ⟨h1, h2, h3⟩ := mR_yes hmr
    obtain ⟨⟨s, k, u, rfl, hs, hu, hd⟩, hleast⟩ := mP_least hkn hb hmr
    rw [List.getElem?_map] at hs
    obtain ⟨ps0, hps, rfl⟩ := Option.map_eq_some_iff.1 hs
    obtain ⟨hsl, hse⟩ := List.getElem?_eq_some_iff.1 hps
    have hpm : ps0 ∈ sts := hse ▸ List.getElem_mem hsl
    have hru : rtP M es m xs n (rS es m xs n ps0) = some u := by
      cases hr : rtP M es m xs n (rS es m xs n ps0) with
      | none => exact absurd hd (rtP_never hM (hpl _ hpm).2 (hO _ hpm) hr u hu)
      | some v =>
        obtain ⟨⟨h4, h5⟩, h6⟩ := rtP_least hM (hpl _ hpm).2 (hO _ hpm) hr
        have h7 := h6 u hu hd
        have h8 := sle_cons (hleast (s :: v) ⟨s, _, v, rfl, by rw [List.getElem?_map, hps]; rfl, h4, h5⟩)
        rw [sle_antisymm h7 h8]
    have hother : ∀ i (hi : i < sts.length) v, rtP M es m xs n (rS es m xs n sts[i]) = some v → u.length ≤ v.length ∧ (u.length = v.length → s ≤ i) := by
      intro i hi v hv
      have him := List.getElem_mem hi
      obtain ⟨⟨h4, h5⟩, _⟩ := rtP_least hM (hpl _ him).2 (hO _ him) hv
      exact sle_two (hleast (i :: v) ⟨i, _, v, rfl, by rw [List.getElem?_map, List.getElem?_eq_getElem hi]; rfl, h4, h5⟩)
    have hcnt : ∀ ps ∈ sts, ∀ v, rtP M es m xs n (rS es m xs n ps) = some v → swC (rtL M N es m Q xs n ps pn) = v.length := fun ps hp v hv => (rt_count (hpl ps hp).2 (hO ps hp) hv).2
    have hy0 := rt_yes (M := M) (pn := pn) (hO ps0 hpm) hru
    have key : ∀ i, i ≤ sts.length → (i ≤ s → ((sts.take i).foldl (bstep M N es m Q xs n pn) ([], [], false)).2.2 = false ∨ u.length < swC ((sts.take i).foldl (bstep M N es m Q xs n pn) ([], [], false)).2.1) ∧ (s < i → (sts.take i).foldl (bstep M N es m Q xs n pn) ([], [], false) = (ps0, rtL M N es m Q xs n ps0 pn, true)) := by
      intro i
      induction i with
      | zero => intro _; exact ⟨fun _ => .inl rfl, fun h => absurd h (by omega)⟩
      | succ i ih =>
        intro hi
        have hil : i < sts.length := by omega
        obtain ⟨ih1, ih2⟩ := ih (by omega)
        have him := List.getElem_mem hil
        rw [← List.take_append_getElem hil, List.foldl_append, List.foldl_cons, List.foldl_nil]
        generalize (sts.take i).foldl (bstep M N es m Q xs n pn) ([], [], false) = σ at ih1 ih2 ⊢
        refine ⟨fun his => ?_, fun his => ?_⟩
        · have ih1 := ih1 (by omega)
          unfold bstep
          split
          · rename_i hc
            rw [Bool.and_eq_true, hB _ him, Option.isSome_iff_exists] at hc
            obtain ⟨⟨v, hv⟩, _⟩ := hc
            have h4 := hother i hil v hv
            right
            show u.length < swC (rtL M N es m Q xs n sts[i] pn)
            rw [hcnt _ him v hv]
            rcases Nat.lt_or_eq_of_le h4.1 with h5 | h5
            · exact h5
            · have := h4.2 h5; omega
          · exact ih1
        · rcases Nat.lt_or_eq_of_le (Nat.le_of_lt_succ his) with h4 | h4
          · rw [ih2 h4]
            unfold bstep
            rw [if_neg]
            intro hc
            simp only [Bool.and_eq_true, Bool.not_true, Bool.false_or, decide_eq_true_eq] at hc
            rw [hB _ him, Option.isSome_iff_exists] at hc
            obtain ⟨⟨v, hv⟩, hlt⟩ := hc
            rw [hcnt _ him v hv, hcnt _ hpm u hru] at hlt
            have := (hother i hil v hv).1
            omega
          · subst h4
            have e : sts[s] = ps0 := hse
            have ih1 := ih1 (Nat.le_refl _)
            unfold bstep
            rw [e, if_pos]
            · rw [hy0.2.1]
            · rw [Bool.and_eq_true]
              refine ⟨hy0.1, ?_⟩
              rw [hcnt _ hpm u hru]
              rcases ih1 with h5 | h5
              · rw [h5]; rfl
              · rw [decide_eq_true h5, Bool.or_true]
    have hfin := (key sts.length (Nat.le_refl _)).2 hsl
    rw [List.take_length] at hfin
    have hg : sts.getD s [] = ps0 := by simp [List.getD, hps]
    rw [hfin, h2, h3]
    simp only [List.headD_cons, Option.isSome_some]
    rw [fulS, hg, hy0.2.2]

end Go.Proofs.Ytekikmdjldincaa
/- Walks: the best route, of the program. -/
set_option linter.unusedSimpArgs false
set_option linter.unusedVariables false
namespace Go.Proofs.Ytekikmdjldincaa
open Go Go.RowKit
namespace LsvT
theorem Tagg_35 : aggOf Try.prog 35 = some 2 := by kernel_rfl
theorem Tagg_39 : aggOf Try.prog 39 = some 2 := by kernel_rfl
theorem Tagg_48 : aggOf Try.prog 48 = some 2 := by kernel_rfl
theorem Tcall_30 : callable Try.prog 30 = true := by kernel_rfl
theorem Tcall_31 : callable Try.prog 31 = true := by kernel_rfl
theorem Tcall_44 : callable Try.prog 44 = true := by kernel_rfl
theorem Tcall_45 : callable Try.prog 45 = true := by kernel_rfl
theorem Tcall_46 : callable Try.prog 46 = true := by kernel_rfl
theorem Tcall_54 : callable Try.prog 54 = true := by kernel_rfl
theorem Tcall_71 : callable Try.prog 71 = true := by kernel_rfl
theorem Tcall_72 : callable Try.prog 72 = true := by kernel_rfl
theorem Tfo_35_0 : fieldOff Try.prog 35 0 = some 0 := by kernel_rfl
theorem Tfo_39_0 : fieldOff Try.prog 39 0 = some 0 := by kernel_rfl
theorem Tone_1 : oneOf Try.prog 1 = true := by kernel_rfl
theorem Tone_28 : oneOf Try.prog 28 = true := by kernel_rfl
theorem Tone_3 : oneOf Try.prog 3 = true := by kernel_rfl
theorem Tone_4 : oneOf Try.prog 4 = true := by kernel_rfl
theorem Tone_75 : oneOf Try.prog 75 = true := by kernel_rfl
theorem Tsize_1 : (Try.prog.info? 1).map (·.size) = some 1 := by kernel_rfl
theorem Tsize_28 : (Try.prog.info? 28).map (·.size) = some 1 := by kernel_rfl
theorem Tsize_4 : (Try.prog.info? 4).map (·.size) = some 1 := by kernel_rfl
theorem Tsize_48 : (Try.prog.info? 48).map (·.size) = some 2 := by kernel_rfl
theorem Tsl_28 : sliceOf Try.prog 28 = some (3, 1, 8, [.int .i64 0]) := by kernel_rfl
theorem Tzero_1 : zeroOf Try.prog 1 = some [.nilFunc] := by kernel_rfl
theorem Tzero_28 : zeroOf Try.prog 28 = some [.slice none 0 0] := by kernel_rfl
theorem Tzero_4 : zeroOf Try.prog 4 = some [.bool false] := by kernel_rfl
theorem Tzero_48 : zeroOf Try.prog 48 = some [.slice none 0 0, .slice none 0 0] := by kernel_rfl
end LsvT
open LsvT
theorem Ap.ap {H0 H1 R : List Res} {w0 w : World} {v : Value} {size n : Nat} {xs : List Value} (h : Ap H0 w0 v size n xs) (hs : St (Of H0) w0 w (H1 ++ R)) : Ap H1 w v size n xs :=
  ⟨h.go hs, fun hn k hk ⟨r, hr, hrk⟩ => h.off hn k hk (hs.fresh r (List.mem_append_left _ hr) k hrk (h.sl.lt hn hk))⟩
def brB (M : Nat) (N : Int) (es : List Int) (m : Nat) (Q : Int) (xs : List Int) (n : Nat) : Bool := smB N es m Q xs n && (mR M es m xs n (plS N.toNat Q.toNat [])).isSome
def brS (M : Nat) (N : Int) (es : List Int) (m : Nat) (Q : Int) (xs : List Int) (n : Nat) : List Int := if smB N es m Q xs n then mS M es m xs n (plS N.toNat Q.toNat []) else []
def brL (M : Nat) (N : Int) (es : List Int) (m : Nat) (Q : Int) (xs : List Int) (n : Nat) : List T3 := if smB N es m Q xs n then mL M es m xs n (plS N.toNat Q.toNat []) else []
theorem br_no {M : Nat} {N Q : Int} {es xs : List Int} {m n : Nat} (h : smB N es m Q xs n = false) : brB M N es m Q xs n = false ∧ brS M N es m Q xs n = [] ∧ brL M N es m Q xs n = [] := by
  refine ⟨by rw [brB, h]; rfl, by rw [brS, h]; rfl, by rw [brL, h]; rfl⟩
theorem br_yes {M : Nat} {es xs : List Int} {m n N pn : Nat} (h : smB (N : Int) es m (pn : Int) xs n = true) : brB M N es m pn xs n = (mR M es m xs n (plS N pn [])).isSome ∧ brS M N es m pn xs n = mS M es m xs n (plS N pn []) ∧ brL M N es m pn xs n = mL M es m xs n (plS N pn []) := by
  refine ⟨by rw [brB, h]; simp, by rw [brS, if_pos h]; simp, by rw [brL, if_pos h]; simp⟩
structure SmF (N : Int) (Q : Int) (n : Nat) : Prop where
  hN : 1 ≤ N ∧ N ≤ 5
  hQ : 1 ≤ Q ∧ Q ≤ 5
  hn : n ≤ 40
theorem smF_of {N Q : Int} {es xs : List Int} {m n : Nat} (h : smB N es m Q xs n = true) : SmF N Q n := by
  simp only [smB, Bool.and_eq_true, decide_eq_true_eq] at h
  obtain ⟨⟨⟨hf, h5⟩, h40⟩, h12⟩ := h
  simp only [fitOk, Bool.and_eq_true, decide_eq_true_eq] at hf
  have hN := cgOk_N hf.1.1
  have hQ := (circOk_N hf.1.2).1
  exact ⟨by omega, by omega, by omega⟩
theorem pl_all {N pn : Nat} {Q : Int} (hQ : Q = (pn : Int)) : ∀ ps ∈ plS N pn [], plOk (N : Int) Q ps pn = true ∧ ps.length = pn := by
  intro ps hp
  obtain ⟨h1, h2⟩ := plS_ok pn [] (by rw [placeOk]; rfl) ps hp
  have h3 : ps.length = pn := by simpa using h1
  rw [h3] at h2
  exact ⟨by rw [plOk, h2, hQ]; simp, h3⟩
theorem br_fold {M : Nat} {es xs : List Int} {m n N pn : Nat} (hM : 12800000 < M) (hsm : smB (N : Int) es m (pn : Int) xs n = true) : (plS N pn []).foldl (bstep M N es m pn xs n pn) ([], [], false) = (brS M N es m pn xs n, brL M N es m pn xs n, brB M N es m pn xs n) := by
  obtain ⟨h1, h2, h3⟩ := br_yes (M := M) hsm
  rw [h1, h2, h3]
  exact best_fold hM hsm (pl_all rfl) (plS_nodup pn [])
theorem bstep_yes {M : Nat} {N Q : Int} {es xs : List Int} {m n pn : Nat} {σ : Best} {ps : List Int} (h : rtB M N es m Q xs n ps pn = true) (h2 : σ.2.2 = false ∨ swC (rtL M N es m Q xs n ps pn) < swC σ.2.1) : bstep M N es m Q xs n pn σ ps = (rtS M N es m Q xs n ps pn, rtL M N es m Q xs n ps pn, true) := by
  rw [bstep, if_pos]
  rw [h, Bool.true_and]
  rcases h2 with h2 | h2
  · rw [h2]; rfl
  · rw [decide_eq_true h2, Bool.or_true]
theorem bstep_no {M : Nat} {N Q : Int} {es xs : List Int} {m n pn : Nat} {σ : Best} {ps : List Int} (h : rtB M N es m Q xs n ps pn = false ∨ (σ.2.2 = true ∧ ¬ swC (rtL M N es m Q xs n ps pn) < swC σ.2.1)) : bstep M N es m Q xs n pn σ ps = σ := by
  rw [bstep, if_neg]
  rcases h with h | ⟨h1, h2⟩
  · rw [h, Bool.false_and]; decide
  · rw [h1, decide_eq_false h2]; simp

set_option maxHeartbeats 2000000 in
set_option maxRecDepth 20000 in
theorem bestVisit_spec {M N : Nat} {vg vc v1 v2 : Value} {m n pn : Nat} {es xs l : List Int} {σ : Best} {bg bc bf bb : Nat} {vp : Value} {w : World} (hM : 12800000 < M) (hpn : 0 < pn ∧ pn ≤ 5) (hl : l.length = pn) (hg : Ap [.own vp 3 1 (l.length) (ints l), .blk bg 35 [.int .i64 (((N : Nat) : Int)), vg], .blk bc 39 [.int .i64 (((pn : Nat) : Int)), vc], .blk bf 4 [.bool (σ.2.2)], .blk bb 48 [v1, v2], .own v1 3 1 (σ.1.length) (ints σ.1), .own v2 101 3 (σ.2.1.length) (ints (fl3 σ.2.1))] w vg 2 m (ints es)) (hc : Ap [.own vp 3 1 (l.length) (ints l), .blk bg 35 [.int .i64 (((N : Nat) : Int)), vg], .blk bc 39 [.int .i64 (((pn : Nat) : Int)), vc], .blk bf 4 [.bool (σ.2.2)], .blk bb 48 [v1, v2], .own v1 3 1 (σ.1.length) (ints σ.1), .own v2 101 3 (σ.2.1.length) (ints (fl3 σ.2.1))] w vc 3 n (ints xs)) (hst : St (Of [.own vp 3 1 (l.length) (ints l), .blk bg 35 [.int .i64 (((N : Nat) : Int)), vg], .blk bc 39 [.int .i64 (((pn : Nat) : Int)), vc], .blk bf 4 [.bool (σ.2.2)], .blk bb 48 [v1, v2], .own v1 3 1 (σ.1.length) (ints σ.1), .own v2 101 3 (σ.2.1.length) (ints (fl3 σ.2.1))]) w w [.own vp 3 1 (l.length) (ints l), .blk bg 35 [.int .i64 (((N : Nat) : Int)), vg], .blk bc 39 [.int .i64 (((pn : Nat) : Int)), vc], .blk bf 4 [.bool (σ.2.2)], .blk bb 48 [v1, v2], .own v1 3 1 (σ.1.length) (ints σ.1), .own v2 101 3 (σ.2.1.length) (ints (fl3 σ.2.1))]) : Calls Try.prog 46 #[vp, .pointer (some ⟨bg, 0, none⟩), .pointer (some ⟨bc, 0, none⟩), .pointer (some ⟨bf, 0, none⟩), .pointer (some ⟨bb, 0, none⟩)] w (Post (Of [.own vp 3 1 (l.length) (ints l), .blk bg 35 [.int .i64 (((N : Nat) : Int)), vg], .blk bc 39 [.int .i64 (((pn : Nat) : Int)), vc], .blk bf 4 [.bool (σ.2.2)], .blk bb 48 [v1, v2], .own v1 3 1 (σ.1.length) (ints σ.1), .own v2 101 3 (σ.2.1.length) (ints (fl3 σ.2.1))]) w fun v H => ∃ v1' v2', v = .tuple #[] ∧ H = [.blk bg 35 [.int .i64 (((N : Nat) : Int)), vg], .blk bc 39 [.int .i64 (((pn : Nat) : Int)), vc], .blk bf 4 [.bool ((bstep M N es m pn xs n pn σ l).2.2)], .blk bb 48 [v1', v2'], .own v1' 3 1 ((bstep M N es m pn xs n pn σ l).1.length) (ints (bstep M N es m pn xs n pn σ l).1), .own v2' 101 3 ((bstep M N es m pn xs n pn σ l).2.1.length) (ints (fl3 (bstep M N es m pn xs n pn σ l).2.1))]) := by
  refine enter (n := 28) (args := [vp, .pointer (some ⟨bg, 0, none⟩), .pointer (some ⟨bc, 0, none⟩), .pointer (some ⟨bf, 0, none⟩), .pointer (some ⟨bb, 0, none⟩)]) Try.func46 rfl rfl (hst) ?_
  refine Run.seq ?_
  refine Run.region ?_
  refine Run.q (v := .agg #[.int .i64 (((N : Nat) : Int)), vg]) rfl (OpQ.y (OpY.loadN (cs := [.int .i64 (((N : Nat) : Int)), vg]) Tagg_35 rfl (Cells.blk (.tail _ (List.Mem.head _)) ⟨rfl, rfl, trivial⟩))) ?_
  refine Run.q (v := .agg #[.int .i64 (((pn : Nat) : Int)), vc]) rfl (OpQ.y (OpY.loadN (cs := [.int .i64 (((pn : Nat) : Int)), vc]) Tagg_39 rfl (Cells.blk (.tail _ (.tail _ (List.Mem.head _))) ⟨rfl, rfl, trivial⟩))) ?_
  refine Run.q (v := vp) rfl (OpQ.y (OpY.pure rfl)) ?_
  refine Run.step rfl (OpStep.call (vs := [.agg #[.int .i64 (((N : Nat) : Int)), vg], .agg #[.int .i64 (((pn : Nat) : Int)), vc], vp]) (caps := []) Tcall_30 rfl rfl (fun w hs => (by have h := leastRoute_spec (N := (N : Int)) (Q := (pn : Int)) hM (hg.go hs) (hc.go hs) (hs.slOwn (.head _)); rw [hl] at h; exact h)) ?_)
  rintro _ _ ⟨u1, u2, rfl, rfl⟩
  show Run _ _ (putF _ _ _ (.tuple #[.agg #[u1, u2], .bool (rtB M N es m pn xs n l pn)])) [.own u1 3 1 ((rtS M N es m pn xs n l pn).length) (ints (rtS M N es m pn xs n l pn)), .own u2 101 3 ((rtL M N es m pn xs n l pn).length) (ints (fl3 (rtL M N es m pn xs n l pn))), .own vp 3 1 (l.length) (ints l), .blk bg 35 [.int .i64 (((N : Nat) : Int)), vg], .blk bc 39 [.int .i64 (((pn : Nat) : Int)), vc], .blk bf 4 [.bool (σ.2.2)], .blk bb 48 [v1, v2], .own v1 3 1 (σ.1.length) (ints σ.1), .own v2 101 3 (σ.2.1.length) (ints (fl3 σ.2.1))]
  refine Run.q (v := .tuple #[.agg #[u1, u2], .bool (rtB M N es m pn xs n l pn)]) rfl (OpQ.y (OpY.pure rfl)) ?_
  refine Run.q (v := .agg #[u1, u2]) rfl (OpQ.y (OpY.pure rfl)) ?_
  refine Run.q (v := .bool (rtB M N es m pn xs n l pn)) rfl (OpQ.y (OpY.pure rfl)) ?_
  refine Run.step rfl (OpStep.alloc (zs := [.slice none 0 0, .slice none 0 0]) Tzero_48 fun b1 => ?_)
  refine Run.formOwn (.tail _ (List.Mem.head _)) (fun A_u11 c_u11 hv hcapc_u11 hmaxc_u11 => ?_) (fun _ _ _ => ⟨nofun, nofun, nofun⟩)
  subst hv
  refine Run.formOwn (.tail _ (.tail _ (List.Mem.head _))) (fun A_u21 c_u21 hv hcapc_u21 hmaxc_u21 => ?_) (fun _ _ _ => ⟨nofun, nofun, nofun⟩)
  subst hv
  refine Run.step rfl (OpStep.storeAll (us := [.slice A_u11 ((rtS M N es m pn xs n l pn).length) c_u11, .slice A_u21 ((rtL M N es m pn xs n l pn).length) c_u21]) Tsize_48 rfl rfl rfl (.here _) rfl ?_)
  refine Run.q (v := .bool (rtB M N es m pn xs n l pn)) rfl (OpQ.y (OpY.pure rfl)) ?_
  refine Run.done ?_
  refine Run.seq ?_
  refine Run.draws (by kernel_rfl) (by kernel_rfl) ?_
  refine Lex.q (v := .bool (rtB M N es m pn xs n l pn)) rfl (OpQ.y (OpY.pure rfl)) ?_
  rcases Bool.eq_false_or_eq_true (rtB M N es m pn xs n l pn) with h16 | h16
  · refine Lex.q (v := .bool true) rfl (OpQ.y (OpY.moveB rfl h16)) ?_
    have p16 := h16; try simp only [bs] at p16
    have hrt : rtB M N es m pn xs n l pn = true := p16
    refine Lex.q (v := .bool (σ.2.2)) rfl (OpQ.y (OpY.load1 Tone_4 rfl (Cells.blk (.tail _ (.tail _ (.tail _ (.tail _ (.tail _ (.tail _ (List.Mem.head _))))))) ⟨rfl, trivial⟩))) ?_
    refine Lex.q (v := .bool (!(σ.2.2))) rfl (OpQ.y (OpY.pure rfl)) ?_
    rcases Bool.eq_false_or_eq_true (!(σ.2.2)) with h19 | h19
    · refine Lex.q (v := .bool true) rfl (OpQ.y (OpY.moveB rfl h19)) ?_
      have p19 := h19; try simp only [bs] at p19
      have hst2 : bstep M N es m pn xs n pn σ l = (rtS M N es m pn xs n l pn, rtL M N es m pn xs n l pn, true) := bstep_yes hrt (.inl (by simpa using p19))
      refine Lex.pass rfl ?_
      refine Lex.pass rfl ?_
      refine Lex.pass rfl ?_
      refine Lex.pass rfl ?_
      refine Lex.pass rfl ?_
      refine Lex.q (v := .bool true) rfl (OpQ.y (OpY.pure rfl)) ?_
      refine Lex.q (v := .bool true) rfl (OpQ.y (OpY.pure rfl)) ?_
      refine Lex.done ?_
      refine Run.cond (b := true) rfl (fun _ => ?_) (fun h => nomatch h)
      refine Run.region ?_
      refine Run.q (v := .agg #[.slice A_u11 ((rtS M N es m pn xs n l pn).length) c_u11, .slice A_u21 ((rtL M N es m pn xs n l pn).length) c_u21]) rfl (OpQ.y (OpY.loadN (cs := [.slice A_u11 ((rtS M N es m pn xs n l pn).length) c_u11, .slice A_u21 ((rtL M N es m pn xs n l pn).length) c_u21]) Tagg_48 rfl (Cells.blk (.head _) ⟨rfl, rfl, trivial⟩))) ?_
      refine Run.step rfl (OpStep.storeAll (us := [.slice A_u11 ((rtS M N es m pn xs n l pn).length) c_u11, .slice A_u21 ((rtL M N es m pn xs n l pn).length) c_u21]) Tsize_48 rfl rfl rfl (.there _ (.there _ (.there _ (.there _ (.there _ (.there _ (.there _ (.here _)))))))) rfl ?_)
      refine Run.step rfl (OpStep.storeAll (us := [.bool true]) Tsize_4 rfl rfl rfl (.there _ (.there _ (.there _ (.there _ (.there _ (.there _ (.here _))))))) rfl ?_)
      refine Run.done ?_
      refine Run.fin ?_
      refine ⟨.tuple #[], [.blk bg 35 [.int .i64 (((N : Nat) : Int)), vg], .blk bc 39 [.int .i64 (((pn : Nat) : Int)), vc], .blk bf 4 [.bool ((bstep M N es m pn xs n pn σ l).2.2)], .blk bb 48 [.slice A_u11 ((rtS M N es m pn xs n l pn).length) c_u11, .slice A_u21 ((rtL M N es m pn xs n l pn).length) c_u21], .own (.slice A_u11 ((rtS M N es m pn xs n l pn).length) c_u11) 3 1 ((bstep M N es m pn xs n pn σ l).1.length) (ints (bstep M N es m pn xs n pn σ l).1), .own (.slice A_u21 ((rtL M N es m pn xs n l pn).length) c_u21) 101 3 ((bstep M N es m pn xs n pn σ l).2.1.length) (ints (fl3 (bstep M N es m pn xs n pn σ l).2.1))], Out.none rfl, ((Weak.selF [4, 4, 4, 4, 1, 1]).trans (Some'.weak (.take (.take (.takeEq (by first | rfl | (rw [hst2])) (.take (.takeEq (by first | rfl | (rw [hst2])) (.takeEq (by first | rfl | (rw [hst2])) (.nil _))))))))), ?_⟩
      exact ⟨_, _, rfl, rfl⟩
    · refine Lex.q (v := .bool false) rfl (OpQ.y (OpY.moveB rfl h19)) ?_
      have p19 := h19; try simp only [bs] at p19
      have hf2 : σ.2.2 = true := by simpa using p19
      refine Lex.q (v := .agg #[.slice A_u11 ((rtS M N es m pn xs n l pn).length) c_u11, .slice A_u21 ((rtL M N es m pn xs n l pn).length) c_u21]) rfl (OpQ.y (OpY.loadN (cs := [.slice A_u11 ((rtS M N es m pn xs n l pn).length) c_u11, .slice A_u21 ((rtL M N es m pn xs n l pn).length) c_u21]) Tagg_48 rfl (Cells.blk (.head _) ⟨rfl, rfl, trivial⟩))) ?_
      refine Lex.q (v := .int .i64 (((swC ((rtL M N es m pn xs n l pn)) : Nat) : Int))) rfl (OpQ.call (vs := [.agg #[.slice A_u11 ((rtS M N es m pn xs n l pn).length) c_u11, .slice A_u21 ((rtL M N es m pn xs n l pn).length) c_u21]]) (caps := []) Tcall_31 rfl rfl (fun w hs => (by have h := swapsIn_spec (vb := .slice A_u11 ((rtS M N es m pn xs n l pn).length) c_u11) (hs.slOwn (.tail _ (.tail _ (List.Mem.head _)))); rw [swN_all] at h; exact h))) ?_
      refine Lex.q (v := .agg #[v1, v2]) rfl (OpQ.y (OpY.loadN (cs := [v1, v2]) Tagg_48 rfl (Cells.blk (.tail _ (.tail _ (.tail _ (.tail _ (.tail _ (.tail _ (.tail _ (List.Mem.head _)))))))) ⟨rfl, rfl, trivial⟩))) ?_
      refine Lex.q (v := .int .i64 (((swC (σ.2.1) : Nat) : Int))) rfl (OpQ.call (vs := [.agg #[v1, v2]]) (caps := []) Tcall_31 rfl rfl (fun w hs => (by have h := swapsIn_spec (vb := v1) (hs.slOwn (.tail _ (.tail _ (.tail _ (.tail _ (.tail _ (.tail _ (.tail _ (.tail _ (.tail _ (List.Mem.head _))))))))))); rw [swN_all] at h; exact h))) ?_
      refine Lex.q (v := .bool (decide ((((swC ((rtL M N es m pn xs n l pn)) : Nat) : Int)) < (((swC (σ.2.1) : Nat) : Int))))) rfl (OpQ.y (OpY.pure rfl)) ?_
      refine Lex.q (v := .bool (decide ((((swC ((rtL M N es m pn xs n l pn)) : Nat) : Int)) < (((swC (σ.2.1) : Nat) : Int))))) rfl (OpQ.y (OpY.pure rfl)) ?_
      refine Lex.q (v := .bool (decide ((((swC ((rtL M N es m pn xs n l pn)) : Nat) : Int)) < (((swC (σ.2.1) : Nat) : Int))))) rfl (OpQ.y (OpY.pure rfl)) ?_
      refine Lex.done ?_
      refine Run.cond (b := decide ((((swC ((rtL M N es m pn xs n l pn)) : Nat) : Int)) < (((swC (σ.2.1) : Nat) : Int)))) rfl (fun h26 => ?_) (fun h26 => ?_)
      · have p26 := h26; try simp only [bs] at p26
        have hst2 : bstep M N es m pn xs n pn σ l = (rtS M N es m pn xs n l pn, rtL M N es m pn xs n l pn, true) := bstep_yes hrt (.inr (by omega))
        refine Run.region ?_
        refine Run.q (v := .agg #[.slice A_u11 ((rtS M N es m pn xs n l pn).length) c_u11, .slice A_u21 ((rtL M N es m pn xs n l pn).length) c_u21]) rfl (OpQ.y (OpY.loadN (cs := [.slice A_u11 ((rtS M N es m pn xs n l pn).length) c_u11, .slice A_u21 ((rtL M N es m pn xs n l pn).length) c_u21]) Tagg_48 rfl (Cells.blk (.head _) ⟨rfl, rfl, trivial⟩))) ?_
        refine Run.step rfl (OpStep.storeAll (us := [.slice A_u11 ((rtS M N es m pn xs n l pn).length) c_u11, .slice A_u21 ((rtL M N es m pn xs n l pn).length) c_u21]) Tsize_48 rfl rfl rfl (.there _ (.there _ (.there _ (.there _ (.there _ (.there _ (.there _ (.here _)))))))) rfl ?_)
        refine Run.step rfl (OpStep.storeAll (us := [.bool true]) Tsize_4 rfl rfl rfl (.there _ (.there _ (.there _ (.there _ (.there _ (.there _ (.here _))))))) rfl ?_)
        refine Run.done ?_
        refine Run.fin ?_
        refine ⟨.tuple #[], [.blk bg 35 [.int .i64 (((N : Nat) : Int)), vg], .blk bc 39 [.int .i64 (((pn : Nat) : Int)), vc], .blk bf 4 [.bool ((bstep M N es m pn xs n pn σ l).2.2)], .blk bb 48 [.slice A_u11 ((rtS M N es m pn xs n l pn).length) c_u11, .slice A_u21 ((rtL M N es m pn xs n l pn).length) c_u21], .own (.slice A_u11 ((rtS M N es m pn xs n l pn).length) c_u11) 3 1 ((bstep M N es m pn xs n pn σ l).1.length) (ints (bstep M N es m pn xs n pn σ l).1), .own (.slice A_u21 ((rtL M N es m pn xs n l pn).length) c_u21) 101 3 ((bstep M N es m pn xs n pn σ l).2.1.length) (ints (fl3 (bstep M N es m pn xs n pn σ l).2.1))], Out.none rfl, ((Weak.selF [4, 4, 4, 4, 1, 1]).trans (Some'.weak (.take (.take (.takeEq (by first | rfl | (rw [hst2])) (.take (.takeEq (by first | rfl | (rw [hst2])) (.takeEq (by first | rfl | (rw [hst2])) (.nil _))))))))), ?_⟩
        exact ⟨_, _, rfl, rfl⟩
      · have p26 := h26; try simp only [bs] at p26
        have hst2 : bstep M N es m pn xs n pn σ l = σ := bstep_no (.inr ⟨hf2, by omega⟩)
        refine Run.skip ?_
        refine Run.fin ?_
        refine ⟨.tuple #[], [.blk bg 35 [.int .i64 (((N : Nat) : Int)), vg], .blk bc 39 [.int .i64 (((pn : Nat) : Int)), vc], .blk bf 4 [.bool ((bstep M N es m pn xs n pn σ l).2.2)], .blk bb 48 [v1, v2], .own v1 3 1 ((bstep M N es m pn xs n pn σ l).1.length) (ints (bstep M N es m pn xs n pn σ l).1), .own v2 101 3 ((bstep M N es m pn xs n pn σ l).2.1.length) (ints (fl3 (bstep M N es m pn xs n pn σ l).2.1))], Out.none rfl, (Some'.weak (.skip (.skip (.skip (.skip (.take (.take (.takeEq (by first | rfl | (rw [hst2])) (.take (.takeEq (by first | rfl | (rw [hst2])) (.takeEq (by first | rfl | (rw [hst2])) (.nil _)))))))))))), ?_⟩
        exact ⟨_, _, rfl, rfl⟩
  · refine Lex.q (v := .bool false) rfl (OpQ.y (OpY.moveB rfl h16)) ?_
    have p16 := h16; try simp only [bs] at p16
    have hst2 : bstep M N es m pn xs n pn σ l = σ := bstep_no (.inl p16)
    refine Lex.pass rfl ?_
    refine Lex.pass rfl ?_
    refine Lex.pass rfl ?_
    refine Lex.pass rfl ?_
    refine Lex.pass rfl ?_
    refine Lex.pass rfl ?_
    refine Lex.pass rfl ?_
    refine Lex.pass rfl ?_
    refine Lex.pass rfl ?_
    refine Lex.q (v := .bool false) rfl (OpQ.y (OpY.pure rfl)) ?_
    refine Lex.done ?_
    refine Run.cond (b := false) rfl (fun h => nomatch h) (fun _ => ?_)
    refine Run.skip ?_
    refine Run.fin ?_
    refine ⟨.tuple #[], [.blk bg 35 [.int .i64 (((N : Nat) : Int)), vg], .blk bc 39 [.int .i64 (((pn : Nat) : Int)), vc], .blk bf 4 [.bool ((bstep M N es m pn xs n pn σ l).2.2)], .blk bb 48 [v1, v2], .own v1 3 1 ((bstep M N es m pn xs n pn σ l).1.length) (ints (bstep M N es m pn xs n pn σ l).1), .own v2 101 3 ((bstep M N es m pn xs n pn σ l).2.1.length) (ints (fl3 (bstep M N es m pn xs n pn σ l).2.1))], Out.none rfl, (Some'.weak (.skip (.skip (.skip (.skip (.take (.take (.takeEq (by first | rfl | (rw [hst2])) (.take (.takeEq (by first | rfl | (rw [hst2])) (.takeEq (by first | rfl | (rw [hst2])) (.nil _)))))))))))), ?_⟩
    exact ⟨_, _, rfl, rfl⟩

def BestStmt (d : Nat) : Prop := ∀ {M N : Nat} {vg vc v1 v2 : Value} {m n pn : Nat} {es xs l : List Int} {σ : Best} {bl bk bv bn bz bg bc bf bb : Nat} {vl : Value} {w : World} (hM : 12800000 < M) (hpn : 0 < pn ∧ pn ≤ 5) (hN : 1 ≤ N ∧ N ≤ 5) (hd : l.length + d = pn) (hg : Ap [.blk bl 28 [vl], .own vl 3 1 (l.length) (ints l), .blk bk 3 [.int .i64 (((pn : Nat) : Int))], .blk bv 75 [.func (.func 46) #[] #[.pointer (some ⟨bg, 0, none⟩), .pointer (some ⟨bc, 0, none⟩), .pointer (some ⟨bf, 0, none⟩), .pointer (some ⟨bb, 0, none⟩)]], .blk bn 3 [.int .i64 (((N : Nat) : Int))], .blk bz 1 [.func (.func 71) #[] #[.pointer (some ⟨bl, 0, none⟩), .pointer (some ⟨bk, 0, none⟩), .pointer (some ⟨bv, 0, none⟩), .pointer (some ⟨bn, 0, none⟩), .pointer (some ⟨bz, 0, none⟩)]], .blk bg 35 [.int .i64 (((N : Nat) : Int)), vg], .blk bc 39 [.int .i64 (((pn : Nat) : Int)), vc], .blk bf 4 [.bool (σ.2.2)], .blk bb 48 [v1, v2], .own v1 3 1 (σ.1.length) (ints σ.1), .own v2 101 3 (σ.2.1.length) (ints (fl3 σ.2.1))] w vg 2 m (ints es)) (hc : Ap [.blk bl 28 [vl], .own vl 3 1 (l.length) (ints l), .blk bk 3 [.int .i64 (((pn : Nat) : Int))], .blk bv 75 [.func (.func 46) #[] #[.pointer (some ⟨bg, 0, none⟩), .pointer (some ⟨bc, 0, none⟩), .pointer (some ⟨bf, 0, none⟩), .pointer (some ⟨bb, 0, none⟩)]], .blk bn 3 [.int .i64 (((N : Nat) : Int))], .blk bz 1 [.func (.func 71) #[] #[.pointer (some ⟨bl, 0, none⟩), .pointer (some ⟨bk, 0, none⟩), .pointer (some ⟨bv, 0, none⟩), .pointer (some ⟨bn, 0, none⟩), .pointer (some ⟨bz, 0, none⟩)]], .blk bg 35 [.int .i64 (((N : Nat) : Int)), vg], .blk bc 39 [.int .i64 (((pn : Nat) : Int)), vc], .blk bf 4 [.bool (σ.2.2)], .blk bb 48 [v1, v2], .own v1 3 1 (σ.1.length) (ints σ.1), .own v2 101 3 (σ.2.1.length) (ints (fl3 σ.2.1))] w vc 3 n (ints xs)) (hst : St (Of [.blk bl 28 [vl], .own vl 3 1 (l.length) (ints l), .blk bk 3 [.int .i64 (((pn : Nat) : Int))], .blk bv 75 [.func (.func 46) #[] #[.pointer (some ⟨bg, 0, none⟩), .pointer (some ⟨bc, 0, none⟩), .pointer (some ⟨bf, 0, none⟩), .pointer (some ⟨bb, 0, none⟩)]], .blk bn 3 [.int .i64 (((N : Nat) : Int))], .blk bz 1 [.func (.func 71) #[] #[.pointer (some ⟨bl, 0, none⟩), .pointer (some ⟨bk, 0, none⟩), .pointer (some ⟨bv, 0, none⟩), .pointer (some ⟨bn, 0, none⟩), .pointer (some ⟨bz, 0, none⟩)]], .blk bg 35 [.int .i64 (((N : Nat) : Int)), vg], .blk bc 39 [.int .i64 (((pn : Nat) : Int)), vc], .blk bf 4 [.bool (σ.2.2)], .blk bb 48 [v1, v2], .own v1 3 1 (σ.1.length) (ints σ.1), .own v2 101 3 (σ.2.1.length) (ints (fl3 σ.2.1))]) w w [.blk bl 28 [vl], .own vl 3 1 (l.length) (ints l), .blk bk 3 [.int .i64 (((pn : Nat) : Int))], .blk bv 75 [.func (.func 46) #[] #[.pointer (some ⟨bg, 0, none⟩), .pointer (some ⟨bc, 0, none⟩), .pointer (some ⟨bf, 0, none⟩), .pointer (some ⟨bb, 0, none⟩)]], .blk bn 3 [.int .i64 (((N : Nat) : Int))], .blk bz 1 [.func (.func 71) #[] #[.pointer (some ⟨bl, 0, none⟩), .pointer (some ⟨bk, 0, none⟩), .pointer (some ⟨bv, 0, none⟩), .pointer (some ⟨bn, 0, none⟩), .pointer (some ⟨bz, 0, none⟩)]], .blk bg 35 [.int .i64 (((N : Nat) : Int)), vg], .blk bc 39 [.int .i64 (((pn : Nat) : Int)), vc], .blk bf 4 [.bool (σ.2.2)], .blk bb 48 [v1, v2], .own v1 3 1 (σ.1.length) (ints σ.1), .own v2 101 3 (σ.2.1.length) (ints (fl3 σ.2.1))]), Calls Try.prog 71 #[.pointer (some ⟨bl, 0, none⟩), .pointer (some ⟨bk, 0, none⟩), .pointer (some ⟨bv, 0, none⟩), .pointer (some ⟨bn, 0, none⟩), .pointer (some ⟨bz, 0, none⟩)] w (Post (Of [.blk bl 28 [vl], .own vl 3 1 (l.length) (ints l), .blk bk 3 [.int .i64 (((pn : Nat) : Int))], .blk bv 75 [.func (.func 46) #[] #[.pointer (some ⟨bg, 0, none⟩), .pointer (some ⟨bc, 0, none⟩), .pointer (some ⟨bf, 0, none⟩), .pointer (some ⟨bb, 0, none⟩)]], .blk bn 3 [.int .i64 (((N : Nat) : Int))], .blk bz 1 [.func (.func 71) #[] #[.pointer (some ⟨bl, 0, none⟩), .pointer (some ⟨bk, 0, none⟩), .pointer (some ⟨bv, 0, none⟩), .pointer (some ⟨bn, 0, none⟩), .pointer (some ⟨bz, 0, none⟩)]], .blk bg 35 [.int .i64 (((N : Nat) : Int)), vg], .blk bc 39 [.int .i64 (((pn : Nat) : Int)), vc], .blk bf 4 [.bool (σ.2.2)], .blk bb 48 [v1, v2], .own v1 3 1 (σ.1.length) (ints σ.1), .own v2 101 3 (σ.2.1.length) (ints (fl3 σ.2.1))]) w fun v H => ∃ vl' v1' v2', v = .tuple #[] ∧ H = [.blk bl 28 [vl'], .own vl' 3 1 (l.length) (ints l), .blk bk 3 [.int .i64 (((pn : Nat) : Int))], .blk bv 75 [.func (.func 46) #[] #[.pointer (some ⟨bg, 0, none⟩), .pointer (some ⟨bc, 0, none⟩), .pointer (some ⟨bf, 0, none⟩), .pointer (some ⟨bb, 0, none⟩)]], .blk bn 3 [.int .i64 (((N : Nat) : Int))], .blk bz 1 [.func (.func 71) #[] #[.pointer (some ⟨bl, 0, none⟩), .pointer (some ⟨bk, 0, none⟩), .pointer (some ⟨bv, 0, none⟩), .pointer (some ⟨bn, 0, none⟩), .pointer (some ⟨bz, 0, none⟩)]], .blk bg 35 [.int .i64 (((N : Nat) : Int)), vg], .blk bc 39 [.int .i64 (((pn : Nat) : Int)), vc], .blk bf 4 [.bool (((plS N d l).foldl (bstep M N es m pn xs n pn) σ).2.2)], .blk bb 48 [v1', v2'], .own v1' 3 1 (((plS N d l).foldl (bstep M N es m pn xs n pn) σ).1.length) (ints ((plS N d l).foldl (bstep M N es m pn xs n pn) σ).1), .own v2' 101 3 (((plS N d l).foldl (bstep M N es m pn xs n pn) σ).2.1.length) (ints (fl3 ((plS N d l).foldl (bstep M N es m pn xs n pn) σ).2.1))])

set_option maxHeartbeats 2000000 in
set_option maxRecDepth 20000 in
theorem best_step (d : Nat) (ih : ∀ d', d' < d → BestStmt d') {M N : Nat} {vg vc v1 v2 : Value} {m n pn : Nat} {es xs l : List Int} {σ : Best} {bl bk bv bn bz bg bc bf bb : Nat} {vl : Value} {w : World} (hM : 12800000 < M) (hpn : 0 < pn ∧ pn ≤ 5) (hN : 1 ≤ N ∧ N ≤ 5) (hd : l.length + d = pn) (hg : Ap [.blk bl 28 [vl], .own vl 3 1 (l.length) (ints l), .blk bk 3 [.int .i64 (((pn : Nat) : Int))], .blk bv 75 [.func (.func 46) #[] #[.pointer (some ⟨bg, 0, none⟩), .pointer (some ⟨bc, 0, none⟩), .pointer (some ⟨bf, 0, none⟩), .pointer (some ⟨bb, 0, none⟩)]], .blk bn 3 [.int .i64 (((N : Nat) : Int))], .blk bz 1 [.func (.func 71) #[] #[.pointer (some ⟨bl, 0, none⟩), .pointer (some ⟨bk, 0, none⟩), .pointer (some ⟨bv, 0, none⟩), .pointer (some ⟨bn, 0, none⟩), .pointer (some ⟨bz, 0, none⟩)]], .blk bg 35 [.int .i64 (((N : Nat) : Int)), vg], .blk bc 39 [.int .i64 (((pn : Nat) : Int)), vc], .blk bf 4 [.bool (σ.2.2)], .blk bb 48 [v1, v2], .own v1 3 1 (σ.1.length) (ints σ.1), .own v2 101 3 (σ.2.1.length) (ints (fl3 σ.2.1))] w vg 2 m (ints es)) (hc : Ap [.blk bl 28 [vl], .own vl 3 1 (l.length) (ints l), .blk bk 3 [.int .i64 (((pn : Nat) : Int))], .blk bv 75 [.func (.func 46) #[] #[.pointer (some ⟨bg, 0, none⟩), .pointer (some ⟨bc, 0, none⟩), .pointer (some ⟨bf, 0, none⟩), .pointer (some ⟨bb, 0, none⟩)]], .blk bn 3 [.int .i64 (((N : Nat) : Int))], .blk bz 1 [.func (.func 71) #[] #[.pointer (some ⟨bl, 0, none⟩), .pointer (some ⟨bk, 0, none⟩), .pointer (some ⟨bv, 0, none⟩), .pointer (some ⟨bn, 0, none⟩), .pointer (some ⟨bz, 0, none⟩)]], .blk bg 35 [.int .i64 (((N : Nat) : Int)), vg], .blk bc 39 [.int .i64 (((pn : Nat) : Int)), vc], .blk bf 4 [.bool (σ.2.2)], .blk bb 48 [v1, v2], .own v1 3 1 (σ.1.length) (ints σ.1), .own v2 101 3 (σ.2.1.length) (ints (fl3 σ.2.1))] w vc 3 n (ints xs)) (hst : St (Of [.blk bl 28 [vl], .own vl 3 1 (l.length) (ints l), .blk bk 3 [.int .i64 (((pn : Nat) : Int))], .blk bv 75 [.func (.func 46) #[] #[.pointer (some ⟨bg, 0, none⟩), .pointer (some ⟨bc, 0, none⟩), .pointer (some ⟨bf, 0, none⟩), .pointer (some ⟨bb, 0, none⟩)]], .blk bn 3 [.int .i64 (((N : Nat) : Int))], .blk bz 1 [.func (.func 71) #[] #[.pointer (some ⟨bl, 0, none⟩), .pointer (some ⟨bk, 0, none⟩), .pointer (some ⟨bv, 0, none⟩), .pointer (some ⟨bn, 0, none⟩), .pointer (some ⟨bz, 0, none⟩)]], .blk bg 35 [.int .i64 (((N : Nat) : Int)), vg], .blk bc 39 [.int .i64 (((pn : Nat) : Int)), vc], .blk bf 4 [.bool (σ.2.2)], .blk bb 48 [v1, v2], .own v1 3 1 (σ.1.length) (ints σ.1), .own v2 101 3 (σ.2.1.length) (ints (fl3 σ.2.1))]) w w [.blk bl 28 [vl], .own vl 3 1 (l.length) (ints l), .blk bk 3 [.int .i64 (((pn : Nat) : Int))], .blk bv 75 [.func (.func 46) #[] #[.pointer (some ⟨bg, 0, none⟩), .pointer (some ⟨bc, 0, none⟩), .pointer (some ⟨bf, 0, none⟩), .pointer (some ⟨bb, 0, none⟩)]], .blk bn 3 [.int .i64 (((N : Nat) : Int))], .blk bz 1 [.func (.func 71) #[] #[.pointer (some ⟨bl, 0, none⟩), .pointer (some ⟨bk, 0, none⟩), .pointer (some ⟨bv, 0, none⟩), .pointer (some ⟨bn, 0, none⟩), .pointer (some ⟨bz, 0, none⟩)]], .blk bg 35 [.int .i64 (((N : Nat) : Int)), vg], .blk bc 39 [.int .i64 (((pn : Nat) : Int)), vc], .blk bf 4 [.bool (σ.2.2)], .blk bb 48 [v1, v2], .own v1 3 1 (σ.1.length) (ints σ.1), .own v2 101 3 (σ.2.1.length) (ints (fl3 σ.2.1))]) : Calls Try.prog 71 #[.pointer (some ⟨bl, 0, none⟩), .pointer (some ⟨bk, 0, none⟩), .pointer (some ⟨bv, 0, none⟩), .pointer (some ⟨bn, 0, none⟩), .pointer (some ⟨bz, 0, none⟩)] w (Post (Of [.blk bl 28 [vl], .own vl 3 1 (l.length) (ints l), .blk bk 3 [.int .i64 (((pn : Nat) : Int))], .blk bv 75 [.func (.func 46) #[] #[.pointer (some ⟨bg, 0, none⟩), .pointer (some ⟨bc, 0, none⟩), .pointer (some ⟨bf, 0, none⟩), .pointer (some ⟨bb, 0, none⟩)]], .blk bn 3 [.int .i64 (((N : Nat) : Int))], .blk bz 1 [.func (.func 71) #[] #[.pointer (some ⟨bl, 0, none⟩), .pointer (some ⟨bk, 0, none⟩), .pointer (some ⟨bv, 0, none⟩), .pointer (some ⟨bn, 0, none⟩), .pointer (some ⟨bz, 0, none⟩)]], .blk bg 35 [.int .i64 (((N : Nat) : Int)), vg], .blk bc 39 [.int .i64 (((pn : Nat) : Int)), vc], .blk bf 4 [.bool (σ.2.2)], .blk bb 48 [v1, v2], .own v1 3 1 (σ.1.length) (ints σ.1), .own v2 101 3 (σ.2.1.length) (ints (fl3 σ.2.1))]) w fun v H => ∃ vl' v1' v2', v = .tuple #[] ∧ H = [.blk bl 28 [vl'], .own vl' 3 1 (l.length) (ints l), .blk bk 3 [.int .i64 (((pn : Nat) : Int))], .blk bv 75 [.func (.func 46) #[] #[.pointer (some ⟨bg, 0, none⟩), .pointer (some ⟨bc, 0, none⟩), .pointer (some ⟨bf, 0, none⟩), .pointer (some ⟨bb, 0, none⟩)]], .blk bn 3 [.int .i64 (((N : Nat) : Int))], .blk bz 1 [.func (.func 71) #[] #[.pointer (some ⟨bl, 0, none⟩), .pointer (some ⟨bk, 0, none⟩), .pointer (some ⟨bv, 0, none⟩), .pointer (some ⟨bn, 0, none⟩), .pointer (some ⟨bz, 0, none⟩)]], .blk bg 35 [.int .i64 (((N : Nat) : Int)), vg], .blk bc 39 [.int .i64 (((pn : Nat) : Int)), vc], .blk bf 4 [.bool (((plS N d l).foldl (bstep M N es m pn xs n pn) σ).2.2)], .blk bb 48 [v1', v2'], .own v1' 3 1 (((plS N d l).foldl (bstep M N es m pn xs n pn) σ).1.length) (ints ((plS N d l).foldl (bstep M N es m pn xs n pn) σ).1), .own v2' 101 3 (((plS N d l).foldl (bstep M N es m pn xs n pn) σ).2.1.length) (ints (fl3 ((plS N d l).foldl (bstep M N es m pn xs n pn) σ).2.1))]) := by
  refine enter (n := 34) (args := [.pointer (some ⟨bl, 0, none⟩), .pointer (some ⟨bk, 0, none⟩), .pointer (some ⟨bv, 0, none⟩), .pointer (some ⟨bn, 0, none⟩), .pointer (some ⟨bz, 0, none⟩)]) Try.func71 rfl rfl (hst) ?_
  refine Run.seq ?_
  refine Run.seq ?_
  refine Run.region ?_
  refine Run.q (v := vl) rfl (OpQ.y (OpY.load1 Tone_28 rfl (Cells.blk (.head _) ⟨rfl, trivial⟩))) ?_
  refine Run.formOwn (.tail _ (List.Mem.head _)) (fun A_vl1 c_vl1 hv hcapc_vl1 hmaxc_vl1 => ?_) (fun _ _ _ => ⟨nofun, nofun, nofun⟩)
  subst hv
  refine Run.q (v := .int .i64 (((l.length : Nat) : Int))) rfl (OpQ.y (OpY.len Tsl_28 rfl)) ?_
  refine Run.q (v := .int .i64 (((pn : Nat) : Int))) rfl (OpQ.y (OpY.load1 Tone_3 rfl (Cells.blk (.tail _ (.tail _ (List.Mem.head _))) ⟨rfl, trivial⟩))) ?_
  refine Run.q (v := .bool ((((l.length : Nat) : Int)) == (((pn : Nat) : Int)))) rfl (OpQ.y (OpY.pure rfl)) ?_
  refine Run.done ?_
  refine Run.cond (b := (((l.length : Nat) : Int)) == (((pn : Nat) : Int))) rfl (fun h9 => ?_) (fun h9 => ?_)
  · have p9 := h9; try simp only [bs] at p9
    have hd0 : d = 0 := by omega
    subst hd0
    refine Run.seq ?_
    refine Run.heldB (base := [.blk bl 28 [.slice A_vl1 (l.length) c_vl1], .own (.slice A_vl1 (l.length) c_vl1) 3 1 (l.length) (ints l), .blk bk 3 [.int .i64 (((pn : Nat) : Int))], .blk bv 75 [.func (.func 46) #[] #[.pointer (some ⟨bg, 0, none⟩), .pointer (some ⟨bc, 0, none⟩), .pointer (some ⟨bf, 0, none⟩), .pointer (some ⟨bb, 0, none⟩)]], .blk bn 3 [.int .i64 (((N : Nat) : Int))], .blk bz 1 [.func (.func 71) #[] #[.pointer (some ⟨bl, 0, none⟩), .pointer (some ⟨bk, 0, none⟩), .pointer (some ⟨bv, 0, none⟩), .pointer (some ⟨bn, 0, none⟩), .pointer (some ⟨bz, 0, none⟩)]]]) (by kernel_rfl) ?_
    refine DW.take (i := 0) (v := .func (.func 46) #[] #[.pointer (some ⟨bg, 0, none⟩), .pointer (some ⟨bc, 0, none⟩), .pointer (some ⟨bf, 0, none⟩), .pointer (some ⟨bb, 0, none⟩)]) rfl (by kernel_rfl) (by kernel_rfl) (by kernel_rfl) (fun _ _ _ h => h) (Some'.weak (.take (.take (.take (.take (.take (.take (.nil _)))))))) rfl (OpY.load1 Tone_75 rfl (Cells.blk (.tail _ (.tail _ (.tail _ (List.Mem.head _)))) ⟨rfl, trivial⟩)) ?_
    refine DW.take (i := 1) (v := .slice A_vl1 (l.length) c_vl1) rfl (by kernel_rfl) (by kernel_rfl) (by kernel_rfl) (fun _ _ _ h => h) (Some'.weak (.take (.take (.take (.take (.take (.take (.nil _)))))))) rfl (OpY.load1 Tone_28 rfl (Cells.blk (.head _) ⟨rfl, trivial⟩)) ?_
    refine DW.step (i := 2) (by kernel_rfl) rfl rfl (OpStep.call (vs := [.slice A_vl1 (l.length) c_vl1]) (caps := []) Tcall_54 rfl rfl (fun w hs => CloneInt_spec (by omega) (by omega) (hs.slOwn (.tail _ (List.Mem.head _)))) ?_)
    rintro uc _ rfl
    refine ⟨(Some'.weak (.skip (.take (.take (.take (.take (.take (.take (.nil _))))))))), ?_⟩
    refine DW.step (i := 3) (by kernel_rfl) rfl rfl (OpStep.callM (H1 := [.own uc 3 1 (l.length) (ints l), .blk bg 35 [.int .i64 (((N : Nat) : Int)), vg], .blk bc 39 [.int .i64 (((pn : Nat) : Int)), vc], .blk bf 4 [.bool (σ.2.2)], .blk bb 48 [v1, v2], .own v1 3 1 (σ.1.length) (ints σ.1), .own v2 101 3 (σ.2.1.length) (ints (fl3 σ.2.1))]) (H2 := [.blk bl 28 [.slice A_vl1 (l.length) c_vl1], .own (.slice A_vl1 (l.length) c_vl1) 3 1 (l.length) (ints l), .blk bk 3 [.int .i64 (((pn : Nat) : Int))], .blk bv 75 [.func (.func 46) #[] #[.pointer (some ⟨bg, 0, none⟩), .pointer (some ⟨bc, 0, none⟩), .pointer (some ⟨bf, 0, none⟩), .pointer (some ⟨bb, 0, none⟩)]], .blk bn 3 [.int .i64 (((N : Nat) : Int))], .blk bz 1 [.func (.func 71) #[] #[.pointer (some ⟨bl, 0, none⟩), .pointer (some ⟨bk, 0, none⟩), .pointer (some ⟨bv, 0, none⟩), .pointer (some ⟨bn, 0, none⟩), .pointer (some ⟨bz, 0, none⟩)]]]) (vs := [uc, .pointer (some ⟨bg, 0, none⟩), .pointer (some ⟨bc, 0, none⟩), .pointer (some ⟨bf, 0, none⟩), .pointer (some ⟨bb, 0, none⟩)]) (caps := [.pointer (some ⟨bg, 0, none⟩), .pointer (some ⟨bc, 0, none⟩), .pointer (some ⟨bf, 0, none⟩), .pointer (some ⟨bb, 0, none⟩)]) Tcall_46 rfl rfl (Weak.selF [0, 6, 6, 6, 6, 6, 6]) (fun w hs => bestVisit_spec hM hpn (by omega) (Ap.ap hg hs) (Ap.ap hc hs) (hs.sub (List.sublist_append_left _ _)).self) ?_)
    rintro _ _ ⟨w1, w2, rfl, rfl⟩
    refine ⟨(Some'.weak (.skip (.skip (.skip (.skip (.skip (.skip (.take (.take (.take (.take (.take (.take (.nil _)))))))))))))), ?_⟩
    refine DW.done (by kernel_rfl) ?_
    refine Run.ret ?_
    refine ⟨.tuple #[], [.blk bl 28 [.slice A_vl1 (l.length) c_vl1], .own (.slice A_vl1 (l.length) c_vl1) 3 1 (l.length) (ints l), .blk bk 3 [.int .i64 (((pn : Nat) : Int))], .blk bv 75 [.func (.func 46) #[] #[.pointer (some ⟨bg, 0, none⟩), .pointer (some ⟨bc, 0, none⟩), .pointer (some ⟨bf, 0, none⟩), .pointer (some ⟨bb, 0, none⟩)]], .blk bn 3 [.int .i64 (((N : Nat) : Int))], .blk bz 1 [.func (.func 71) #[] #[.pointer (some ⟨bl, 0, none⟩), .pointer (some ⟨bk, 0, none⟩), .pointer (some ⟨bv, 0, none⟩), .pointer (some ⟨bn, 0, none⟩), .pointer (some ⟨bz, 0, none⟩)]], .blk bg 35 [.int .i64 (((N : Nat) : Int)), vg], .blk bc 39 [.int .i64 (((pn : Nat) : Int)), vc], .blk bf 4 [.bool (((plS N 0 l).foldl (bstep M N es m pn xs n pn) σ).2.2)], .blk bb 48 [w1, w2], .own w1 3 1 (((plS N 0 l).foldl (bstep M N es m pn xs n pn) σ).1.length) (ints ((plS N 0 l).foldl (bstep M N es m pn xs n pn) σ).1), .own w2 101 3 (((plS N 0 l).foldl (bstep M N es m pn xs n pn) σ).2.1.length) (ints (fl3 ((plS N 0 l).foldl (bstep M N es m pn xs n pn) σ).2.1))], Out.none rfl, ((Weak.selF [6, 6, 6, 6, 6, 6, 0, 0, 0, 0, 0, 0]).trans (Some'.weak (.take (.take (.take (.take (.take (.take (.take (.take (.takeEq (by first | rfl | (rw [hend])) (.take (.takeEq (by first | rfl | (rw [hend])) (.takeEq (by first | rfl | (rw [hend])) (.nil _))))))))))))))), ?_⟩
    exact ⟨_, _, _, rfl, rfl⟩
  · have p9 := h9; try simp only [bs] at p9
    obtain ⟨d, rfl⟩ : ∃ q, d = q + 1 := ⟨d - 1, by omega⟩
    refine Run.skip ?_
    refine Run.seq ?_
    refine Run.region ?_
    refine Run.q (v := .int .i64 (((N : Nat) : Int))) rfl (OpQ.y (OpY.load1 Tone_3 rfl (Cells.blk (.tail _ (.tail _ (.tail _ (.tail _ (List.Mem.head _))))) ⟨rfl, trivial⟩))) ?_
    refine Run.q (v := .int .i64 0) rfl (OpQ.y (OpY.pure rfl)) ?_
    refine Run.done ?_
    refine Run.block ?_
    refine Run.loop (ι := Nat × Value × Value × Value × Best) [5, 15, 16, 17, 18, 19, 20, 21, 22, 23, 24, 25, 26, 27, 28, 29, 30, 31, 32, 33] (fun ⟨k, vl2, w1, w2, σ2⟩ => [(15, .int .i64 (((k : Nat) : Int)))]) (fun ⟨k, vl2, w1, w2, σ2⟩ => [.blk bl 28 [vl2], .own vl2 3 1 (l.length) (ints l), .blk bk 3 [.int .i64 (((pn : Nat) : Int))], .blk bv 75 [.func (.func 46) #[] #[.pointer (some ⟨bg, 0, none⟩), .pointer (some ⟨bc, 0, none⟩), .pointer (some ⟨bf, 0, none⟩), .pointer (some ⟨bb, 0, none⟩)]], .blk bn 3 [.int .i64 (((N : Nat) : Int))], .blk bz 1 [.func (.func 71) #[] #[.pointer (some ⟨bl, 0, none⟩), .pointer (some ⟨bk, 0, none⟩), .pointer (some ⟨bv, 0, none⟩), .pointer (some ⟨bn, 0, none⟩), .pointer (some ⟨bz, 0, none⟩)]], .blk bg 35 [.int .i64 (((N : Nat) : Int)), vg], .blk bc 39 [.int .i64 (((pn : Nat) : Int)), vc], .blk bf 4 [.bool (σ2.2.2)], .blk bb 48 [w1, w2], .own w1 3 1 (σ2.1.length) (ints σ2.1), .own w2 101 3 (σ2.2.1.length) (ints (fl3 σ2.2.1))]) (fun ⟨k, vl2, w1, w2, σ2⟩ => k ≤ N ∧ (plK (plS N d) l k).foldl (bstep M N es m pn xs n pn) σ = σ2) (fun ⟨k, vl2, w1, w2, σ2⟩ => N - k) (0, .slice A_vl1 (l.length) c_vl1, v1, v2, σ) ?_ ?_ ?_ ?_
    · exact ⟨Nat.zero_le _, rfl⟩
    · exact ⟨rfl, trivial⟩
    · exact ((Weak.refl _).trans (Some'.weak (.takeEq (by first | rfl | simp) (.takeEq (by first | rfl | simp) (.take (.take (.take (.take (.take (.take (.takeEq (by first | rfl | simp) (.takeEq (by first | rfl | simp) (.takeEq (by first | rfl | simp) (.takeEq (by first | rfl | simp) (.nil _)))))))))))))))
    · rintro ⟨k, vl2, w1, w2, σ2⟩ fr hinv
      show Run _ _ (over _ _ [(15, .int .i64 (((k : Nat) : Int)))] fr) [.blk bl 28 [vl2], .own vl2 3 1 (l.length) (ints l), .blk bk 3 [.int .i64 (((pn : Nat) : Int))], .blk bv 75 [.func (.func 46) #[] #[.pointer (some ⟨bg, 0, none⟩), .pointer (some ⟨bc, 0, none⟩), .pointer (some ⟨bf, 0, none⟩), .pointer (some ⟨bb, 0, none⟩)]], .blk bn 3 [.int .i64 (((N : Nat) : Int))], .blk bz 1 [.func (.func 71) #[] #[.pointer (some ⟨bl, 0, none⟩), .pointer (some ⟨bk, 0, none⟩), .pointer (some ⟨bv, 0, none⟩), .pointer (some ⟨bn, 0, none⟩), .pointer (some ⟨bz, 0, none⟩)]], .blk bg 35 [.int .i64 (((N : Nat) : Int)), vg], .blk bc 39 [.int .i64 (((pn : Nat) : Int)), vc], .blk bf 4 [.bool (σ2.2.2)], .blk bb 48 [w1, w2], .own w1 3 1 (σ2.1.length) (ints σ2.1), .own w2 101 3 (σ2.2.1.length) (ints (fl3 σ2.2.1))]
      try dsimp only at hinv
      refine Run.seq ?_
      refine Run.region ?_
      refine Run.q (v := .bool (decide ((((k : Nat) : Int)) < (((N : Nat) : Int))))) rfl (OpQ.y (OpY.pure rfl)) ?_
      refine Run.done ?_
      refine Run.seq ?_
      refine Run.cond (b := decide ((((k : Nat) : Int)) < (((N : Nat) : Int)))) rfl (fun h16 => ?_) (fun h16 => ?_)
      · have p16 := h16; try simp only [bs] at p16
        have hk : k < N := by omega
        obtain ⟨hkN, hfo⟩ := hinv
        refine Run.skip ?_
        refine Run.seq ?_
        refine Run.block ?_
        refine Run.seq ?_
        refine Run.region ?_
        refine Run.q (v := .int .i64 (((k : Nat) : Int))) rfl (OpQ.y (OpY.pure rfl)) ?_
        refine Run.q (v := .int .i64 (((k : Nat) : Int))) rfl (OpQ.y (OpY.pure rfl)) ?_
        refine Run.done ?_
        refine Run.seq ?_
        refine Run.region ?_
        refine Run.q (v := vl2) rfl (OpQ.y (OpY.load1 Tone_28 rfl (Cells.blk (.head _) ⟨rfl, trivial⟩))) ?_
        refine Run.q (v := .int .i64 (((k : Nat) : Int))) rfl (OpQ.y (OpY.pure rfl)) ?_
        refine Run.q (v := .bool (hasI l k l.length)) rfl (OpQ.call (vs := [vl2, .int .i64 (((k : Nat) : Int))]) (caps := []) Tcall_72 rfl rfl (fun w hs => ContainsInt_spec (hs.slOwn (.tail _ (List.Mem.head _))))) ?_
        refine Run.q (v := .bool (!(hasI l k l.length))) rfl (OpQ.y (OpY.pure rfl)) ?_
        refine Run.done ?_
        refine Run.cond (b := !(hasI l k l.length)) rfl (fun h21 => ?_) (fun h21 => ?_)
        · have p21 := h21; try simp only [bs] at p21
          have hlk : (l ++ [(k : Int)]).length = l.length + 1 := by simp
          have hnx : (plK (plS N d) l (k + 1)).foldl (bstep M N es m pn xs n pn) σ = (plS N d (l ++ [(k : Int)])).foldl (bstep M N es m pn xs n pn) σ2 := by rw [plK, if_neg (by rw [show hasI l (k : Int) l.length = false by simpa using p21]; decide), List.foldl_append, hfo]
          refine Run.seq ?_
          refine Run.region ?_
          refine Run.q (v := vl2) rfl (OpQ.y (OpY.load1 Tone_28 rfl (Cells.blk (.head _) ⟨rfl, trivial⟩))) ?_
          refine Run.q (v := .int .i64 (((k : Nat) : Int))) rfl (OpQ.y (OpY.pure rfl)) ?_
          refine Run.step rfl (OpStep.buildSlice (us := [.int .i64 (((k : Nat) : Int))]) Tsl_28 (by decide) (by decide) ⟨rfl, [.int .i64 (((k : Nat) : Int))], _, rfl, rfl, rfl, rfl⟩ rfl fun b1 => ?_)
          refine Run.step rfl (OpStep.append (H1 := [.own (.slice (some ⟨b1, 0, none⟩) 1 1) 3 1 1 ([.int .i64 (((k : Nat) : Int))]), .blk bl 28 [vl2]]) (H2 := [.blk bk 3 [.int .i64 (((pn : Nat) : Int))], .blk bv 75 [.func (.func 46) #[] #[.pointer (some ⟨bg, 0, none⟩), .pointer (some ⟨bc, 0, none⟩), .pointer (some ⟨bf, 0, none⟩), .pointer (some ⟨bb, 0, none⟩)]], .blk bn 3 [.int .i64 (((N : Nat) : Int))], .blk bz 1 [.func (.func 71) #[] #[.pointer (some ⟨bl, 0, none⟩), .pointer (some ⟨bk, 0, none⟩), .pointer (some ⟨bv, 0, none⟩), .pointer (some ⟨bn, 0, none⟩), .pointer (some ⟨bz, 0, none⟩)]], .blk bg 35 [.int .i64 (((N : Nat) : Int)), vg], .blk bc 39 [.int .i64 (((pn : Nat) : Int)), vc], .blk bf 4 [.bool (σ2.2.2)], .blk bb 48 [w1, w2], .own w1 3 1 (σ2.1.length) (ints σ2.1), .own w2 101 3 (σ2.2.1.length) (ints (fl3 σ2.2.1))]) (v := vl2) (u := .slice (some ⟨b1, 0, none⟩) 1 1) (n := l.length) (m := 1) (xs := ints l) (ys := [.int .i64 (((k : Nat) : Int))]) Tsl_28 (by decide) rfl rfl rfl rfl (fun w hs => hs.slOwn (.head _)) (by simp [Value.oneCell']) (by omega) (by simp only [maxLen]; omega) fun av1 hnav1 => ?_)
          refine Run.weak (H' := [.own (.slice (some ⟨b1, 0, none⟩) 1 1) 3 1 1 ([.int .i64 (((k : Nat) : Int))]), .blk bl 28 [vl2], .own av1 3 1 ((l ++ [(k : Int)]).length) (ints (l ++ [(k : Int)])), .blk bk 3 [.int .i64 (((pn : Nat) : Int))], .blk bv 75 [.func (.func 46) #[] #[.pointer (some ⟨bg, 0, none⟩), .pointer (some ⟨bc, 0, none⟩), .pointer (some ⟨bf, 0, none⟩), .pointer (some ⟨bb, 0, none⟩)]], .blk bn 3 [.int .i64 (((N : Nat) : Int))], .blk bz 1 [.func (.func 71) #[] #[.pointer (some ⟨bl, 0, none⟩), .pointer (some ⟨bk, 0, none⟩), .pointer (some ⟨bv, 0, none⟩), .pointer (some ⟨bn, 0, none⟩), .pointer (some ⟨bz, 0, none⟩)]], .blk bg 35 [.int .i64 (((N : Nat) : Int)), vg], .blk bc 39 [.int .i64 (((pn : Nat) : Int)), vc], .blk bf 4 [.bool (σ2.2.2)], .blk bb 48 [w1, w2], .own w1 3 1 (σ2.1.length) (ints σ2.1), .own w2 101 3 (σ2.2.1.length) (ints (fl3 σ2.2.1))]) (Some'.weak (.take (.take (.takeEq (by simp [ints]) (.take (.take (.take (.take (.take (.take (.take (.take (.take (.take (.nil _))))))))))))))) ?_ ⟨_, _, rfl, fun _ => nofun, fun _ => nofun⟩
          refine Run.formOwn (.tail _ (.tail _ (List.Mem.head _))) (fun A_av11 c_av11 hv hcapc_av11 hmaxc_av11 => ?_) (fun _ _ _ => ⟨nofun, nofun, nofun⟩)
          subst hv
          refine Run.step rfl (OpStep.storeAll (us := [.slice A_av11 ((l ++ [(k : Int)]).length) c_av11]) Tsize_28 rfl rfl rfl (.there _ (.here _)) rfl ?_)
          refine Run.done ?_
          refine Run.seq ?_
          refine Run.region ?_
          refine Run.q (v := .func (.func 71) #[] #[.pointer (some ⟨bl, 0, none⟩), .pointer (some ⟨bk, 0, none⟩), .pointer (some ⟨bv, 0, none⟩), .pointer (some ⟨bn, 0, none⟩), .pointer (some ⟨bz, 0, none⟩)]) rfl (OpQ.y (OpY.load1 Tone_1 rfl (Cells.blk (.tail _ (.tail _ (.tail _ (.tail _ (.tail _ (.tail _ (List.Mem.head _))))))) ⟨rfl, trivial⟩))) ?_
          refine Run.step rfl (OpStep.callM (H1 := [.blk bl 28 [.slice A_av11 ((l ++ [(k : Int)]).length) c_av11], .own (.slice A_av11 ((l ++ [(k : Int)]).length) c_av11) 3 1 ((l ++ [(k : Int)]).length) (ints (l ++ [(k : Int)])), .blk bk 3 [.int .i64 (((pn : Nat) : Int))], .blk bv 75 [.func (.func 46) #[] #[.pointer (some ⟨bg, 0, none⟩), .pointer (some ⟨bc, 0, none⟩), .pointer (some ⟨bf, 0, none⟩), .pointer (some ⟨bb, 0, none⟩)]], .blk bn 3 [.int .i64 (((N : Nat) : Int))], .blk bz 1 [.func (.func 71) #[] #[.pointer (some ⟨bl, 0, none⟩), .pointer (some ⟨bk, 0, none⟩), .pointer (some ⟨bv, 0, none⟩), .pointer (some ⟨bn, 0, none⟩), .pointer (some ⟨bz, 0, none⟩)]], .blk bg 35 [.int .i64 (((N : Nat) : Int)), vg], .blk bc 39 [.int .i64 (((pn : Nat) : Int)), vc], .blk bf 4 [.bool (σ2.2.2)], .blk bb 48 [w1, w2], .own w1 3 1 (σ2.1.length) (ints σ2.1), .own w2 101 3 (σ2.2.1.length) (ints (fl3 σ2.2.1))]) (H2 := [.own (.slice (some ⟨b1, 0, none⟩) 1 1) 3 1 1 ([.int .i64 (((k : Nat) : Int))])]) (vs := [.pointer (some ⟨bl, 0, none⟩), .pointer (some ⟨bk, 0, none⟩), .pointer (some ⟨bv, 0, none⟩), .pointer (some ⟨bn, 0, none⟩), .pointer (some ⟨bz, 0, none⟩)]) (caps := [.pointer (some ⟨bl, 0, none⟩), .pointer (some ⟨bk, 0, none⟩), .pointer (some ⟨bv, 0, none⟩), .pointer (some ⟨bn, 0, none⟩), .pointer (some ⟨bz, 0, none⟩)]) Tcall_71 rfl rfl (Weak.selF [1, 1, 1, 1, 1, 1, 1, 1, 1, 1, 1, 1]) (fun w hs => ih d (by omega) hM hpn hN (by simp; omega) (Ap.ap hg hs) (Ap.ap hc hs) (hs.sub (List.sublist_append_left _ _)).self) ?_)
          rintro _ _ ⟨vl3, w3, w4, rfl, rfl⟩
          show Run _ _ (putF _ _ _ (.tuple #[])) [.blk bl 28 [vl3], .own vl3 3 1 ((l ++ [(k : Int)]).length) (ints (l ++ [(k : Int)])), .blk bk 3 [.int .i64 (((pn : Nat) : Int))], .blk bv 75 [.func (.func 46) #[] #[.pointer (some ⟨bg, 0, none⟩), .pointer (some ⟨bc, 0, none⟩), .pointer (some ⟨bf, 0, none⟩), .pointer (some ⟨bb, 0, none⟩)]], .blk bn 3 [.int .i64 (((N : Nat) : Int))], .blk bz 1 [.func (.func 71) #[] #[.pointer (some ⟨bl, 0, none⟩), .pointer (some ⟨bk, 0, none⟩), .pointer (some ⟨bv, 0, none⟩), .pointer (some ⟨bn, 0, none⟩), .pointer (some ⟨bz, 0, none⟩)]], .blk bg 35 [.int .i64 (((N : Nat) : Int)), vg], .blk bc 39 [.int .i64 (((pn : Nat) : Int)), vc], .blk bf 4 [.bool (((plS N d (l ++ [(k : Int)])).foldl (bstep M N es m pn xs n pn) σ2).2.2)], .blk bb 48 [w3, w4], .own w3 3 1 (((plS N d (l ++ [(k : Int)])).foldl (bstep M N es m pn xs n pn) σ2).1.length) (ints ((plS N d (l ++ [(k : Int)])).foldl (bstep M N es m pn xs n pn) σ2).1), .own w4 101 3 (((plS N d (l ++ [(k : Int)])).foldl (bstep M N es m pn xs n pn) σ2).2.1.length) (ints (fl3 ((plS N d (l ++ [(k : Int)])).foldl (bstep M N es m pn xs n pn) σ2).2.1)), .own (.slice (some ⟨b1, 0, none⟩) 1 1) 3 1 1 ([.int .i64 (((k : Nat) : Int))])]
          refine Run.done ?_
          refine Run.region ?_
          refine Run.q (v := vl3) rfl (OpQ.y (OpY.load1 Tone_28 rfl (Cells.blk (.head _) ⟨rfl, trivial⟩))) ?_
          refine Run.q (v := vl3) rfl (OpQ.y (OpY.load1 Tone_28 rfl (Cells.blk (.head _) ⟨rfl, trivial⟩))) ?_
          refine Run.formOwn (.tail _ (List.Mem.head _)) (fun A_vl31 c_vl31 hv hcapc_vl31 hmaxc_vl31 => ?_) (fun _ _ _ => ⟨nofun, nofun, nofun⟩)
          subst hv
          refine Run.q (v := .int .i64 ((((l ++ [(k : Int)]).length : Nat) : Int))) rfl (OpQ.y (OpY.len Tsl_28 rfl)) ?_
          refine Run.q (v := .int .i64 (((((l ++ [(k : Int)]).length : Nat) : Int)) - 1)) rfl (OpQ.y (OpY.sub rfl rfl rfl (by omega) (by omega))) ?_
          refine Run.q (v := .slice A_vl31 (l.length) c_vl31) rfl (OpQ.y (OpY.sliceHN (h := l.length) Tsl_28 rfl rfl (by simp) (by simp at *; omega))) ?_
          refine Run.weak (H' := [.own (.slice A_vl31 (l.length) c_vl31) 3 1 (l.length) (ints l), .blk bl 28 [.slice A_vl31 ((l ++ [(k : Int)]).length) c_vl31], .blk bk 3 [.int .i64 (((pn : Nat) : Int))], .blk bv 75 [.func (.func 46) #[] #[.pointer (some ⟨bg, 0, none⟩), .pointer (some ⟨bc, 0, none⟩), .pointer (some ⟨bf, 0, none⟩), .pointer (some ⟨bb, 0, none⟩)]], .blk bn 3 [.int .i64 (((N : Nat) : Int))], .blk bz 1 [.func (.func 71) #[] #[.pointer (some ⟨bl, 0, none⟩), .pointer (some ⟨bk, 0, none⟩), .pointer (some ⟨bv, 0, none⟩), .pointer (some ⟨bn, 0, none⟩), .pointer (some ⟨bz, 0, none⟩)]], .blk bg 35 [.int .i64 (((N : Nat) : Int)), vg], .blk bc 39 [.int .i64 (((pn : Nat) : Int)), vc], .blk bf 4 [.bool (((plS N d (l ++ [(k : Int)])).foldl (bstep M N es m pn xs n pn) σ2).2.2)], .blk bb 48 [w3, w4], .own w3 3 1 (((plS N d (l ++ [(k : Int)])).foldl (bstep M N es m pn xs n pn) σ2).1.length) (ints ((plS N d (l ++ [(k : Int)])).foldl (bstep M N es m pn xs n pn) σ2).1), .own w4 101 3 (((plS N d (l ++ [(k : Int)])).foldl (bstep M N es m pn xs n pn) σ2).2.1.length) (ints (fl3 ((plS N d (l ++ [(k : Int)])).foldl (bstep M N es m pn xs n pn) σ2).2.1)), .own (.slice (some ⟨b1, 0, none⟩) 1 1) 3 1 1 ([.int .i64 (((k : Nat) : Int))])]) ((Weak.selF [1]).trans ((Weak.ownTake (m := l.length) (by simp)).trans (Some'.weak (.takeEq (by simp [ints]) (.take (.take (.take (.take (.take (.take (.take (.take (.take (.take (.take (.take (.nil _))))))))))))))))) ?_ ⟨_, _, rfl, fun _ => nofun, fun _ => nofun⟩
          refine Run.step rfl (OpStep.storeAll (us := [.slice A_vl31 (l.length) c_vl31]) Tsize_28 rfl rfl rfl (.there _ (.here _)) rfl ?_)
          refine Run.done ?_
          refine Run.blockEnd ?_
          refine Run.region ?_
          refine Run.q (v := .int .i64 ((((k : Nat) : Int)) + 1)) rfl (OpQ.y (OpY.add rfl rfl rfl (by omega) (by omega))) ?_
          refine Run.q (v := .int .i64 ((((k : Nat) : Int)) + 1)) rfl (OpQ.y (OpY.pure rfl)) ?_
          refine Run.done ?_
          refine Run.goal ⟨(by repeat (first | exact Same.refl _ _ | refine Same.put rfl ?_ | refine Same.over rfl rfl ?_)), (k + 1, .slice A_vl31 (l.length) c_vl31, w3, w4, (plS N d (l ++ [(k : Int)])).foldl (bstep M N es m pn xs n pn) σ2), ?_, ?_, ?_, ?_⟩
          · exact ⟨hk, hnx⟩
          · show N - (k + 1) < N - k; omega
          · exact ⟨(by first | rfl | (congr 1; omega) | simp), trivial⟩
          · exact ((Weak.selF [1, 0, 0, 0, 0, 0, 0, 0, 0, 0, 0, 0]).trans (Some'.weak (.takeEq (by first | rfl | simp) (.takeEq (by first | rfl | simp) (.take (.take (.take (.take (.take (.take (.takeEq (by first | rfl | simp) (.takeEq (by first | rfl | simp) (.takeEq (by first | rfl | simp) (.takeEq (by first | rfl | simp) (.nil _)))))))))))))))
        · have p21 := h21; try simp only [bs] at p21
          have hnx : (plK (plS N d) l (k + 1)).foldl (bstep M N es m pn xs n pn) σ = σ2 := by rw [plK, if_pos (by simpa using p21), List.append_nil, hfo]
          refine Run.skip ?_
          refine Run.blockEnd ?_
          refine Run.region ?_
          refine Run.q (v := .int .i64 ((((k : Nat) : Int)) + 1)) rfl (OpQ.y (OpY.add rfl rfl rfl (by omega) (by omega))) ?_
          refine Run.q (v := .int .i64 ((((k : Nat) : Int)) + 1)) rfl (OpQ.y (OpY.pure rfl)) ?_
          refine Run.done ?_
          refine Run.goal ⟨(by repeat (first | exact Same.refl _ _ | refine Same.put rfl ?_ | refine Same.over rfl rfl ?_)), (k + 1, vl2, w1, w2, σ2), ?_, ?_, ?_, ?_⟩
          · exact ⟨hk, hnx⟩
          · show N - (k + 1) < N - k; omega
          · exact ⟨(by first | rfl | (congr 1; omega) | simp), trivial⟩
          · exact ((Weak.refl _).trans (Some'.weak (.take (.takeEq (by first | rfl | simp) (.take (.take (.take (.take (.take (.take (.take (.take (.takeEq (by first | rfl | simp) (.takeEq (by first | rfl | simp) (.nil _)))))))))))))))
      · have p16 := h16; try simp only [bs] at p16
        have hkn : k = N := by omega
        obtain ⟨hkN, hfo⟩ := hinv
        have hend : (plS N (d + 1) l).foldl (bstep M N es m pn xs n pn) σ = σ2 := by
          have h := hfo
          rw [hkn] at h
          rw [plS]; exact h
        refine Run.exit rfl ?_
        refine Run.fin ?_
        refine ⟨.tuple #[], [.blk bl 28 [vl2], .own vl2 3 1 (l.length) (ints l), .blk bk 3 [.int .i64 (((pn : Nat) : Int))], .blk bv 75 [.func (.func 46) #[] #[.pointer (some ⟨bg, 0, none⟩), .pointer (some ⟨bc, 0, none⟩), .pointer (some ⟨bf, 0, none⟩), .pointer (some ⟨bb, 0, none⟩)]], .blk bn 3 [.int .i64 (((N : Nat) : Int))], .blk bz 1 [.func (.func 71) #[] #[.pointer (some ⟨bl, 0, none⟩), .pointer (some ⟨bk, 0, none⟩), .pointer (some ⟨bv, 0, none⟩), .pointer (some ⟨bn, 0, none⟩), .pointer (some ⟨bz, 0, none⟩)]], .blk bg 35 [.int .i64 (((N : Nat) : Int)), vg], .blk bc 39 [.int .i64 (((pn : Nat) : Int)), vc], .blk bf 4 [.bool (((plS N (d + 1) l).foldl (bstep M N es m pn xs n pn) σ).2.2)], .blk bb 48 [w1, w2], .own w1 3 1 (((plS N (d + 1) l).foldl (bstep M N es m pn xs n pn) σ).1.length) (ints ((plS N (d + 1) l).foldl (bstep M N es m pn xs n pn) σ).1), .own w2 101 3 (((plS N (d + 1) l).foldl (bstep M N es m pn xs n pn) σ).2.1.length) (ints (fl3 ((plS N (d + 1) l).foldl (bstep M N es m pn xs n pn) σ).2.1))], Out.none rfl, (Some'.weak (.take (.take (.take (.take (.take (.take (.take (.take (.takeEq (by first | rfl | (rw [hend])) (.take (.takeEq (by first | rfl | (rw [hend])) (.takeEq (by first | rfl | (rw [hend])) (.nil _)))))))))))))), ?_⟩
        exact ⟨_, _, _, rfl, rfl⟩

theorem best_spec (d : Nat) : BestStmt d := by
  induction d using Nat.strongRecOn with
  | _ d ih =>
    unfold BestStmt
    intro M N vg vc v1 v2 m n pn es xs l σ bl bk bv bn bz bg bc bf bb vl w hM hpn hN hd hg hc hst
    exact best_step d ih hM hpn hN hd hg hc hst

set_option maxHeartbeats 2000000 in
set_option maxRecDepth 20000 in
theorem bestPlacements_spec {M N : Nat} {vg vc v1 v2 : Value} {m n pn : Nat} {es xs : List Int} {σ : Best} {bg bc bf bb : Nat} {w : World} (hM : 12800000 < M) (hpn : 0 < pn ∧ pn ≤ 5) (hN : 1 ≤ N ∧ N ≤ 5) (hg : Ap [.blk bg 35 [.int .i64 (((N : Nat) : Int)), vg], .blk bc 39 [.int .i64 (((pn : Nat) : Int)), vc], .blk bf 4 [.bool (σ.2.2)], .blk bb 48 [v1, v2], .own v1 3 1 (σ.1.length) (ints σ.1), .own v2 101 3 (σ.2.1.length) (ints (fl3 σ.2.1))] w vg 2 m (ints es)) (hc : Ap [.blk bg 35 [.int .i64 (((N : Nat) : Int)), vg], .blk bc 39 [.int .i64 (((pn : Nat) : Int)), vc], .blk bf 4 [.bool (σ.2.2)], .blk bb 48 [v1, v2], .own v1 3 1 (σ.1.length) (ints σ.1), .own v2 101 3 (σ.2.1.length) (ints (fl3 σ.2.1))] w vc 3 n (ints xs)) (hst : St (Of [.blk bg 35 [.int .i64 (((N : Nat) : Int)), vg], .blk bc 39 [.int .i64 (((pn : Nat) : Int)), vc], .blk bf 4 [.bool (σ.2.2)], .blk bb 48 [v1, v2], .own v1 3 1 (σ.1.length) (ints σ.1), .own v2 101 3 (σ.2.1.length) (ints (fl3 σ.2.1))]) w w [.blk bg 35 [.int .i64 (((N : Nat) : Int)), vg], .blk bc 39 [.int .i64 (((pn : Nat) : Int)), vc], .blk bf 4 [.bool (σ.2.2)], .blk bb 48 [v1, v2], .own v1 3 1 (σ.1.length) (ints σ.1), .own v2 101 3 (σ.2.1.length) (ints (fl3 σ.2.1))]) : Calls Try.prog 45 #[.int .i64 (N : Nat), .int .i64 (pn : Nat), .func (.func 46) #[] #[.pointer (some ⟨bg, 0, none⟩), .pointer (some ⟨bc, 0, none⟩), .pointer (some ⟨bf, 0, none⟩), .pointer (some ⟨bb, 0, none⟩)]] w (Post (Of [.blk bg 35 [.int .i64 (((N : Nat) : Int)), vg], .blk bc 39 [.int .i64 (((pn : Nat) : Int)), vc], .blk bf 4 [.bool (σ.2.2)], .blk bb 48 [v1, v2], .own v1 3 1 (σ.1.length) (ints σ.1), .own v2 101 3 (σ.2.1.length) (ints (fl3 σ.2.1))]) w fun v H => ∃ v1' v2', v = .tuple #[] ∧ H = [.blk bg 35 [.int .i64 (((N : Nat) : Int)), vg], .blk bc 39 [.int .i64 (((pn : Nat) : Int)), vc], .blk bf 4 [.bool (((plS N pn []).foldl (bstep M N es m pn xs n pn) σ).2.2)], .blk bb 48 [v1', v2'], .own v1' 3 1 (((plS N pn []).foldl (bstep M N es m pn xs n pn) σ).1.length) (ints ((plS N pn []).foldl (bstep M N es m pn xs n pn) σ).1), .own v2' 101 3 (((plS N pn []).foldl (bstep M N es m pn xs n pn) σ).2.1.length) (ints (fl3 ((plS N pn []).foldl (bstep M N es m pn xs n pn) σ).2.1))]) := by
  refine enter (n := 12) (args := [.int .i64 (((N : Nat) : Int)), .int .i64 (((pn : Nat) : Int)), .func (.func 46) #[] #[.pointer (some ⟨bg, 0, none⟩), .pointer (some ⟨bc, 0, none⟩), .pointer (some ⟨bf, 0, none⟩), .pointer (some ⟨bb, 0, none⟩)]]) Try.func45 rfl rfl (hst) ?_
  refine Run.seq ?_
  refine Run.region ?_
  refine Run.step rfl (OpStep.box (us := [.int .i64 (((N : Nat) : Int))]) rfl fun b1 => ?_)
  refine Run.step rfl (OpStep.box (us := [.int .i64 (((pn : Nat) : Int))]) rfl fun b2 => ?_)
  refine Run.step rfl (OpStep.box (us := [.func (.func 46) #[] #[.pointer (some ⟨bg, 0, none⟩), .pointer (some ⟨bc, 0, none⟩), .pointer (some ⟨bf, 0, none⟩), .pointer (some ⟨bb, 0, none⟩)]]) rfl fun b3 => ?_)
  refine Run.done ?_
  refine Run.seq ?_
  refine Run.region ?_
  refine Run.step rfl (OpStep.buildSlice (us := []) Tsl_28 (by decide) (by decide) rfl rfl fun b4 => ?_)
  refine Run.step rfl (OpStep.alloc (zs := [.slice none 0 0]) Tzero_28 fun b5 => ?_)
  refine Run.step rfl (OpStep.storeAll (us := [.slice (some ⟨b4, 0, none⟩) 0 0]) Tsize_28 rfl rfl rfl (.here _) rfl ?_)
  refine Run.done ?_
  refine Run.seq ?_
  refine Run.region ?_
  refine Run.step rfl (OpStep.alloc (zs := [.nilFunc]) Tzero_1 fun b6 => ?_)
  refine Run.done ?_
  refine Run.seq ?_
  refine Run.region ?_
  refine Run.q (v := .func (.func 71) #[] #[.pointer (some ⟨b5, 0, none⟩), .pointer (some ⟨b2, 0, none⟩), .pointer (some ⟨b3, 0, none⟩), .pointer (some ⟨b1, 0, none⟩), .pointer (some ⟨b6, 0, none⟩)]) rfl (OpQ.y (OpY.makeFunc (caps := [.pointer (some ⟨b5, 0, none⟩), .pointer (some ⟨b2, 0, none⟩), .pointer (some ⟨b3, 0, none⟩), .pointer (some ⟨b1, 0, none⟩), .pointer (some ⟨b6, 0, none⟩)]) rfl)) ?_
  refine Run.step rfl (OpStep.storeAll (us := [.func (.func 71) #[] #[.pointer (some ⟨b5, 0, none⟩), .pointer (some ⟨b2, 0, none⟩), .pointer (some ⟨b3, 0, none⟩), .pointer (some ⟨b1, 0, none⟩), .pointer (some ⟨b6, 0, none⟩)]]) Tsize_1 rfl rfl rfl (.here _) rfl ?_)
  refine Run.done ?_
  refine Run.region ?_
  refine Run.q (v := .func (.func 71) #[] #[.pointer (some ⟨b5, 0, none⟩), .pointer (some ⟨b2, 0, none⟩), .pointer (some ⟨b3, 0, none⟩), .pointer (some ⟨b1, 0, none⟩), .pointer (some ⟨b6, 0, none⟩)]) rfl (OpQ.y (OpY.load1 Tone_1 rfl (Cells.blk (.head _) ⟨rfl, trivial⟩))) ?_
  refine Run.step rfl (OpStep.callM (H1 := [.blk b5 28 [.slice (some ⟨b4, 0, none⟩) 0 0], .own (.slice (some ⟨b4, 0, none⟩) 0 0) 3 1 0 ([]), .blk b2 3 [.int .i64 (((pn : Nat) : Int))], .blk b3 75 [.func (.func 46) #[] #[.pointer (some ⟨bg, 0, none⟩), .pointer (some ⟨bc, 0, none⟩), .pointer (some ⟨bf, 0, none⟩), .pointer (some ⟨bb, 0, none⟩)]], .blk b1 3 [.int .i64 (((N : Nat) : Int))], .blk b6 1 [.func (.func 71) #[] #[.pointer (some ⟨b5, 0, none⟩), .pointer (some ⟨b2, 0, none⟩), .pointer (some ⟨b3, 0, none⟩), .pointer (some ⟨b1, 0, none⟩), .pointer (some ⟨b6, 0, none⟩)]], .blk bg 35 [.int .i64 (((N : Nat) : Int)), vg], .blk bc 39 [.int .i64 (((pn : Nat) : Int)), vc], .blk bf 4 [.bool (σ.2.2)], .blk bb 48 [v1, v2], .own v1 3 1 (σ.1.length) (ints σ.1), .own v2 101 3 (σ.2.1.length) (ints (fl3 σ.2.1))]) (H2 := []) (vs := [.pointer (some ⟨b5, 0, none⟩), .pointer (some ⟨b2, 0, none⟩), .pointer (some ⟨b3, 0, none⟩), .pointer (some ⟨b1, 0, none⟩), .pointer (some ⟨b6, 0, none⟩)]) (caps := [.pointer (some ⟨b5, 0, none⟩), .pointer (some ⟨b2, 0, none⟩), .pointer (some ⟨b3, 0, none⟩), .pointer (some ⟨b1, 0, none⟩), .pointer (some ⟨b6, 0, none⟩)]) Tcall_71 rfl rfl (Weak.selF [1, 1, 2, 1, 1, 0, 0, 0, 0, 0, 0, 0]) (fun w hs => best_spec pn (l := []) hM hpn hN (by simp) (Ap.ap hg hs) (Ap.ap hc hs) (hs.sub (List.sublist_append_left _ _)).self) ?_)
  rintro _ _ ⟨vl3, w3, w4, rfl, rfl⟩
  show Run _ _ (putF _ _ _ (.tuple #[])) [.blk b5 28 [vl3], .own vl3 3 1 ((([] : List Int)).length) (ints (([] : List Int))), .blk b2 3 [.int .i64 (((pn : Nat) : Int))], .blk b3 75 [.func (.func 46) #[] #[.pointer (some ⟨bg, 0, none⟩), .pointer (some ⟨bc, 0, none⟩), .pointer (some ⟨bf, 0, none⟩), .pointer (some ⟨bb, 0, none⟩)]], .blk b1 3 [.int .i64 (((N : Nat) : Int))], .blk b6 1 [.func (.func 71) #[] #[.pointer (some ⟨b5, 0, none⟩), .pointer (some ⟨b2, 0, none⟩), .pointer (some ⟨b3, 0, none⟩), .pointer (some ⟨b1, 0, none⟩), .pointer (some ⟨b6, 0, none⟩)]], .blk bg 35 [.int .i64 (((N : Nat) : Int)), vg], .blk bc 39 [.int .i64 (((pn : Nat) : Int)), vc], .blk bf 4 [.bool (((plS N pn []).foldl (bstep M N es m pn xs n pn) σ).2.2)], .blk bb 48 [w3, w4], .own w3 3 1 (((plS N pn []).foldl (bstep M N es m pn xs n pn) σ).1.length) (ints ((plS N pn []).foldl (bstep M N es m pn xs n pn) σ).1), .own w4 101 3 (((plS N pn []).foldl (bstep M N es m pn xs n pn) σ).2.1.length) (ints (fl3 ((plS N pn []).foldl (bstep M N es m pn xs n pn) σ).2.1))]
  refine Run.done ?_
  refine Run.fin ?_
  refine ⟨.tuple #[], [.blk bg 35 [.int .i64 (((N : Nat) : Int)), vg], .blk bc 39 [.int .i64 (((pn : Nat) : Int)), vc], .blk bf 4 [.bool (((plS N pn []).foldl (bstep M N es m pn xs n pn) σ).2.2)], .blk bb 48 [w3, w4], .own w3 3 1 (((plS N pn []).foldl (bstep M N es m pn xs n pn) σ).1.length) (ints ((plS N pn []).foldl (bstep M N es m pn xs n pn) σ).1), .own w4 101 3 (((plS N pn []).foldl (bstep M N es m pn xs n pn) σ).2.1.length) (ints (fl3 ((plS N pn []).foldl (bstep M N es m pn xs n pn) σ).2.1))], Out.none rfl, (Some'.weak (.skip (.skip (.skip (.skip (.skip (.skip (.take (.take (.take (.take (.take (.take (.nil _)))))))))))))), ?_⟩
  exact ⟨_, _, rfl, rfl⟩

set_option maxHeartbeats 2000000 in
set_option maxRecDepth 20000 in
theorem BestRoute_yes {M N pn : Nat} {vg vc : Value} {m n : Nat} {es xs : List Int} {w : World} (hM : 12800000 < M) (hsm : smB (N : Int) es m (pn : Int) xs n = true) (hg : Sl w vg 2 m (ints es)) (hc : Sl w vc 3 n (ints xs)) : Calls Try.prog 25 #[.agg #[.int .i64 (N : Nat), vg], .agg #[.int .i64 (pn : Nat), vc]] w (Post No w fun v H => ∃ v1 v2, v = .tuple #[.agg #[v1, v2], .bool (brB M N es m pn xs n)] ∧ H = [.own v1 3 1 (brS M N es m pn xs n).length (ints (brS M N es m pn xs n)), .own v2 101 3 (brL M N es m pn xs n).length (ints (fl3 (brL M N es m pn xs n)))]) := by
  have hF := smF_of hsm
  have hFN := hF.hN
  have hFQ := hF.hQ
  refine enter (n := 22) (args := [.agg #[.int .i64 (((N : Nat) : Int)), vg], .agg #[.int .i64 (((pn : Nat) : Int)), vc]]) Try.func25 rfl rfl (St.empty _ _) ?_
  refine Run.seq ?_
  refine Run.region ?_
  refine Run.step rfl (OpStep.box (us := [.int .i64 (((N : Nat) : Int)), vg]) rfl fun b1 => ?_)
  refine Run.step rfl (OpStep.box (us := [.int .i64 (((pn : Nat) : Int)), vc]) rfl fun b2 => ?_)
  refine Run.step rfl (OpStep.alloc (zs := [.slice none 0 0, .slice none 0 0]) Tzero_48 fun b3 => ?_)
  refine Run.q (v := .bool false) rfl (OpQ.y (OpY.pure rfl)) ?_
  refine Run.done ?_
  refine Run.seq ?_
  refine Run.seq ?_
  refine Run.region ?_
  refine Run.q (v := .agg #[.int .i64 (((N : Nat) : Int)), vg]) rfl (OpQ.y (OpY.loadN (cs := [.int .i64 (((N : Nat) : Int)), vg]) Tagg_35 rfl (Cells.blk (.tail _ (.tail _ (List.Mem.head _))) ⟨rfl, rfl, trivial⟩))) ?_
  refine Run.q (v := .agg #[.int .i64 (((pn : Nat) : Int)), vc]) rfl (OpQ.y (OpY.loadN (cs := [.int .i64 (((pn : Nat) : Int)), vc]) Tagg_39 rfl (Cells.blk (.tail _ (List.Mem.head _)) ⟨rfl, rfl, trivial⟩))) ?_
  refine Run.q (v := .bool true) rfl (OpQ.call (vs := [.agg #[.int .i64 (((N : Nat) : Int)), vg], .agg #[.int .i64 (((pn : Nat) : Int)), vc]]) (caps := []) Tcall_44 rfl rfl (fun w hs => (by have h := canSearch_spec (N := (N : Int)) (Q := (pn : Int)) (hs.sl hg) (hs.sl hc); rw [hsm] at h; exact h))) ?_
  refine Run.q (v := .bool false) rfl (OpQ.y (OpY.pure rfl)) ?_
  refine Run.done ?_
  refine Run.cond (b := false) rfl (fun h => nomatch h) (fun _ => ?_)
  refine Run.skip ?_
  refine Run.seq ?_
  refine Run.region ?_
  refine Run.q (v := .agg #[.slice none 0 0, .slice none 0 0]) rfl (OpQ.y (OpY.build (cs := [.slice none 0 0, .slice none 0 0]) (by kernel_rfl))) ?_
  refine Run.step rfl (OpStep.alloc (zs := [.slice none 0 0, .slice none 0 0]) Tzero_48 fun b4 => ?_)
  refine Run.step rfl (OpStep.alloc (zs := [.bool false]) Tzero_4 fun b5 => ?_)
  refine Run.step rfl (OpStep.storeAll (us := [.slice none 0 0, .slice none 0 0]) Tsize_48 rfl rfl rfl (.there _ (.here _)) rfl ?_)
  refine Run.step rfl (OpStep.storeAll (us := [.bool false]) Tsize_4 rfl rfl rfl (.here _) rfl ?_)
  refine Run.done ?_
  refine Run.seq ?_
  refine Run.weak (H' := [.own (.slice none 0 0) 101 3 0 (ints (fl3 [])), .blk b5 4 [.bool false], .blk b4 48 [.slice none 0 0, .slice none 0 0], .blk b3 48 [.slice none 0 0, .slice none 0 0], .blk b2 39 [.int .i64 (((pn : Nat) : Int)), vc], .blk b1 35 [.int .i64 (((N : Nat) : Int)), vg]]) (Weak.nilOwn _ _) ?_ ⟨_, _, rfl, fun _ => nofun, fun _ => nofun⟩
  refine Run.weak (H' := [.own (.slice none 0 0) 3 1 0 (ints []), .own (.slice none 0 0) 101 3 0 (ints (fl3 [])), .blk b5 4 [.bool false], .blk b4 48 [.slice none 0 0, .slice none 0 0], .blk b3 48 [.slice none 0 0, .slice none 0 0], .blk b2 39 [.int .i64 (((pn : Nat) : Int)), vc], .blk b1 35 [.int .i64 (((N : Nat) : Int)), vg]]) (Weak.nilOwn _ _) ?_ ⟨_, _, rfl, fun _ => nofun, fun _ => nofun⟩
  refine Run.region ?_
  refine Run.q (v := .pointer (some ⟨b1, 0, none⟩)) rfl (OpQ.y (OpY.fieldAddr Tfo_35_0 rfl rfl)) ?_
  refine Run.q (v := .int .i64 (((N : Nat) : Int))) rfl (OpQ.y (OpY.load1 Tone_3 rfl (Cells.blk (.tail _ (.tail _ (.tail _ (.tail _ (.tail _ (.tail _ (List.Mem.head _))))))) ⟨rfl, trivial⟩))) ?_
  refine Run.q (v := .pointer (some ⟨b2, 0, none⟩)) rfl (OpQ.y (OpY.fieldAddr Tfo_39_0 rfl rfl)) ?_
  refine Run.q (v := .int .i64 (((pn : Nat) : Int))) rfl (OpQ.y (OpY.load1 Tone_3 rfl (Cells.blk (.tail _ (.tail _ (.tail _ (.tail _ (.tail _ (List.Mem.head _)))))) ⟨rfl, trivial⟩))) ?_
  refine Run.q (v := .func (.func 46) #[] #[.pointer (some ⟨b1, 0, none⟩), .pointer (some ⟨b2, 0, none⟩), .pointer (some ⟨b5, 0, none⟩), .pointer (some ⟨b4, 0, none⟩)]) rfl (OpQ.y (OpY.makeFunc (caps := [.pointer (some ⟨b1, 0, none⟩), .pointer (some ⟨b2, 0, none⟩), .pointer (some ⟨b5, 0, none⟩), .pointer (some ⟨b4, 0, none⟩)]) rfl)) ?_
  refine Run.step rfl (OpStep.callM (H1 := [.blk b1 35 [.int .i64 (((N : Nat) : Int)), vg], .blk b2 39 [.int .i64 (((pn : Nat) : Int)), vc], .blk b5 4 [.bool false], .blk b4 48 [.slice none 0 0, .slice none 0 0], .own (.slice none 0 0) 3 1 0 (ints []), .own (.slice none 0 0) 101 3 0 (ints (fl3 []))]) (H2 := [.blk b3 48 [.slice none 0 0, .slice none 0 0]]) (vs := [.int .i64 (((N : Nat) : Int)), .int .i64 (((pn : Nat) : Int)), .func (.func 46) #[] #[.pointer (some ⟨b1, 0, none⟩), .pointer (some ⟨b2, 0, none⟩), .pointer (some ⟨b5, 0, none⟩), .pointer (some ⟨b4, 0, none⟩)]]) (caps := []) Tcall_45 rfl rfl (Weak.selF [6, 5, 2, 2, 0, 0]) (fun w hs => bestPlacements_spec (σ := (([], [], false) : Best)) hM (by omega) (by omega) (Ap.arg hg hs) (Ap.arg hc hs) (hs.sub (List.sublist_append_left _ _)).self) ?_)
  rintro _ _ ⟨w3, w4, rfl, rfl⟩
  show Run _ _ (putF _ _ _ (.tuple #[])) [.blk b1 35 [.int .i64 (((N : Nat) : Int)), vg], .blk b2 39 [.int .i64 (((pn : Nat) : Int)), vc], .blk b5 4 [.bool (((plS N pn []).foldl (bstep M N es m pn xs n pn) (([], [], false) : Best)).2.2)], .blk b4 48 [w3, w4], .own w3 3 1 (((plS N pn []).foldl (bstep M N es m pn xs n pn) (([], [], false) : Best)).1.length) (ints ((plS N pn []).foldl (bstep M N es m pn xs n pn) (([], [], false) : Best)).1), .own w4 101 3 (((plS N pn []).foldl (bstep M N es m pn xs n pn) (([], [], false) : Best)).2.1.length) (ints (fl3 ((plS N pn []).foldl (bstep M N es m pn xs n pn) (([], [], false) : Best)).2.1)), .blk b3 48 [.slice none 0 0, .slice none 0 0]]
  refine Run.done ?_
  rw [br_fold hM hsm]
  show Run _ _ _ [.blk b1 35 [.int .i64 (((N : Nat) : Int)), vg], .blk b2 39 [.int .i64 (((pn : Nat) : Int)), vc], .blk b5 4 [.bool (brB M N es m pn xs n)], .blk b4 48 [w3, w4], .own w3 3 1 ((brS M N es m pn xs n).length) (ints (brS M N es m pn xs n)), .own w4 101 3 ((brL M N es m pn xs n).length) (ints (fl3 (brL M N es m pn xs n))), .blk b3 48 [.slice none 0 0, .slice none 0 0]]
  refine Run.seq ?_
  refine Run.formOwn (.tail _ (.tail _ (.tail _ (.tail _ (List.Mem.head _))))) (fun A_w31 c_w31 hv hcapc_w31 hmaxc_w31 => ?_) (fun _ _ _ => ⟨nofun, nofun, nofun⟩)
  subst hv
  refine Run.formOwn (.tail _ (.tail _ (.tail _ (.tail _ (.tail _ (List.Mem.head _)))))) (fun A_w41 c_w41 hv hcapc_w41 hmaxc_w41 => ?_) (fun _ _ _ => ⟨nofun, nofun, nofun⟩)
  subst hv
  refine Run.heldB (base := [.blk b1 35 [.int .i64 (((N : Nat) : Int)), vg], .blk b2 39 [.int .i64 (((pn : Nat) : Int)), vc], .blk b5 4 [.bool (brB M N es m pn xs n)], .blk b4 48 [.slice A_w31 ((brS M N es m pn xs n).length) c_w31, .slice A_w41 ((brL M N es m pn xs n).length) c_w41]]) (by kernel_rfl) ?_
  refine DW.take (i := 0) (v := .agg #[.slice A_w31 ((brS M N es m pn xs n).length) c_w31, .slice A_w41 ((brL M N es m pn xs n).length) c_w41]) rfl (by kernel_rfl) (by kernel_rfl) (by kernel_rfl) (fun _ _ _ h => h) (Some'.weak (.take (.take (.take (.take (.nil _)))))) rfl (OpY.loadN (cs := [.slice A_w31 ((brS M N es m pn xs n).length) c_w31, .slice A_w41 ((brL M N es m pn xs n).length) c_w41]) Tagg_48 rfl (Cells.blk (.tail _ (.tail _ (.tail _ (List.Mem.head _)))) ⟨rfl, rfl, trivial⟩)) ?_
  refine DW.take (i := 1) (v := .bool (brB M N es m pn xs n)) rfl (by kernel_rfl) (by kernel_rfl) (by kernel_rfl) (fun _ _ _ h => h) (Some'.weak (.take (.take (.take (.take (.nil _)))))) rfl (OpY.load1 Tone_4 rfl (Cells.blk (.tail _ (.tail _ (List.Mem.head _))) ⟨rfl, trivial⟩)) ?_
  refine DW.step (i := 2) (by kernel_rfl) rfl rfl (OpStep.storeAll (us := [.slice A_w31 ((brS M N es m pn xs n).length) c_w31, .slice A_w41 ((brL M N es m pn xs n).length) c_w41]) Tsize_48 rfl rfl rfl (.there _ (.there _ (.there _ (.there _ (.there _ (.there _ (.here _))))))) rfl ?_)
  refine ⟨(Some'.weak (.take (.take (.take (.take (.nil _)))))), ?_⟩
  refine DW.take (i := 3) (v := .bool (brB M N es m pn xs n)) rfl (by kernel_rfl) (by kernel_rfl) (by kernel_rfl) (fun _ _ _ h => h) (Some'.weak (.take (.take (.take (.take (.nil _)))))) rfl (OpY.pure rfl) ?_
  refine DW.done (by kernel_rfl) ?_
  refine Run.ret ?_
  refine ⟨.tuple #[.agg #[.slice A_w31 ((brS M N es m pn xs n).length) c_w31, .slice A_w41 ((brL M N es m pn xs n).length) c_w41], .bool (brB M N es m pn xs n)], [.own (.slice A_w31 ((brS M N es m pn xs n).length) c_w31) 3 1 ((brS M N es m pn xs n).length) (ints (brS M N es m pn xs n)), .own (.slice A_w41 ((brL M N es m pn xs n).length) c_w41) 101 3 ((brL M N es m pn xs n).length) (ints (fl3 (brL M N es m pn xs n)))], Out.cell2 (cs := [.slice A_w31 ((brS M N es m pn xs n).length) c_w31, .slice A_w41 ((brL M N es m pn xs n).length) c_w41]) rfl Tagg_48 rfl (Cells.blk (.tail _ (.tail _ (.tail _ (.tail _ (.tail _ (.tail _ (List.Mem.head _))))))) ⟨rfl, rfl, trivial⟩) rfl, (Some'.weak (.skip (.skip (.skip (.skip (.take (.take (.nil _)))))))), ?_⟩
  exact ⟨_, _, rfl, rfl⟩

set_option maxHeartbeats 2000000 in
set_option maxRecDepth 20000 in
theorem BestRoute_no {M : Nat} {N Q : Int} {vg vc : Value} {m n : Nat} {es xs : List Int} {w : World} (hsm : smB N es m Q xs n = false) (hg : Sl w vg 2 m (ints es)) (hc : Sl w vc 3 n (ints xs)) : Calls Try.prog 25 #[.agg #[.int .i64 N, vg], .agg #[.int .i64 Q, vc]] w (Post No w fun v H => ∃ v1 v2, v = .tuple #[.agg #[v1, v2], .bool (brB M N es m Q xs n)] ∧ H = [.own v1 3 1 (brS M N es m Q xs n).length (ints (brS M N es m Q xs n)), .own v2 101 3 (brL M N es m Q xs n).length (ints (fl3 (brL M N es m Q xs n)))]) := by
  have hno := br_no (M := M) hsm
  refine enter (n := 22) (args := [.agg #[.int .i64 N, vg], .agg #[.int .i64 Q, vc]]) Try.func25 rfl rfl (St.empty _ _) ?_
  refine Run.seq ?_
  refine Run.region ?_
  refine Run.step rfl (OpStep.box (us := [.int .i64 N, vg]) rfl fun b1 => ?_)
  refine Run.step rfl (OpStep.box (us := [.int .i64 Q, vc]) rfl fun b2 => ?_)
  refine Run.step rfl (OpStep.alloc (zs := [.slice none 0 0, .slice none 0 0]) Tzero_48 fun b3 => ?_)
  refine Run.q (v := .bool false) rfl (OpQ.y (OpY.pure rfl)) ?_
  refine Run.done ?_
  refine Run.seq ?_
  refine Run.seq ?_
  refine Run.region ?_
  refine Run.q (v := .agg #[.int .i64 N, vg]) rfl (OpQ.y (OpY.loadN (cs := [.int .i64 N, vg]) Tagg_35 rfl (Cells.blk (.tail _ (.tail _ (List.Mem.head _))) ⟨rfl, rfl, trivial⟩))) ?_
  refine Run.q (v := .agg #[.int .i64 Q, vc]) rfl (OpQ.y (OpY.loadN (cs := [.int .i64 Q, vc]) Tagg_39 rfl (Cells.blk (.tail _ (List.Mem.head _)) ⟨rfl, rfl, trivial⟩))) ?_
  refine Run.q (v := .bool false) rfl (OpQ.call (vs := [.agg #[.int .i64 N, vg], .agg #[.int .i64 Q, vc]]) (caps := []) Tcall_44 rfl rfl (fun w hs => (by have h := canSearch_spec (N := (N : Int)) (Q := (Q : Int)) (hs.sl hg) (hs.sl hc); rw [hsm] at h; exact h))) ?_
  refine Run.q (v := .bool true) rfl (OpQ.y (OpY.pure rfl)) ?_
  refine Run.done ?_
  refine Run.cond (b := true) rfl (fun _ => ?_) (fun h => nomatch h)
  refine Run.seq ?_
  refine Run.region ?_
  refine Run.q (v := .agg #[.slice none 0 0, .slice none 0 0]) rfl (OpQ.y (OpY.build (cs := [.slice none 0 0, .slice none 0 0]) (by kernel_rfl))) ?_
  refine Run.step rfl (OpStep.storeAll (us := [.slice none 0 0, .slice none 0 0]) Tsize_48 rfl rfl rfl (.here _) rfl ?_)
  refine Run.q (v := .bool false) rfl (OpQ.y (OpY.pure rfl)) ?_
  refine Run.done ?_
  refine Run.ret ?_
  refine ⟨.tuple #[.agg #[.slice none 0 0, .slice none 0 0], .bool false], [.own (.slice none 0 0) 3 1 0 ([]), .own (.slice none 0 0) 101 3 0 ([])], Out.cell2 (cs := [.slice none 0 0, .slice none 0 0]) rfl Tagg_48 rfl (Cells.blk (.head _) ⟨rfl, rfl, trivial⟩) rfl, ((Weak.nilOwn 101 3).trans ((Weak.nilOwn 3 1).trans (Some'.weak (.take (.take (.nil _)))))), ?_⟩
  exact ⟨_, _, by rw [hno.1], by rw [hno.2.1, hno.2.2]; rfl⟩

theorem BestRoute_spec {M : Nat} {N Q : Int} {vg vc : Value} {m n : Nat} {es xs : List Int} {w : World} (hM : 12800000 < M) (hg : Sl w vg 2 m (ints es)) (hc : Sl w vc 3 n (ints xs)) : Calls Try.prog 25 #[.agg #[.int .i64 N, vg], .agg #[.int .i64 Q, vc]] w (Post No w fun v H => ∃ v1 v2, v = .tuple #[.agg #[v1, v2], .bool (brB M N es m Q xs n)] ∧ H = [.own v1 3 1 (brS M N es m Q xs n).length (ints (brS M N es m Q xs n)), .own v2 101 3 (brL M N es m Q xs n).length (ints (fl3 (brL M N es m Q xs n)))]) := by
  cases hsm : smB N es m Q xs n with
  | false => exact BestRoute_no hsm hg hc
  | true =>
    have hF := smF_of hsm
    obtain ⟨N', rfl⟩ : ∃ k : Nat, N = k := ⟨N.toNat, by have := hF.hN; omega⟩
    obtain ⟨pn, rfl⟩ : ∃ k : Nat, Q = k := ⟨Q.toNat, by have := hF.hQ; omega⟩
    exact BestRoute_yes hM hsm hg hc

end Go.Proofs.Ytekikmdjldincaa
