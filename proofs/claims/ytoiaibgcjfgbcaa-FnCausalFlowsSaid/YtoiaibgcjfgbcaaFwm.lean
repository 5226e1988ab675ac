/- Plain laws: a causal flow that is found. -/
import Derived.Test.YtoiaibgcjfgbcaaFwh
import Derived.Test.YtoiaibgcjfgbcaaFwi
set_option linter.unusedSimpArgs false
set_option linter.unusedVariables false
namespace Go.Proofs.Ytoiaibgcjfgbcaa
open Go Go.RowKit

structure CfOk (es : List Int) (m n : Nat) (is : List Int) (ni : Nat) (os : List Int) (no : Nat) : Prop where
  hg : ogB n es m is ni os no = true
  la : (cfA es m n is ni os no).length = n
  ll : (cfL es m n is ni os no).length = n
  fl : flB es m n is ni os no (cfA es m n is ni os no) n (cfL es m n is ni os no) n = true
  gf : gfB es m n is ni os no (setsL (cfA es m n is ni os no) n) n (cfL es m n is ni os no) n = true
  ge : (gfO es m n is ni os no).isSome = true
  nx : NxI (cfA es m n is ni os no) (cfL es m n is ni os no) n
  ln : (chN (cfA es m n is ni os no) n n).length = no
theorem gf_found {es : List Int} {m n : Nat} {is : List Int} {ni : Nat} {os : List Int} {no nn nl : Nat} {F L : List Int} (h : (ogB n es m is ni os no && gfB es m n is ni os no F nn L nl) = true) : (gfO es m n is ni os no).isSome = true := by
  rw [Bool.and_eq_true] at h
  obtain ⟨hn1, hn10, hes, hri, hro⟩ := og_ok h.1
  have st := GfI.start h.1
  have h2 := (gfR_ok (ris_pos hri) (n + 1) 1 _ _ (Nat.le_refl _) st.fl st.cnt).2 F nn L nl h.2
  rw [st.run] at h2
  exact Option.isSome_iff_ne_none.2 h2
theorem cf_found {es : List Int} {m n : Nat} {is : List Int} {ni : Nat} {os : List Int} {no nn nl : Nat} {F L : List Int} (h : (ogB n es m is ni os no && flB es m n is ni os no F nn L nl) = true) : (cfO es m n is ni os no).isSome = true := by
  rw [Bool.and_eq_true] at h
  obtain ⟨hn1, hn10, hes, hri, hro⟩ := og_ok h.1
  have st := CfI.start h.1
  have h2 := (cfR_ok hes (n + 1) 1 _ _ (Nat.le_refl _) st.fl st.cnt).2 F nn L nl h.2
  rw [st.run] at h2
  exact Option.isSome_iff_ne_none.2 h2
theorem cf_ok {es : List Int} {m n : Nat} {is : List Int} {ni : Nat} {os : List Int} {no : Nat} (h : (cfO es m n is ni os no).isSome = true) : CfOk es m n is ni os no := by
  obtain ⟨⟨nx, ly⟩, hO⟩ := Option.isSome_iff_exists.1 h
  have hg : ogB n es m is ni os no = true := by
    cases hb : ogB n es m is ni os no with
    | true => rfl
    | false => rw [cf_bad hb] at hO; cases hO
  obtain ⟨hn1, hn10, hes, hri, hro⟩ := og_ok hg
  obtain ⟨eA, eL, _⟩ := cf_some hO
  have st := CfI.start hg
  have hc := st.cnt
  obtain ⟨hf, h0⟩ := (cfR_ok hes (n + 1) 1 _ _ (Nat.le_refl _) st.fl st.cnt).1 (nx, ly) (st.run.trans hO)
  dsimp only at hf h0
  have hk : 1 + cntU (ly0 os no n) n ≤ 101 := by omega
  have hfl := fl_sound hes hk hf h0
  have hgf := fl_gf hes (ris_pos hri) hfl
  have hN := FlI.nxI hk hf h0
  have hp := unl_zero.1 h0
  have hln : (chN nx n n).length = no := by
    rw [ch_outs hN]
    refine Eq.trans (congrArg List.length (List.filter_congr fun v hv => ?_)) (ris_len hro)
    rw [List.mem_range] at hv
    have ho := hf.out v hv
    have hd := hf.dom v hv
    have hpv := hp v hv
    cases hb : hasI os (v : Int) no with
    | true =>
      have h1 := hf.nxo v hv (by have := ho.1 hb; omega)
      simp [h1]
    | false =>
      have h1 : ix ly v ≠ 0 := fun e => by rw [ho.2 e] at hb; cases hb
      obtain ⟨u, _, h2, _⟩ := hf.nxs v hv (by omega)
      rw [h2]; simp
  refine ⟨hg, by rw [eA]; exact hf.ln, by rw [eL]; exact hf.ll, by rw [eA, eL]; exact hfl, by rw [eA, eL]; exact hgf, gf_found (by rw [hg, hgf]; rfl), by rw [eA, eL]; exact hN, by rw [eA]; exact hln⟩
/-- How often each node has been met. -/
def metL (cs : List (List Int)) (c : List Int) (n : Nat) : List Int := mapN (fun w => ((cntF (w : Int) cs + c.count (w : Int) : Nat) : Int)) n
@[simp] theorem metL_length (cs : List (List Int)) (c : List Int) (n : Nat) : (metL cs c n).length = n := by simp [metL]
theorem metL_zero (n : Nat) : metL [] [] n = List.replicate n 0 := by
  have e : (fun w : Nat => ((cntF (w : Int) [] + ([] : List Int).count (w : Int) : Nat) : Int)) = fun _ => 0 := by funext w; simp [cntF]
  rw [metL, e, mapN]; exact List.map_const' .. |>.trans (by simp)
theorem metL_next (cs : List (List Int)) (c : List Int) (n : Nat) : metL (cs ++ [c]) [] n = metL cs c n := mapN_ext fun w _ => by rw [cntF_append]; simp [cntF]
theorem metL_put {cs : List (List Int)} {c : List Int} {n u : Nat} (hu : u < n) : (metL cs c n).set u (ix (metL cs c n) u + 1) = metL cs (c ++ [(u : Int)]) n := by
  refine eq_mapN (by simp) fun w hw => ?_
  rw [ix_lset (by simpa using hu)]
  by_cases e : w = u
  · subst e; rw [if_pos rfl, metL, ix_mapN hu, List.count_append]; simp; omega
  · rw [if_neg e, metL, ix_mapN hw, List.count_append]
    have : ¬ (u : Int) = (w : Int) := by omega
    simp [List.count_cons, this]
theorem ix_metL {cs : List (List Int)} {c : List Int} {n u : Nat} (hu : u < n) : ix (metL cs c n) u = ((cntF (u : Int) cs + c.count (u : Int) : Nat) : Int) := ix_mapN hu
theorem count_le_len (w : Int) (c : List Int) : c.count w ≤ c.length := List.count_le_length
theorem take_ix {c : List Int} {j : Nat} (h : j < c.length) : c.take (j + 1) = c.take j ++ [ix c j] := by
  rw [List.take_succ_eq_append_getElem h]; simp [ix, List.getD, h]
theorem take_lx {ps : List (Value × List Int)} {k : Nat} (h : k < ps.length) : (ps.map (·.2)).take (k + 1) = (ps.map (·.2)).take k ++ [lx ps k] := by
  rw [List.take_succ_eq_append_getElem (by simpa using h)]; simp [lx, List.getD, h]
theorem chN_mem {nx : List Int} {n : Nat} {c : List Int} : ∀ k, c ∈ chN nx n k → ∃ v : Nat, v < k ∧ c = chL nx 102 (v : Int)
  | 0, h => by simp [chN] at h
  | k + 1, h => by
    rw [chN] at h
    rcases List.mem_append.1 h with h | h
    · obtain ⟨v, hv, e⟩ := chN_mem k h; exact ⟨v, by omega, e⟩
    · split at h
      · cases h
      · simp only [List.mem_cons, List.not_mem_nil, or_false] at h; exact ⟨k, by omega, h⟩
theorem chain_at {nx ly : List Int} {n : Nat} (h : NxI nx ly n) {c : List Int} (hc : c ∈ chN nx n n) : 0 < c.length ∧ c.length ≤ 102 ∧ ∀ j, j < c.length → 0 ≤ ix c j ∧ ix c j < n := by
  obtain ⟨v, hv, rfl⟩ := chN_mem n hc
  refine ⟨?_, ch_len _ _ _, fun j hj => ch_mem h _ _ (.inr (by omega)) _ (ix_mem hj)⟩
  rw [show (102 : Nat) = 101 + 1 from rfl, chL, if_neg (by omega)]; simp
theorem cntF_le (w : Int) : ∀ cs : List (List Int), (∀ c ∈ cs, c.length ≤ 102) → cntF w cs ≤ 102 * cs.length
  | [], _ => by simp [cntF]
  | c :: cs, h => by
    have h1 := cntF_le w cs fun x hx => h x (.tail _ hx)
    have h2 := h c (.head _)
    have h3 : c.count w ≤ c.length := List.count_le_length
    have h4 : cntF w (c :: cs) = c.count w + cntF w cs := by simp [cntF]
    rw [h4, List.length_cons]; omega
theorem Run.lenOf {E : Env} {k : List It} {f : Fr} {H : List Res} {e : TypeId} {v : Value} {n : Nat} {xs : List Int} (hm : Res.own v e 1 n (ints xs) ∈ H) (h : xs.length = n → Run E k f H) (hk : ∀ G i k', k ≠ .goal G :: k' ∧ k ≠ .block i :: k' ∧ k ≠ [] := by exact fun _ _ _ => ⟨nofun, nofun, nofun⟩) : Run E k f H := by
  have key : ∀ w, St E.M E.w0 w H → Run E k f H := by
    intro w hs
    exact h (by simpa using (hs.slOwn hm).len)
  match k, hk with
  | [], hk => exact absurd rfl (hk (fun _ _ => True) 0 []).2.2
  | .goal G :: k', hk => exact absurd rfl (hk G 0 k').1
  | .block i :: k', hk => exact absurd rfl (hk (fun _ _ => True) i k').2.1
  | .rounds c n :: k', _ => exact fun a w ha hs => key w hs a w ha hs
  | .ops ops l :: k', _ => exact fun a w ha hs => key w hs a w ha hs
  | .code c :: k', _ => exact fun a w ha hs => key w hs a w ha hs

end Go.Proofs.Ytoiaibgcjfgbcaa
