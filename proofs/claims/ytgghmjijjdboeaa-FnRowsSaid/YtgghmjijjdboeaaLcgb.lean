/- Plain laws: a search that draws until it finds a number that is lacking ends. -/
import Derived.Test.YtgghmjijjdboeaaLcg
import Derived.Test.YtgghmjijjdboeaaComp
set_option linter.unusedSimpArgs false
set_option linter.unusedVariables false
namespace Go.Proofs.Ytgghmjijjdboeaa
open Go Go.RowKit

/-- The generator's state after t bytes. -/
def nit (cs : List Int) (n : Nat) : Nat → Nat × Int → Nat × Int
  | 0, s => s
  | t + 1, s => nit cs n t (nxS cs n s)
theorem nit_add (cs : List Int) (n : Nat) : ∀ t u s, nit cs n (t + u) s = nit cs n u (nit cs n t s)
  | 0, u, s => by rw [Nat.zero_add, nit]
  | t + 1, u, s => by rw [Nat.add_right_comm, nit, nit_add cs n t u, nit]
theorem nit_at (cs : List Int) (n : Nat) : ∀ t s, (nit cs n t s).1 = s.1 + t
  | 0, s => rfl
  | t + 1, s => by rw [nit, nit_at cs n t]; simp only [nxS]; omega
/-- A seed is a number of 64 bits. -/
def SdOk (s : Nat × Int) : Prop := 0 ≤ s.2 ∧ s.2 < 18446744073709551616
theorem sdE_range (a b : Int) : 0 ≤ sdE a b ∧ sdE a b < 18446744073709551616 := by
  unfold sdE
  simp only [IntKind.wrap_u64]
  omega
theorem sdOk_nx (cs : List Int) (n : Nat) (s : Nat × Int) : SdOk (nxS cs n s) := sdE_range _ _
theorem sdOk_pk {cs : List Int} {n : Nat} {k : Int} {s : Nat × Int} (h : SdOk s) : SdOk (pkS cs n k s) := by
  unfold pkS; split
  · exact h
  · split <;> exact sdOk_nx _ _ _
theorem sdOk_nit {cs : List Int} {n : Nat} : ∀ {t s}, SdOk s → SdOk (nit cs n t s)
  | 0, s, h => h
  | t + 1, s, _ => by rw [nit]; exact sdOk_nit (sdOk_nx _ _ _)
theorem nxS_far {cs : List Int} {n : Nat} {s : Nat × Int} (h : n ≤ s.1) {x : Nat} (hx : x < 18446744073709551616) (e : s.2 = x) : (nxS cs n s).2 = ((lf x : Nat) : Int) := by
  have : nxB cs n s = 0 := if_neg (by omega)
  rw [nxS, this, e, sdE_nat x hx]
theorem lf_lt (x : Nat) : lf x < 18446744073709551616 := by rw [lf_eq]; exact Nat.mod_lt _ (by decide)
theorem nit_far {cs : List Int} {n : Nat} : ∀ {t : Nat} {s : Nat × Int} {x : Nat}, n ≤ s.1 → x < 18446744073709551616 → s.2 = x → (nit cs n t s).2 = ((lit lf t x : Nat) : Int)
  | 0, s, x, _, _, e => e
  | t + 1, s, x, h, hx, e => by
    rw [nit, lit]
    exact nit_far (by simp only [nxS]; omega) (lf_lt x) (nxS_far h hx e)
theorem lit_lt : ∀ {t x : Nat}, x < 18446744073709551616 → lit lf t x < 18446744073709551616
  | 0, x, h => h
  | t + 1, x, _ => by rw [lit]; exact lit_lt (lf_lt x)
theorem nxV_far {cs : List Int} {n : Nat} {s : Nat × Int} (h : n ≤ s.1) {x : Nat} (hx : x < 18446744073709551616) (e : s.2 = x) : nxV cs n s = ((gB (lf x) : Nat) : Int) := by
  have : nxB cs n s = 0 := if_neg (by omega)
  rw [nxV, if_neg (by omega), this, e, sdE_nat x hx, byte_nat _ (lf_lt x)]
theorem lit_comm (f : Nat → Nat) : ∀ t x, f (lit f t x) = lit f t (f x)
  | 0, x => rfl
  | t + 1, x => by rw [lit, lit, lit_comm f t]
theorem T40 : ∃ T U : Nat, T = 2 ^ 40 ∧ T = 2 * U ∧ U = 549755813888 := ⟨2 ^ 40, 549755813888, rfl, by decide, rfl⟩
/-- Every byte comes, behind the bytes that are given. -/
theorem byte_far {cs : List Int} {n : Nat} {s : Nat × Int} (h : n ≤ s.1) (hs : SdOk s) {v : Nat} (hv : v < 256) : ∃ t, t ≤ 140737488355328 ∧ nxV cs n (nit cs n (2 * t) s) = v := by
  obtain ⟨x, e⟩ : ∃ x : Nat, s.2 = x := ⟨s.2.toNat, by have := hs.1; omega⟩
  have hx : x < 18446744073709551616 := by have := hs.2; omega
  obtain ⟨T, U, hT, hTU, hU⟩ := T40
  obtain ⟨k, hk, hr⟩ := reach hT (lf x) v hv
  rw [hTU] at hr
  refine ⟨k * U, ?_, ?_⟩
  · have h1 : k * U ≤ 255 * U := Nat.mul_le_mul (by omega) (Nat.le_refl _)
    omega
  · rw [show 2 * (k * U) = k * (2 * U) by rw [Nat.mul_left_comm]]
    rw [nxV_far (x := lit lf (k * (2 * U)) x) (by rw [nit_at]; omega) (lit_lt hx) (nit_far h hx e)]
    have e2 : lf (lit lf (k * (2 * U)) x) = lit lf (k * (2 * U)) (lf x) := lit_comm lf _ x
    rw [e2, hr]
theorem byte_ex {cs : List Int} {n : Nat} {s : Nat × Int} (hs : SdOk s) {v : Nat} (hv : v < 256) : ∃ t, t ≤ n + 140737488355328 ∧ nxV cs n (nit cs n (2 * t) s) = v := by
  obtain ⟨t, h1, h2⟩ := byte_far (cs := cs) (n := n) (s := nit cs n (2 * n) s) (by rw [nit_at]; omega) (sdOk_nit hs) hv
  refine ⟨n + t, by omega, ?_⟩
  rw [← nit_add] at h2
  rwa [show 2 * (n + t) = 2 * n + 2 * t by omega]
/-! ### A number that is lacking -/
theorem cnt_mem (n : Nat) : ∀ l : List Int, cntP (fun k => decide ((k : Int) ∈ l)) n ≤ l.length
  | [] => by
    have : ∀ k, cntP (fun k => decide ((k : Int) ∈ ([] : List Int))) k = 0 := fun k => by induction k with
      | zero => rfl
      | succ k ih => simp only [cntP, ih]; simp
    rw [this]; exact Nat.zero_le _
  | x :: l => by
    have ih := cnt_mem n l
    by_cases hx : (0 ≤ x ∧ x < n) ∧ x ∉ l
    · have := cntP_add (p := fun k => decide ((k : Int) ∈ l)) (q := fun k => decide ((k : Int) ∈ x :: l)) (x := x.toNat) (n := n) (by omega)
        (fun i hi hne => by simp only [List.mem_cons]; rw [decide_eq_decide]; constructor
                            · intro h; exact .inr h
                            · rintro (h | h)
                              · omega
                              · exact h)
        (by rw [decide_eq_false_iff_not, Int.toNat_of_nonneg hx.1.1]; exact hx.2) (by rw [decide_eq_true_eq, Int.toNat_of_nonneg hx.1.1]; exact List.mem_cons_self)
      rw [this, List.length_cons]; omega
    · have : cntP (fun k => decide ((k : Int) ∈ x :: l)) n = cntP (fun k => decide ((k : Int) ∈ l)) n := cntP_congr fun i hi => by
        simp only [List.mem_cons]; rw [decide_eq_decide]; constructor
        · rintro (h | h)
          · by_cases h' : x ∈ l
            · rw [h]; exact h'
            · exact absurd ⟨⟨by omega, by omega⟩, h'⟩ hx
          · exact h
        · intro h; exact .inr h
      rw [this, List.length_cons]; omega
theorem lacking {N : Nat} {l : List Int} (h : l.length < N) : ∃ k : Nat, k < N ∧ hasI l (k : Int) l.length = false := by
  cases hc : anyI (fun k => !decide ((k : Int) ∈ l)) N with
  | true =>
    obtain ⟨k, h1, h2⟩ := anyI_iff.1 hc
    exact ⟨k, h1, by rw [hasI_mem]; simpa using h2⟩
  | false =>
    have h1 : cntP (fun _ => true) N ≤ cntP (fun k => decide ((k : Int) ∈ l)) N := cntP_mono fun i hi _ => by
      cases hd : decide ((i : Int) ∈ l) with
      | true => rfl
      | false => rw [anyI_true hi (by rw [hd]; rfl)] at hc; cases hc
    have h2 := cnt_mem N l
    have h3 : ∀ m, cntP (fun _ => true) m = m := fun m => by induction m with
      | zero => rfl
      | succ m ih => simp only [cntP, ih, if_true]
    rw [h3] at h1; omega
/-! ### The search -/
/-- The search goes on with what is drawn at s. -/
def goP (cs : List Int) (n : Nat) (N : Int) (l : List Int) (s : Nat × Int) : Bool := !hasI l (pkV cs n N s) l.length || pkV cs n 20 (pkS cs n N s) == 0
/-- The least number of vain rounds. -/
noncomputable def vain (p : Nat × Int → Bool) (cs : List Int) (n : Nat) (s : Nat × Int) : Nat := Classical.epsilon fun t => p (nit cs n (2 * t) s) = true ∧ ∀ i, i < t → p (nit cs n (2 * i) s) = false
theorem vain_is {p : Nat × Int → Bool} {cs : List Int} {n : Nat} {s : Nat × Int} {t : Nat} (h : p (nit cs n (2 * t) s) = true) : vain p cs n s ≤ t ∧ p (nit cs n (2 * vain p cs n s) s) = true ∧ ∀ i, i < vain p cs n s → p (nit cs n (2 * i) s) = false := by
  obtain ⟨m, h1, h2, h3⟩ := least_nat (p := fun t => p (nit cs n (2 * t) s) = true) h
  have := Classical.epsilon_spec (p := fun t => p (nit cs n (2 * t) s) = true ∧ ∀ i, i < t → p (nit cs n (2 * i) s) = false) ⟨m, h2, fun i hi => by have := h3 i hi; simpa using this⟩
  refine ⟨?_, this⟩
  by_cases e : vain p cs n s ≤ t
  · exact e
  · have := this.2 t (by show t < vain p cs n s; omega)
    rw [h] at this; cases this
theorem vain_next {p : Nat × Int → Bool} {cs : List Int} {n : Nat} {s : Nat × Int} {t : Nat} (h : p (nit cs n (2 * t) s) = true) (h0 : p s = false) : vain p cs n (nit cs n 2 s) + 1 = vain p cs n s := by
  obtain ⟨a1, a2, a3⟩ := vain_is h
  have hpos : 0 < vain p cs n s := by
    rcases Nat.eq_zero_or_pos (vain p cs n s) with e | e
    · rw [e] at a2; rw [show nit cs n (2 * 0) s = s from rfl, h0] at a2; cases a2
    · exact e
  have sh : ∀ i, nit cs n (2 * i) (nit cs n 2 s) = nit cs n (2 * (i + 1)) s := fun i => by rw [← nit_add, show 2 + 2 * i = 2 * (i + 1) by omega]
  obtain ⟨b1, b2, b3⟩ := vain_is (p := p) (cs := cs) (n := n) (s := nit cs n 2 s) (t := vain p cs n s - 1) (by rw [sh, show vain p cs n s - 1 + 1 = vain p cs n s by omega]; exact a2)
  rw [sh] at b2
  by_cases e : vain p cs n (nit cs n 2 s) + 1 < vain p cs n s
  · have := a3 _ e
    rw [b2] at this; cases this
  · omega
/-- Some round is not vain. -/
theorem go_ex {cs : List Int} {n N : Nat} (hN : 1 ≤ N ∧ N ≤ 5) {l : List Int} (hl : l.length < N) {s : Nat × Int} (hs : SdOk s) : ∃ t, t ≤ n + 140737488355328 ∧ goP cs n N l (nit cs n (2 * t) s) = true := by
  obtain ⟨k, hk, hh⟩ := lacking hl
  by_cases h1 : N = 1
  · subst h1
    refine ⟨0, by omega, ?_⟩
    have e : pkV cs n ((1 : Nat) : Int) (nit cs n (2 * 0) s) = k := by rw [pkV, if_pos (by omega)]; omega
    rw [goP, e, hh]; rfl
  · obtain ⟨t, h2, h3⟩ := byte_ex (cs := cs) (n := n) hs (show k < 256 by omega)
    refine ⟨t, h2, ?_⟩
    have e : pkV cs n (N : Int) (nit cs n (2 * t) s) = k := by rw [pkV, if_neg (by omega), if_neg (by omega), h3]; exact Int.emod_eq_of_lt (by omega) (by omega)
    rw [goP, e, hh]; rfl
/-- A measure of the search. -/
noncomputable def muD (cs : List Int) (n N : Nat) (l : List Int) (s : Nat × Int) : Nat := (N - l.length) * 1125899906842624 + min (vain (goP cs n N l) cs n s) 562949953421312
theorem muD_on {cs : List Int} {n N : Nat} {l : List Int} {k : Int} (hl : l.length < N) (s s' : Nat × Int) : muD cs n N (l ++ [k]) s' + 2 ≤ muD cs n N l s := by
  unfold muD
  simp only [List.length_append, List.length_cons, List.length_nil]
  obtain ⟨d, hd⟩ : ∃ d, N - l.length = d + 1 := ⟨N - l.length - 1, by omega⟩
  rw [hd, show N - (l.length + (0 + 1)) = d by omega, Nat.add_mul]
  omega
theorem muD_stay {cs : List Int} {n N : Nat} (hn : n ≤ 140737488355328) (hN : 1 ≤ N ∧ N ≤ 5) {l : List Int} (hl : l.length < N) {s : Nat × Int} (hs : SdOk s) (h1 : hasI l (pkV cs n N s) l.length = true) (h2 : (pkV cs n 20 (pkS cs n N s) == 0) = false) :
    muD cs n N l (pkS cs n 20 (pkS cs n N s)) + 1 = muD cs n N l s ∧ (pkS cs n 20 (pkS cs n N s)).1 = s.1 + 2 := by
  have hN2 : 2 ≤ N := by
    by_cases e : N = 1
    · subst e
      have : l = [] := List.eq_nil_of_length_eq_zero (by omega)
      subst this; cases h1
    · omega
  have e1 : pkS cs n (N : Int) s = nxS cs n s := by rw [pkS, if_neg (by omega), if_neg (by omega)]
  have e2 : pkS cs n 20 (pkS cs n N s) = nit cs n 2 s := by rw [e1, pkS, if_neg (by omega), if_neg (by omega)]; rfl
  have h0 : goP cs n N l s = false := by rw [goP, h1, h2]; rfl
  obtain ⟨t, ht, hg⟩ := go_ex (cs := cs) (n := n) hN hl hs
  have hv := vain_next hg h0
  have hb := (vain_is hg).1
  rw [e2]
  refine ⟨?_, by rw [nit_at]⟩
  unfold muD
  omega
theorem muD_le {cs : List Int} {n N : Nat} (hN : N ≤ 5) (l : List Int) (s : Nat × Int) : muD cs n N l s ≤ 6192449487634432 := by
  unfold muD
  omega
attribute [irreducible] muD

end Go.Proofs.Ytgghmjijjdboeaa
