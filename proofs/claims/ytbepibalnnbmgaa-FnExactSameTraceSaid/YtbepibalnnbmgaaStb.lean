/- Plain laws: stable sorting by insertion and by symmetric merging. -/
import Derived.Test.YtbepibalnnbmgaaPm
set_option linter.unusedSimpArgs false
set_option linter.unusedVariables false
namespace Go.Proofs.Ytbepibalnnbmgaa
open Go Go.RowKit

section
variable (key : Int → Int)
/-- By key, then by number. -/
def Tk (x y : Int) : Prop := key x < key y ∨ key x = key y ∧ x < y
variable {key}
theorem Tk.trans {x y z : Int} (h : Tk key x y) (h' : Tk key y z) : Tk key x z := by
  rcases h with h | ⟨h1, h2⟩ <;> rcases h' with h' | ⟨h3, h4⟩
  · exact .inl (by omega)
  · exact .inl (by omega)
  · exact .inl (by omega)
  · exact .inr ⟨by omega, by omega⟩
theorem Tk.irrefl {x : Int} : ¬ Tk key x x := fun h => h.elim (fun h => by omega) fun h => by omega
theorem Tk.later {x y : Int} (h : y < x) : Tk key x y ↔ key x < key y := ⟨fun h' => h'.elim id fun h' => by omega, .inl⟩
theorem Tk.earlier {x y : Int} (h : x < y) : Tk key x y ↔ ¬ key y < key x := by
  constructor
  · rintro (h' | ⟨h1, _⟩) <;> omega
  · intro h'
    rcases Int.lt_or_eq_of_le (Int.not_lt.1 h') with h1 | h1
    · exact .inl h1
    · exact .inr ⟨h1, h⟩
variable (key)
/-- The numbers from a to b are in order. -/
def SrtT (zs : List Int) (a b : Nat) : Prop := ∀ p q, a ≤ p → p < q → q < b → Tk key (ix zs p) (ix zs q)
/-- All numbers from a to m are smaller than those from m to b. -/
def Par2 (zs : List Int) (a m b : Nat) : Prop := ∀ p q, a ≤ p → p < m → m ≤ q → q < b → ix zs p < ix zs q
/-- The list is as it was outside of a to b, and there it has the same numbers. -/
def Within (zs ys : List Int) (a b : Nat) : Prop := ys.length = zs.length ∧ (∀ i, i < zs.length → (i < a ∨ b ≤ i) → ix ys i = ix zs i) ∧ (∀ i, a ≤ i → i < b → ∃ j, a ≤ j ∧ j < b ∧ ix ys i = ix zs j) ∧ ys.Perm zs
variable {key}
theorem Within.refl (zs : List Int) (a b : Nat) : Within zs zs a b := ⟨rfl, fun _ _ _ => rfl, fun i h1 h2 => ⟨i, h1, h2, rfl⟩, .refl _⟩
theorem Within.trans {zs ys xs : List Int} {a b : Nat} (h : Within zs ys a b) (h' : Within ys xs a b) : Within zs xs a b := by
  refine ⟨h'.1.trans h.1, fun i hi ho => ?_, fun i h1 h2 => ?_, h'.2.2.2.trans h.2.2.2⟩
  · rw [h'.2.1 i (by rw [h.1]; exact hi) ho, h.2.1 i hi ho]
  · obtain ⟨j, h3, h4, h5⟩ := h'.2.2.1 i h1 h2
    obtain ⟨k, h6, h7, h8⟩ := h.2.2.1 j h3 h4
    exact ⟨k, h6, h7, h5.trans h8⟩
theorem Within.mono {zs ys : List Int} {a b a' b' : Nat} (h : Within zs ys a b) (ha : a' ≤ a) (hb : b ≤ b') (hl : b' ≤ zs.length) : Within zs ys a' b' := by
  refine ⟨h.1, fun i hi ho => h.2.1 i hi (by omega), fun i h1 h2 => ?_, h.2.2.2⟩
  by_cases hi : a ≤ i ∧ i < b
  · obtain ⟨j, h3, h4, h5⟩ := h.2.2.1 i hi.1 hi.2
    exact ⟨j, by omega, by omega, h5⟩
  · exact ⟨i, h1, h2, h.2.1 i (by omega) (by omega)⟩
theorem within_swp {zs : List Int} {a b i j : Nat} (hi : a ≤ i) (hi' : i < b) (hj : a ≤ j) (hj' : j < b) (hb : b ≤ zs.length) : Within zs (swp zs i j) a b := by
  have e : ∀ k, k < zs.length → ix (swp zs i j) k = if j = k then ix zs i else if i = k then ix zs j else ix zs k := fun k hk => ix_swp (by omega) (by omega) hk
  refine ⟨swp_length .., fun k hk ho => ?_, fun k h1 h2 => ?_, swp_perm (by omega) (by omega)⟩
  · rw [e k hk, if_neg (by omega), if_neg (by omega)]
  · rw [e k (by omega)]
    split
    · exact ⟨i, hi, hi', rfl⟩
    · split
      · exact ⟨j, hj, hj', rfl⟩
      · exact ⟨k, h1, h2, rfl⟩
/-- Insertion: the numbers from a to i but for that at j are in order, and that at j stands before those behind it. -/
structure InsT (key : Int → Int) (zs : List Int) (a i j : Nat) : Prop where
  rest : ∀ p q, a ≤ p → p < q → q ≤ i → p ≠ j → q ≠ j → Tk key (ix zs p) (ix zs q)
  low : ∀ q, j < q → q ≤ i → Tk key (ix zs j) (ix zs q)
  big : ∀ q, a ≤ q → q < j → ix zs q < ix zs j
theorem InsT.start {zs : List Int} {a i : Nat} (h : SrtT key zs a i) (hb : ∀ q, a ≤ q → q < i → ix zs q < ix zs i) : InsT key zs a i i :=
  ⟨fun p q h0 h1 h2 _ h4 => h p q h0 h1 (by omega), fun q h1 h2 => by omega, hb⟩
theorem InsT.swap {zs : List Int} {a i j : Nat} (h : InsT key zs a i j) (hj : a < j) (hji : j ≤ i) (hi : i < zs.length) (hlt : key (ix zs j) < key (ix zs (j - 1))) : InsT key (swp zs j (j - 1)) a i (j - 1) := by
  have hx : ∀ q, q ≤ i → ix (swp zs j (j - 1)) q = if j - 1 = q then ix zs j else if j = q then ix zs (j - 1) else ix zs q := fun q hq => ix_swp (by omega) (by omega) (by omega)
  refine ⟨fun p q h0 h1 h2 h3 h4 => ?_, fun q h1 h2 => ?_, fun q h1 h2 => ?_⟩
  · rw [hx p (by omega), hx q h2, if_neg (show ¬ (j - 1 = p) by omega), if_neg (show ¬ (j - 1 = q) by omega)]
    by_cases e1 : j = p
    · rw [if_pos e1, if_neg (show ¬ (j = q) by omega)]
      exact h.rest (j - 1) q (by omega) (by omega) h2 (by omega) (by omega)
    · rw [if_neg e1]
      by_cases e2 : j = q
      · rw [if_pos e2]; exact h.rest p (j - 1) h0 (by omega) (by omega) (by omega) (by omega)
      · rw [if_neg e2]; exact h.rest p q h0 h1 h2 (by omega) (by omega)
  · rw [hx (j - 1) (by omega), hx q h2, if_pos rfl, if_neg (show ¬ (j - 1 = q) by omega)]
    by_cases e : j = q
    · rw [if_pos e]; exact .inl hlt
    · rw [if_neg e]; exact h.low q (by omega) h2
  · rw [hx q (by omega), hx (j - 1) (by omega), if_pos rfl, if_neg (by omega), if_neg (by omega)]
    exact h.big q h1 (by omega)
theorem InsT.done {zs : List Int} {a i j : Nat} (h : InsT key zs a i j) (haj : a ≤ j) (hji : j ≤ i) (hd : j = a ∨ ¬ key (ix zs j) < key (ix zs (j - 1))) : SrtT key zs a (i + 1) := by
  intro p q h0 h1 h2
  by_cases e1 : p = j
  · subst e1; exact h.low q h1 (by omega)
  · by_cases e2 : q = j
    · subst e2
      rcases hd with hd | hd
      · omega
      · have h5 : Tk key (ix zs (q - 1)) (ix zs q) := (Tk.earlier (h.big (q - 1) (by omega) (by omega))).2 hd
        by_cases e3 : p = q - 1
        · subst e3; exact h5
        · exact (h.rest p (q - 1) h0 (by omega) (by omega) (by omega) (by omega)).trans h5
    · exact h.rest p q h0 h1 (by omega) e1 e2
/-- The list with the part from a to m put behind that from m to b. -/
def rot (zs : List Int) (a m b : Nat) : List Int := (zs.take a ++ ((zs.drop m).take (b - m) ++ ((zs.drop a).take (m - a) ++ zs.drop b)))
theorem rot_length {zs : List Int} {a m b : Nat} (ha : a ≤ m) (hm : m ≤ b) (hb : b ≤ zs.length) : (rot zs a m b).length = zs.length := by
  simp only [rot, List.length_append, List.length_take, List.length_drop]; omega
theorem ix_rot {zs : List Int} {a m b : Nat} (ha : a ≤ m) (hm : m ≤ b) (hb : b ≤ zs.length) (i : Nat) (hi : i < zs.length) :
    ix (rot zs a m b) i = if i < a then ix zs i else if i < a + (b - m) then ix zs (i - a + m) else if i < b then ix zs (i - (b - m)) else ix zs i := by
  have l1 : (zs.take a).length = a := by simp; omega
  have l2 : ((zs.drop m).take (b - m)).length = b - m := by simp; omega
  have l3 : ((zs.drop a).take (m - a)).length = m - a := by simp; omega
  simp only [ix, List.getD, rot]
  by_cases h1 : i < a
  · rw [if_pos h1, List.getElem?_append_left (by omega), List.getElem?_take_of_lt h1]
  · rw [if_neg h1, List.getElem?_append_right (by omega), l1]
    by_cases h2 : i < a + (b - m)
    · rw [if_pos h2, List.getElem?_append_left (by omega), List.getElem?_take_of_lt (by omega), List.getElem?_drop, show m + (i - a) = i - a + m by omega]
    · rw [if_neg h2, List.getElem?_append_right (by omega), l2]
      by_cases h3 : i < b
      · rw [if_pos h3, List.getElem?_append_left (by omega), List.getElem?_take_of_lt (by omega), List.getElem?_drop, show a + (i - a - (b - m)) = i - (b - m) by omega]
      · rw [if_neg h3, List.getElem?_append_right (by omega), l3, List.getElem?_drop, show b + (i - a - (b - m) - (m - a)) = i by omega]
theorem rot_perm {zs : List Int} {a m b : Nat} (ha : a ≤ m) (hm : m ≤ b) (hb : b ≤ zs.length) : (rot zs a m b).Perm zs := by
  have e : zs = zs.take a ++ ((zs.drop a).take (m - a) ++ ((zs.drop m).take (b - m) ++ zs.drop b)) := by
    have e1 : zs.drop m = (zs.drop m).take (b - m) ++ zs.drop b := by
      conv => lhs; rw [← List.take_append_drop (b - m) (zs.drop m)]
      rw [List.drop_drop, show m + (b - m) = b by omega]
    have e2 : zs.drop a = (zs.drop a).take (m - a) ++ zs.drop m := by
      conv => lhs; rw [← List.take_append_drop (m - a) (zs.drop a)]
      rw [List.drop_drop, show a + (m - a) = m by omega]
    rw [← e1, ← e2, List.take_append_drop]
  conv => rhs; rw [e]
  refine List.Perm.append_left _ ?_
  rw [← List.append_assoc, ← List.append_assoc]
  exact List.Perm.append_right _ List.perm_append_comm
theorem within_rot {zs : List Int} {a m b : Nat} (ha : a ≤ m) (hm : m ≤ b) (hb : b ≤ zs.length) : Within zs (rot zs a m b) a b := by
  refine ⟨rot_length ha hm hb, fun i hi ho => ?_, fun i h1 h2 => ?_, rot_perm ha hm hb⟩
  · rw [ix_rot ha hm hb i hi]
    split
    · rfl
    · rw [if_neg (by omega), if_neg (by omega)]
  · rw [ix_rot ha hm hb i (by omega), if_neg (by omega)]
    split
    · exact ⟨i - a + m, by omega, by omega, rfl⟩
    · first | exact ⟨i - (b - m), by omega, by omega, rfl⟩ | (rw [if_pos h2]; exact ⟨i - (b - m), by omega, by omega, rfl⟩)
/-- What is done before the two lesser merges. -/
theorem sym_parts {zs : List Int} {a m b s : Nat} (ham : a ≤ m) (hmb : m ≤ b) (hb : b ≤ zs.length) (h1 : SrtT key zs a m) (h2 : SrtT key zs m b) (hp : Par2 zs a m b) {mid : Nat} (hs : a ≤ s) (hsm : s ≤ m) (he : m ≤ mid + m - s) (heb : mid + m - s ≤ b)
    (hlo : s = a ∨ mid + m - s = b ∨ ¬ key (ix zs (mid + m - s)) < key (ix zs (s - 1))) (hhi : s = m ∨ mid + m - s = m ∨ key (ix zs (mid + m - s - 1)) < key (ix zs s)) (hmid : s ≤ mid) :
    SrtT key (rot zs s m (mid + m - s)) a s ∧ SrtT key (rot zs s m (mid + m - s)) s mid ∧ SrtT key (rot zs s m (mid + m - s)) mid (mid + m - s) ∧ SrtT key (rot zs s m (mid + m - s)) (mid + m - s) b ∧
      Par2 (rot zs s m (mid + m - s)) a s mid ∧ Par2 (rot zs s m (mid + m - s)) mid (mid + m - s) b ∧ ∀ p q, a ≤ p → p < mid → mid ≤ q → q < b → Tk key (ix (rot zs s m (mid + m - s)) p) (ix (rot zs s m (mid + m - s)) q) := by
  obtain ⟨e, he'⟩ : ∃ e, mid + m - s = e := ⟨_, rfl⟩
  rw [he'] at he heb hlo hhi ⊢
  have hx : ∀ i, i < zs.length → ix (rot zs s m e) i = if i < s then ix zs i else if i < mid then ix zs (i - s + m) else if i < e then ix zs (i - (mid - s)) else ix zs i := by
    intro i hi
    rw [ix_rot hsm he (by omega) i hi, show s + (e - m) = mid by omega, show e - m = mid - s by omega]
  refine ⟨fun p q g0 g1 g2 => ?_, fun p q g0 g1 g2 => ?_, fun p q g0 g1 g2 => ?_, fun p q g0 g1 g2 => ?_, fun p q g0 g1 g2 g3 => ?_, fun p q g0 g1 g2 g3 => ?_, fun p q g0 g1 g2 g3 => ?_⟩
  · rw [hx p (by omega), hx q (by omega), if_pos (by omega), if_pos g2]; exact h1 p q g0 g1 (by omega)
  · rw [hx p (by omega), hx q (by omega), if_neg (by omega), if_pos (by omega), if_neg (by omega), if_pos (by omega)]; exact h2 _ _ (by omega) (by omega) (by omega)
  · rw [hx p (by omega), hx q (by omega), if_neg (by omega), if_neg (by omega), if_pos (by omega), if_neg (by omega), if_neg (by omega), if_pos (by omega)]; exact h1 _ _ (by omega) (by omega) (by omega)
  · rw [hx p (by omega), hx q (by omega), if_neg (by omega), if_neg (by omega), if_neg (by omega), if_neg (by omega), if_neg (by omega), if_neg (by omega)]; exact h2 p q (by omega) g1 g2
  · rw [hx p (by omega), hx q (by omega), if_pos (by omega), if_neg (by omega), if_pos (by omega)]; exact hp _ _ g0 (by omega) (by omega) (by omega)
  · rw [hx p (by omega), hx q (by omega), if_neg (by omega), if_neg (by omega), if_pos (by omega), if_neg (by omega), if_neg (by omega), if_neg (by omega)]; exact hp _ _ (by omega) (by omega) (by omega) g3
  · have A : ∀ x y, a ≤ x → x < s → e ≤ y → y < b → Tk key (ix zs x) (ix zs y) := fun x y k1 k2 k3 k4 => by
      have hse : Tk key (ix zs (s - 1)) (ix zs e) := by
        rcases hlo with hlo | hlo | hlo
        · omega
        · omega
        · exact (Tk.earlier (hp _ _ (by omega) (by omega) (by omega) (by omega))).2 hlo
      have t1 : x = s - 1 ∨ Tk key (ix zs x) (ix zs (s - 1)) := by
        by_cases hxs : x = s - 1
        · exact .inl hxs
        · exact .inr (h1 _ _ k1 (by omega) (by omega))
      have t2 : e = y ∨ Tk key (ix zs e) (ix zs y) := by
        by_cases hye : e = y
        · exact .inl hye
        · exact .inr (h2 _ _ (by omega) (by omega) k4)
      have t3 : Tk key (ix zs x) (ix zs e) := by
        rcases t1 with rfl | t1
        · exact hse
        · exact t1.trans hse
      rcases t2 with rfl | t2
      · exact t3
      · exact t3.trans t2
    have B : ∀ x y, m ≤ x → x < e → s ≤ y → y < m → Tk key (ix zs x) (ix zs y) := fun x y k1 k2 k3 k4 => by
      have hse : Tk key (ix zs (e - 1)) (ix zs s) := by
        rcases hhi with hhi | hhi | hhi
        · omega
        · omega
        · exact .inl hhi
      have t1 : x = e - 1 ∨ Tk key (ix zs x) (ix zs (e - 1)) := by
        by_cases hxs : x = e - 1
        · exact .inl hxs
        · exact .inr (h2 _ _ k1 (by omega) (by omega))
      have t2 : s = y ∨ Tk key (ix zs s) (ix zs y) := by
        by_cases hye : s = y
        · exact .inl hye
        · exact .inr (h1 _ _ (by omega) (by omega) k4)
      have t3 : Tk key (ix zs x) (ix zs s) := by
        rcases t1 with rfl | t1
        · exact hse
        · exact t1.trans hse
      rcases t2 with rfl | t2
      · exact t3
      · exact t3.trans t2
    rw [hx p (by omega), hx q (by omega), if_neg (show ¬ q < s by omega), if_neg (show ¬ q < mid by omega)]
    by_cases c1 : p < s
    · rw [if_pos c1]
      by_cases c2 : q < e
      · rw [if_pos c2]; exact h1 _ _ g0 (by omega) (by omega)
      · rw [if_neg c2]; exact A _ _ g0 c1 (by omega) g3
    · rw [if_neg c1, if_pos g1]
      by_cases c2 : q < e
      · rw [if_pos c2]; exact B _ _ (by omega) (by omega) (by omega) (by omega)
      · rw [if_neg c2]; exact h2 _ _ (by omega) (by omega) g3
/-- Two parts in order, of which the one stands before the other. -/
theorem srt_join {zs : List Int} {a m b : Nat} (h1 : SrtT key zs a m) (h2 : SrtT key zs m b) (h : ∀ p q, a ≤ p → p < m → m ≤ q → q < b → Tk key (ix zs p) (ix zs q)) : SrtT key zs a b := by
  intro p q g0 g1 g2
  by_cases c1 : q < m
  · exact h1 p q g0 g1 c1
  · by_cases c2 : p < m
    · exact h p q g0 c2 (by omega) g2
    · exact h2 p q (by omega) g1 g2
/-- The order is kept where nothing turned. -/
theorem SrtT.keep {zs ys : List Int} {a b : Nat} (h : SrtT key zs a b) (he : ∀ i, a ≤ i → i < b → ix ys i = ix zs i) : SrtT key ys a b := by
  intro p q g0 g1 g2
  rw [he p g0 (by omega), he q (by omega) g2]; exact h p q g0 g1 g2
theorem cross_keep {zs ys : List Int} {a m b : Nat} (h : ∀ p q, a ≤ p → p < m → m ≤ q → q < b → Tk key (ix zs p) (ix zs q)) (h1 : Within zs ys a m) (hb : b ≤ zs.length) : ∀ p q, a ≤ p → p < m → m ≤ q → q < b → Tk key (ix ys p) (ix ys q) := by
  intro p q g0 g1 g2 g3
  obtain ⟨j, k1, k2, k3⟩ := h1.2.2.1 p g0 g1
  rw [k3, h1.2.1 q (by omega) (.inr g2)]
  exact h j q k1 k2 g2 g3
theorem cross_keep' {zs ys : List Int} {a m b : Nat} (h : ∀ p q, a ≤ p → p < m → m ≤ q → q < b → Tk key (ix zs p) (ix zs q)) (h1 : Within zs ys m b) (hb : b ≤ zs.length) : ∀ p q, a ≤ p → p < m → m ≤ q → q < b → Tk key (ix ys p) (ix ys q) := by
  intro p q g0 g1 g2 g3
  obtain ⟨j, k1, k2, k3⟩ := h1.2.2.1 q g2 g3
  rw [k3, h1.2.1 p (by omega) (.inl g1)]
  exact h p j g0 g1 k1 k2
/-- The list with the number at a put to the place i. -/
theorem ins_left {zs : List Int} {a m b i : Nat} (hm : m = a + 1) (hi : m ≤ i) (hib : i ≤ b) (hb : b ≤ zs.length) (h2 : SrtT key zs m b) (hp : Par2 zs a m b) (hlo : ∀ h, m ≤ h → h < i → key (ix zs h) < key (ix zs a)) (hhi : ∀ h, i ≤ h → h < b → ¬ key (ix zs h) < key (ix zs a)) : SrtT key (rot zs a m i) a b := by
  subst hm
  have hx : ∀ k, k < zs.length → ix (rot zs a (a + 1) i) k = if k < a then ix zs k else if k < i - 1 then ix zs (k + 1) else if k < i then ix zs a else ix zs k := by
    intro k hk
    rw [ix_rot (by omega) hi (by omega) k hk, show a + (i - (a + 1)) = i - 1 by omega]
    by_cases c1 : k < a
    · rw [if_pos c1, if_pos c1]
    · rw [if_neg c1, if_neg c1]
      by_cases c2 : k < i - 1
      · rw [if_pos c2, if_pos c2, show k - a + (a + 1) = k + 1 by omega]
      · rw [if_neg c2, if_neg c2]
        by_cases c3 : k < i
        · rw [if_pos c3, if_pos c3, show k - (i - (a + 1)) = a by omega]
        · rw [if_neg c3, if_neg c3]
  intro p q g0 g1 g2
  rw [hx p (by omega), hx q (by omega), if_neg (show ¬ p < a by omega), if_neg (show ¬ q < a by omega)]
  by_cases c1 : p < i - 1
  · rw [if_pos c1]
    by_cases c2 : q < i - 1
    · rw [if_pos c2]; exact h2 _ _ (by omega) (by omega) (by omega)
    · rw [if_neg c2]
      by_cases c3 : q < i
      · rw [if_pos c3]; exact .inl (hlo _ (by omega) (by omega))
      · rw [if_neg c3]; exact h2 _ _ (by omega) (by omega) g2
  · rw [if_neg c1, if_neg (show ¬ q < i - 1 by omega), if_neg (show ¬ q < i by omega)]
    by_cases c3 : p < i
    · rw [if_pos c3]; exact (Tk.earlier (hp _ _ (Nat.le_refl _) (by omega) (by omega) g2)).2 (hhi _ (by omega) g2)
    · rw [if_neg c3]; exact h2 _ _ (by omega) g1 g2
/-- The list with the number at m put to the place i. -/
theorem ins_right {zs : List Int} {a m b i : Nat} (hm : b = m + 1) (hi : a ≤ i) (him : i ≤ m) (hb : b ≤ zs.length) (h1 : SrtT key zs a m) (hp : Par2 zs a m b) (hlo : ∀ h, a ≤ h → h < i → ¬ key (ix zs m) < key (ix zs h)) (hhi : ∀ h, i ≤ h → h < m → key (ix zs m) < key (ix zs h)) : SrtT key (rot zs i m b) a b := by
  subst hm
  have hx : ∀ k, k < zs.length → ix (rot zs i m (m + 1)) k = if k < i then ix zs k else if k < i + 1 then ix zs m else if k < m + 1 then ix zs (k - 1) else ix zs k := by
    intro k hk
    rw [ix_rot him (by omega) (by omega) k hk, show i + (m + 1 - m) = i + 1 by omega, show m + 1 - m = 1 by omega]
    by_cases c1 : k < i
    · rw [if_pos c1, if_pos c1]
    · rw [if_neg c1, if_neg c1]
      by_cases c2 : k < i + 1
      · rw [if_pos c2, if_pos c2, show k - i + m = m by omega]
      · rw [if_neg c2, if_neg c2]
  intro p q g0 g1 g2
  rw [hx p (by omega), hx q (by omega)]
  by_cases c1 : p < i
  · rw [if_pos c1]
    by_cases c2 : q < i
    · rw [if_pos c2]; exact h1 _ _ g0 g1 (by omega)
    · rw [if_neg c2]
      by_cases c3 : q < i + 1
      · rw [if_pos c3]; exact (Tk.earlier (hp _ _ g0 (by omega) (Nat.le_refl _) (by omega))).2 (hlo _ g0 c1)
      · rw [if_neg c3, if_pos g2]; exact h1 _ _ g0 (by omega) (by omega)
  · rw [if_neg c1, if_neg (show ¬ q < i by omega), if_neg (show ¬ q < i + 1 by omega), if_pos g2]
    by_cases c3 : p < i + 1
    · rw [if_pos c3]; exact .inl (hhi _ (by omega) (by omega))
    · rw [if_neg c3, if_pos (by omega)]; exact h1 _ _ (by omega) (by omega) (by omega)
/-- One list alone has given numbers in order. -/
theorem srt_one {zs ys : List Int} (h : SrtT key zs 0 zs.length) (h' : SrtT key ys 0 ys.length) (hp : zs.Perm ys) : zs = ys := by
  have pw : ∀ {l : List Int}, SrtT key l 0 l.length → l.Pairwise (Tk key) := fun {l} h => by
    refine List.pairwise_iff_getElem.2 fun i j hi hj hij => ?_
    have := h i j (Nat.zero_le _) hij hj
    rwa [ix_getElem hi, ix_getElem hj] at this
  have g := pw h
  have g' := pw h'
  clear h h'
  induction zs generalizing ys with
  | nil => exact (List.Perm.nil_eq hp)
  | cons x zs ih =>
    cases ys with
    | nil => exact absurd hp.length_eq (by simp)
    | cons y ys =>
      have hxy : x = y := by
        have hx : x ∈ y :: ys := hp.mem_iff.1 (by simp)
        have hy : y ∈ x :: zs := hp.mem_iff.2 (by simp)
        rcases List.mem_cons.1 hx with e | hx
        · exact e
        · rcases List.mem_cons.1 hy with e | hy
          · exact e.symm
          · exact absurd (((List.pairwise_cons.1 g).1 y hy).trans ((List.pairwise_cons.1 g').1 x hx)) Tk.irrefl
      subst hxy
      rw [ih (hp.cons_inv) (List.pairwise_cons.1 g).2 (List.pairwise_cons.1 g').2]
end

end Go.Proofs.Ytbepibalnnbmgaa
