/- Plain laws: ranges that change places, rotation by blocks, blocks that grow. -/
import Derived.Test.YtbepibalnnbmgaaStb
set_option linter.unusedSimpArgs false
set_option linter.unusedVariables false
namespace Go.Proofs.Ytbepibalnnbmgaa
open Go Go.RowKit

theorem ext_ix {xs ys : List Int} (hl : xs.length = ys.length) (h : ∀ i, i < xs.length → ix xs i = ix ys i) : xs = ys := by
  refine List.ext_getElem hl fun i h1 h2 => ?_
  have := h i h1
  rwa [ix_getElem h1, ix_getElem h2] at this
/-- k numbers at a and at b change places. -/
def swr (zs : List Int) (a b : Nat) : Nat → List Int
  | 0 => zs
  | k + 1 => swp (swr zs a b k) (a + k) (b + k)
@[simp] theorem swr_length (zs : List Int) (a b : Nat) : ∀ k, (swr zs a b k).length = zs.length
  | 0 => rfl
  | k + 1 => by rw [swr, swp_length, swr_length zs a b k]
theorem ix_swr {zs : List Int} {a b : Nat} : ∀ {k : Nat}, a + k ≤ b → b + k ≤ zs.length → ∀ i, i < zs.length →
    ix (swr zs a b k) i = if a ≤ i ∧ i < a + k then ix zs (i - a + b) else if b ≤ i ∧ i < b + k then ix zs (i - b + a) else ix zs i
  | 0, _, _, i, _ => by rw [if_neg (by omega), if_neg (by omega)]; rfl
  | k + 1, h1, h2, i, hi => by
    have ih := ix_swr (zs := zs) (a := a) (b := b) (k := k) (by omega) (by omega)
    rw [swr, ix_swp (by rw [swr_length]; omega) (by rw [swr_length]; omega) (by rw [swr_length]; omega)]
    by_cases e1 : b + k = i
    · rw [if_pos e1, ih _ (by omega)]
      repeat' split
      all_goals first | (exfalso; omega) | rfl | (congr 1; omega)
    · rw [if_neg e1]
      by_cases e2 : a + k = i
      · rw [if_pos e2, ih _ (by omega)]
        repeat' split
        all_goals first | (exfalso; omega) | rfl | (congr 1; omega)
      · rw [if_neg e2, ih _ hi]
        repeat' split
        all_goals first | (exfalso; omega) | rfl | (congr 1; omega)
theorem rot_gt {ys : List Int} {m i j : Nat} (hij : j < i) (hi : i ≤ m) (hl : m + j ≤ ys.length) : rot (swr ys (m - i) m j) (m - i + j) m (m + j) = rot ys (m - i) m (m + j) := by
  have hx := ix_swr (zs := ys) (a := m - i) (b := m) (k := j) (by omega) hl
  refine ext_ix (by rw [rot_length (by omega) (by omega) (by simpa using hl), rot_length (by omega) (by omega) hl, swr_length]) fun t ht => ?_
  rw [rot_length (by omega) (by omega) (by simpa using hl), swr_length] at ht
  rw [ix_rot (by omega) (by omega) (by simpa using hl) t (by simpa using ht), ix_rot (by omega) (by omega) hl t ht]
  repeat' split
  all_goals first | (exfalso; omega) | (rw [hx _ (by omega)]; repeat' split)
  all_goals first | (exfalso; omega) | rfl | (congr 1; omega)
theorem rot_lt {ys : List Int} {m i j : Nat} (hij : i < j) (hi : i ≤ m) (hl : m + j ≤ ys.length) : rot (swr ys (m - i) (m + j - i) i) (m - i) m (m + (j - i)) = rot ys (m - i) m (m + j) := by
  have hx := ix_swr (zs := ys) (a := m - i) (b := m + j - i) (k := i) (by omega) (by omega)
  refine ext_ix (by rw [rot_length (by omega) (by omega) (by rw [swr_length]; omega), rot_length (by omega) (by omega) hl, swr_length]) fun t ht => ?_
  rw [rot_length (by omega) (by omega) (by rw [swr_length]; omega), swr_length] at ht
  rw [ix_rot (by omega) (by omega) (by rw [swr_length]; omega) t (by simpa using ht), ix_rot (by omega) (by omega) hl t ht]
  repeat' split
  all_goals first | (exfalso; omega) | (rw [hx _ (by omega)]; repeat' split)
  all_goals first | (exfalso; omega) | rfl | (congr 1; omega)
theorem rot_eq {ys : List Int} {m i : Nat} (hi : i ≤ m) (hl : m + i ≤ ys.length) : swr ys (m - i) m i = rot ys (m - i) m (m + i) := by
  have hx := ix_swr (zs := ys) (a := m - i) (b := m) (k := i) (by omega) hl
  refine ext_ix (by rw [rot_length (by omega) (by omega) hl, swr_length]) fun t ht => ?_
  rw [swr_length] at ht
  rw [hx t ht, ix_rot (by omega) (by omega) hl t ht]
  repeat' split
  all_goals first | (exfalso; omega) | rfl | (congr 1; omega)
theorem rot_nil {zs : List Int} {a m b : Nat} (ha : a ≤ m) (hm : m ≤ b) (hb : b ≤ zs.length) (h : a = m ∨ m = b) : rot zs a m b = zs := by
  refine ext_ix (rot_length ha hm hb) fun t ht => ?_
  rw [rot_length ha hm hb] at ht
  rw [ix_rot ha hm hb t ht]
  repeat' split
  all_goals first | (exfalso; omega) | rfl | (congr 1; omega)
/-- One step of putting the number at a to its place. -/
theorem rot_step {zs : List Int} {a m k : Nat} (hm : m = a + 1) (hk : a ≤ k) (hl : k + 1 < zs.length) : swp (rot zs a m (k + 1)) k (k + 1) = rot zs a m (k + 2) := by
  subst hm
  have e1 : (rot zs a (a + 1) (k + 1)).length = zs.length := rot_length (by omega) (by omega) (by omega)
  have e2 : (rot zs a (a + 1) (k + 2)).length = zs.length := rot_length (by omega) (by omega) (by omega)
  have hx := ix_rot (zs := zs) (a := a) (m := a + 1) (b := k + 1) (by omega) (by omega) (by omega)
  have hy := ix_rot (zs := zs) (a := a) (m := a + 1) (b := k + 2) (by omega) (by omega) (by omega)
  refine ext_ix (by rw [swp_length, e1, e2]) fun t ht => ?_
  rw [swp_length, e1] at ht
  rw [ix_swp (by omega) (by omega) (by omega), hy t ht, hx k (by omega), hx (k + 1) (by omega), hx t ht]
  repeat' split
  all_goals first | (exfalso; omega) | rfl | (congr 1; omega)
theorem rot_step' {zs : List Int} {m b k : Nat} (hb : b = m + 1) (h0 : 0 < k) (hk : k ≤ m) (hl : m < zs.length) : swp (rot zs k m b) k (k - 1) = rot zs (k - 1) m b := by
  subst hb
  have e1 : (rot zs k m (m + 1)).length = zs.length := rot_length (by omega) (by omega) (by omega)
  have e2 : (rot zs (k - 1) m (m + 1)).length = zs.length := rot_length (by omega) (by omega) (by omega)
  have hx := ix_rot (zs := zs) (a := k) (m := m) (b := m + 1) (by omega) (by omega) (by omega)
  have hy := ix_rot (zs := zs) (a := k - 1) (m := m) (b := m + 1) (by omega) (by omega) (by omega)
  refine ext_ix (by rw [swp_length, e1, e2]) fun t ht => ?_
  rw [swp_length, e1] at ht
  rw [ix_swp (by omega) (by omega) (by omega), hy t ht, hx k (by omega), hx (k - 1) (by omega), hx t ht]
  repeat' split
  all_goals first | (exfalso; omega) | rfl | (congr 1; omega)
/-- All numbers lie below n. -/
def InR (zs : List Int) (n : Nat) : Prop := zs.length = n ∧ ∀ i, i < n → 0 ≤ ix zs i ∧ ix zs i < n
theorem InR.within {zs ys : List Int} {n a b : Nat} (h : InR zs n) (hw : Within zs ys a b) (hb : b ≤ n) : InR ys n := by
  refine ⟨hw.1.trans h.1, fun i hi => ?_⟩
  by_cases c : i < a ∨ b ≤ i
  · rw [hw.2.1 i (by rw [h.1]; exact hi) c]; exact h.2 i hi
  · obtain ⟨j, h1, h2, h3⟩ := hw.2.2.1 i (by omega) (by omega)
    rw [h3]; exact h.2 j (by omega)
theorem inR_perm {zs : List Int} {n : Nat} (h : zs.Perm (mks 0 n)) : InR zs n := by
  have hl : zs.length = n := by rw [h.length_eq]; simp
  refine ⟨hl, fun i hi => ?_⟩
  have : ix zs i ∈ mks 0 n := h.mem_iff.1 (ix_mem (by omega))
  obtain ⟨j, hj, e⟩ := mem_ix.1 this
  rw [← e, mks_ix (by simpa using hj)]
  simp at hj; omega
section
variable {key : Int → Int}
theorem Tk.le {x y : Int} (h : Tk key x y) : key x ≤ key y := by rcases h with h | h <;> omega
theorem SrtT.le {zs : List Int} {a b p q : Nat} (h : SrtT key zs a b) (h0 : a ≤ p) (h1 : p ≤ q) (h2 : q < b) : key (ix zs p) ≤ key (ix zs q) := by
  rcases Nat.lt_or_eq_of_le h1 with h3 | h3
  · exact (h p q h0 h3 h2).le
  · rw [h3]; omega
theorem SrtT.nil {zs : List Int} {a b : Nat} (h : b ≤ a + 1) : SrtT key zs a b := fun p q h0 h1 h2 => by omega
/-- The block at x of size s: in order, and with the numbers of its places. -/
def BlkT (key : Int → Int) (zs : List Int) (x s n : Nat) : Prop := SrtT key zs x (min (x + s) n) ∧ ∀ i, x ≤ i → i < x + s → i < n → (x : Int) ≤ ix zs i ∧ ix zs i < x + s
theorem BlkT.none {zs : List Int} {x s n : Nat} (h : n ≤ x) : BlkT key zs x s n := ⟨SrtT.nil (by omega), fun i h1 h2 h3 => by omega⟩
theorem BlkT.keep {zs ys : List Int} {x s n a b : Nat} (h : BlkT key zs x s n) (hw : Within zs ys a b) (hl : zs.length = n) (ho : x + s ≤ a ∨ b ≤ x) : BlkT key ys x s n := by
  have e : ∀ i, x ≤ i → i < x + s → i < n → ix ys i = ix zs i := fun i h1 h2 h3 => hw.2.1 i (by omega) (by omega)
  exact ⟨h.1.keep fun i h1 h2 => e i h1 (by omega) (by omega), fun i h1 h2 h3 => by rw [e i h1 h2 h3]; exact h.2 i h1 h2 h3⟩
/-- Blocks of size t below a, of size s from a on. -/
def Mix (key : Int → Int) (zs : List Int) (s t n a : Nat) : Prop := (∀ x, t ∣ x → x < a → BlkT key zs x t n) ∧ ∀ x, s ∣ x → a ≤ x → BlkT key zs x s n
theorem mix_start (n : Nat) : Mix key (mks 0 n) 1 20 n 0 := by
  refine ⟨fun x _ h => by omega, fun x _ _ => ⟨SrtT.nil (by omega), fun i h1 h2 h3 => ?_⟩⟩
  rw [mks_ix h3]; omega
theorem mix_step {zs ys : List Int} {s t n a : Nat} (h : Mix key zs s t n a) (hs : 0 < s) (hst : s ∣ t) (ha : t ∣ a) (hl : zs.length = n) (hw : Within zs ys a (min (a + t) n)) (hsrt : SrtT key ys a (min (a + t) n)) : Mix key ys s t n (a + t) := by
  have hsa : s ∣ a := Nat.dvd_trans hst ha
  refine ⟨fun x hx hlt => ?_, fun x hx hle => (h.2 x hx (by omega)).keep hw hl (.inr (by omega))⟩
  have hcase : x + t ≤ a ∨ x = a := by
    obtain ⟨p, rfl⟩ := hx
    obtain ⟨q, rfl⟩ := ha
    have h1 : t * p < t * (q + 1) := by rw [Nat.mul_add]; omega
    have h2 : p < q + 1 := Nat.lt_of_mul_lt_mul_left h1
    by_cases e : p = q
    · exact .inr (by rw [e])
    · left
      have : t * (p + 1) ≤ t * q := Nat.mul_le_mul_left t (by omega)
      rw [Nat.mul_add] at this; omega
  rcases hcase with hc | rfl
  · by_cases ht : t = 0
    · subst ht
      have h0 := Nat.eq_zero_of_zero_dvd hx
      exact ⟨SrtT.nil (by omega), fun i h1 h2 => by omega⟩
    · exact (h.1 x hx (by omega)).keep hw hl (.inl hc)
  · refine ⟨hsrt, fun i h1 h2 h3 => ?_⟩
    obtain ⟨j, h4, h5, h6⟩ := hw.2.2.1 i h1 (by omega)
    rw [h6]
    have hb := h.2 (x + (j - x) / s * s) (Nat.dvd_add hsa (Nat.dvd_mul_left s _)) (by omega)
    have hd := Nat.div_add_mod (j - x) s
    have hm := Nat.mod_lt (j - x) hs
    rw [Nat.mul_comm] at hd
    have hr := hb.2 j (by omega) (by omega) (by omega)
    have hle : (j - x) / s * s + s ≤ t := by
      obtain ⟨r, rfl⟩ := hst
      have h7 : (j - x) / s < r := Nat.div_lt_of_lt_mul (by omega)
      have h8 : s * ((j - x) / s + 1) ≤ s * r := Nat.mul_le_mul_left s h7
      rw [Nat.mul_add, Nat.mul_comm] at h8; omega
    constructor
    · have := hr.1; push_cast at this; omega
    · have := hr.2; push_cast at this; omega
theorem mix_up {zs : List Int} {s t n a : Nat} (h : Mix key zs s t n a) (ha : n ≤ a) (t' : Nat) : Mix key zs t t' n 0 := by
  refine ⟨fun x _ h => by omega, fun x hx _ => ?_⟩
  by_cases c : x < a
  · exact h.1 x hx c
  · exact BlkT.none (by omega)
theorem mix_done {zs : List Int} {s t n : Nat} (h : Mix key zs s t n 0) (hn : n ≤ s) : SrtT key zs 0 n := by
  have := (h.2 0 (Nat.dvd_zero s) (Nat.le_refl 0)).1
  rwa [show min (0 + s) n = n by omega] at this
theorem mix_par {zs : List Int} {s t n a b : Nat} (h : Mix key zs s t n a) (ha : s ∣ a) (hb : b ≤ a + 2 * s) (hn : b ≤ n) : Par2 zs a (a + s) b := by
  intro p q h0 h1 h2 h3
  have e1 := (h.2 a ha (Nat.le_refl a)).2 p h0 h1 (by omega)
  have e2 := (h.2 (a + s) (Nat.dvd_add ha (Nat.dvd_refl s)) (by omega)).2 q h2 (by omega) (by omega)
  push_cast at e1 e2; omega
theorem mix_left {zs : List Int} {s t n a : Nat} (h : Mix key zs s t n a) (ha : s ∣ a) (hn : a + s ≤ n) : SrtT key zs a (a + s) := by
  have := (h.2 a ha (Nat.le_refl a)).1
  rwa [show min (a + s) n = a + s by omega] at this
theorem mix_right {zs : List Int} {s t n a b : Nat} (h : Mix key zs s t n a) (ha : s ∣ a) (hb : b = min (a + s + s) n) : SrtT key zs (a + s) b := by
  subst hb; exact (h.2 (a + s) (Nat.dvd_add ha (Nat.dvd_refl s)) (by omega)).1
theorem mix_big {zs : List Int} {t n a b : Nat} (h : Mix key zs 1 t n a) (hb : b ≤ n) : ∀ p q, a ≤ p → p < q → q < b → ix zs p < ix zs q := by
  intro p q h0 h1 h2
  have e1 := (h.2 p (Nat.one_dvd p) h0).2 p (by omega) (by omega) (by omega)
  have e2 := (h.2 q (Nat.one_dvd q) (by omega)).2 q (by omega) (by omega) (by omega)
  omega
theorem mix_rest {zs : List Int} {s t n a : Nat} (h : Mix key zs s t n a) (hs : 0 < s) (hst : s ∣ t) (ha : t ∣ a) (hl : zs.length = n) (hn : n ≤ a + s) : Mix key zs s t n (a + t) := by
  refine mix_step h hs hst ha hl (Within.refl zs _ _) ?_
  have := (h.2 a (Nat.dvd_trans hst ha) (Nat.le_refl a)).1
  intro p q h0 h1 h2
  exact this p q h0 h1 (by omega)
end
theorem half_u (i j : Nat) (h : i + j < 4611686018427387904) : IntKind.i64.wrap ((((i : Nat) : Int) + ((j : Nat) : Int)) >>> (1 : Nat)) = (((i + j) / 2 : Nat) : Int) := by
  rw [Int.shiftRight_eq_div_pow, IntKind.wrap_i64]
  omega

end Go.Proofs.Ytbepibalnnbmgaa
