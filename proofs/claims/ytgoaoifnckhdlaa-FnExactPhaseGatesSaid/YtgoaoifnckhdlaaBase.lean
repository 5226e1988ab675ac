/- Plain functions on numbers and lists that the walks speak of. -/
import Derived.Test.YtgoaoifnckhdlaaOps
namespace Go.Proofs.Ytgoaoifnckhdlaa
open Go Go.RowKit

/-- A number lies in a range. -/
def within (x lo hi : Int) : Bool := decide (lo ≤ x) && decide (x ≤ hi)
theorem within_iff {x lo hi : Int} : within x lo hi = true ↔ lo ≤ x ∧ x ≤ hi := by simp [within]

/-- A list of numbers as cells. -/
def ints (xs : List Int) : List Value := xs.map (Value.int .i64)
def ix (xs : List Int) (i : Nat) : Int := xs.getD i 0
theorem ints_get {xs : List Int} {i : Nat} (h : i < xs.length) : (ints xs)[i]? = some (.int .i64 (ix xs i)) := by
  simp [ints, ix, List.getD, h]
@[simp] theorem ints_length (xs : List Int) : (ints xs).length = xs.length := by simp [ints]
theorem ints_append (xs ys : List Int) : ints (xs ++ ys) = ints xs ++ ints ys := by simp [ints]
theorem ints_set (xs : List Int) (o : Nat) (a : Int) : spl (ints xs) o [.int .i64 a] = ints (xs.set o a) := by
  simp [spl, ints, List.map_set]
theorem pre1 {xs : List Int} {o : Nat} (h : o < xs.length) : Pre (ints xs) o [.int .i64 (ix xs o)] := ⟨ints_get h, trivial⟩
theorem pre2 {xs : List Int} {o : Nat} (h : o + 1 < xs.length) : Pre (ints xs) o [.int .i64 (ix xs o), .int .i64 (ix xs (o + 1))] := ⟨ints_get (by omega), ints_get h, trivial⟩
theorem pre3 {xs : List Int} {o : Nat} (h : o + 2 < xs.length) : Pre (ints xs) o [.int .i64 (ix xs o), .int .i64 (ix xs (o + 1)), .int .i64 (ix xs (o + 2))] := ⟨ints_get (by omega), ints_get (by omega), ints_get h, trivial⟩
theorem ints_all (xs : List Int) : (ints xs).all (·.oneCell') = true := by simp [ints, Value.oneCell']

theorem list_ext_ix {xs ys : List Int} (hl : xs.length = ys.length) (h : ∀ j, j < xs.length → ix xs j = ix ys j) : xs = ys := by
  apply List.ext_getElem hl
  intro i h1 h2
  have := h i h1
  simpa [ix, List.getD, h1, h2] using this

/-- The numbers k, k + 1, .. -/
def mks (k : Int) (m : Nat) : List Int := (List.range m).map fun j : Nat => k + (j : Int)
@[simp] theorem mks_length (k : Int) (m : Nat) : (mks k m).length = m := by simp [mks]
theorem ix_mks {k : Int} {m j : Nat} (h : j < m) : ix (mks k m) j = k + j := by simp [ix, mks, List.getD, h]
/-- A list whose first m numbers are written over so. -/
def marked (k : Int) (m : Nat) (xs : List Int) : List Int := (List.range xs.length).map fun j : Nat => if j < m then k + (j : Int) else ix xs j
@[simp] theorem marked_length (k : Int) (m : Nat) (xs : List Int) : (marked k m xs).length = xs.length := by simp [marked]
theorem ix_marked {k : Int} {m j : Nat} {xs : List Int} (h : j < xs.length) : ix (marked k m xs) j = if j < m then k + (j : Int) else ix xs j := by simp [ix, marked, List.getD, h]
theorem ix_set {xs : List Int} {o j : Nat} {a : Int} (h : j < xs.length) : ix (xs.set o a) j = if o = j then a else ix xs j := by
  simp only [ix, List.getD, List.getElem?_set]
  by_cases ho : o = j
  · subst ho; simp [h]
  · simp [ho]
theorem marked_zero (k : Int) (xs : List Int) : marked k 0 xs = xs := list_ext_ix (by simp) fun j h => by
  rw [ix_marked (by simpa using h)]; simp
theorem marked_set {k : Int} {m : Nat} {xs : List Int} {a : Int} (ha : a = k + m) : (marked k m xs).set m a = marked k (m + 1) xs := list_ext_ix (by simp) fun j hj => by
  simp only [List.length_set, marked_length] at hj
  rw [ix_set (by simpa using hj), ix_marked hj, ix_marked hj]
  by_cases hm : m = j
  · subst hm; simp [ha]
  · rw [if_neg hm]
    by_cases h2 : j < m
    · rw [if_pos h2, if_pos (by omega)]
    · rw [if_neg h2, if_neg (by omega)]
theorem marked_set1 {k : Int} {m m' : Nat} {xs : List Int} {a : Int} (ha : a = k + m) (hm : m' = m + 1) : (marked k m xs).set m a = marked k m' xs := by
  subst hm; exact marked_set ha
theorem marked_set2 {k : Int} {m m' : Nat} {xs : List Int} {a b : Int} (ha : a = k + m) (hb : b = k + m + 1) (hm : m' = m + 2) : ((marked k m xs).set m a).set (m + 1) b = marked k m' xs := by
  rw [marked_set ha]; exact marked_set1 (by omega) (by omega)
theorem marked_set3 {k : Int} {m m' : Nat} {xs : List Int} {a b c : Int} (ha : a = k + m) (hb : b = k + m + 1) (hc : c = k + m + 2) (hm : m' = m + 3) : (((marked k m xs).set m a).set (m + 1) b).set (m + 2) c = marked k m' xs := by
  rw [marked_set ha]; exact marked_set2 (by omega) (by omega) (by omega)
theorem marked_all {k : Int} {m : Nat} {xs : List Int} (h : xs.length = m) : marked k m xs = mks k m := list_ext_ix (by simp [h]) fun j hj => by
  simp only [marked_length] at hj
  rw [ix_marked hj, if_pos (by omega), ix_mks (by omega)]
theorem eq_mks {k : Int} {xs : List Int} {m : Nat} (hl : xs.length = m) (h : ∀ j, j < m → ix xs j = k + j) : xs = mks k m := list_ext_ix (by simp [hl]) fun j hj => by
  rw [h j (by omega), ix_mks (by omega)]
theorem Sl.opn {w : World} {A : Option Addr} {size n c : Nat} {xs : List Value} (h : Sl w (.slice A n c) size n xs) (hn : 0 < n) : ∃ b o, A = some ⟨b, o, none⟩ := by
  obtain ⟨b, o, c', he, _, _⟩ := h.form hn
  injection he with h1
  exact ⟨b, o, h1⟩
theorem Sl.len {w : World} {v : Value} {size n : Nat} {xs : List Int} (h : Sl w v size n (ints xs)) : xs.length = n * size := by simpa using h.1
theorem Sl.le {w : World} {v : Value} {size n : Nat} {xs : List Value} (h : Sl w v size n xs) : n ≤ 9223372036854775807 := by
  obtain ⟨A, c, rfl, h1, h2⟩ := h.form0
  simp only [maxLen] at h2; omega

theorem OpStep.storeOwnInt {E : Env} {f : Fr} {H : List Res} {d : Option Tmp} {ty : TypeId} {pos : String} {after : Array Edge} {gd : Option (Nat × Bool)} {K : Fr → List Res → Prop} {t : TypeId} {x y : Operand} {g cap n m o : Nat} {e : TypeId} {size : Nat} {xs : List Int} {a : Int} {H' : List Res} (ht : (E.P.info? t).map (·.size) = some 1) (hx : f.eval x = .pointer (some ⟨g, o, none⟩)) (hy : f.eval y = .int .i64 a)
    (hH : Turn (.own (.slice (some ⟨g, 0, none⟩) m cap) e size n (ints xs)) (.own (.slice (some ⟨g, 0, none⟩) m cap) e size n (ints (xs.set o a))) H H') (hfit : o < n * size) (hk : K (putF E.n f d undef) H') :
    OpStep E ⟨d, .store t x y, ty, pos, after, gd⟩ f H K := by
  refine OpStep.storeOwn (us := [.int .i64 a]) (cs := ints xs) ht hx rfl (by rw [hy]; rfl) rfl (by rw [ints_set]; exact hH) (by simp only [List.length_cons, List.length_nil]; omega) hk

end Go.Proofs.Ytgoaoifnckhdlaa
