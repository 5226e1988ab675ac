/- Plain functions on numbers and lists that the walks speak of. -/
import Derived.Test.YtnnkoeknejeieaaOps
set_option linter.unusedSimpArgs false
set_option linter.unusedVariables false
namespace Go.Proofs.Ytnnkoeknejeieaa
open Go Go.RowKit

/-- What the conditions of the code say, in one name. -/
theorem bs : (∀ {p : Prop} [inst : Decidable p], (decide p = true) = p) ∧
  (∀ {p : Prop} {x : Decidable p}, decide p = false ↔ ¬p) ∧
  (∀ {α : Type} [inst : BEq α] [LawfulBEq α] {a b : α}, (a == b) = true ↔ a = b) ∧
  (∀ {α : Type} [inst : BEq α] [LawfulBEq α] {a b : α}, (a != b) = true ↔ a ≠ b) ∧
  (∀ {α : Type} [inst : BEq α] [LawfulBEq α] {a b : α}, (a == b) = false ↔ a ≠ b) ∧
  (∀ {α : Type} (a b : α), (a ≠ b) = ¬a = b) ∧
  (∀ {α : Type} [inst : LT α] {x y : α}, x > y ↔ y < x) ∧
  (∀ {α : Type} [inst : LE α] {x y : α}, x ≥ y ↔ y ≤ x) ∧
  (∀ {a b : Int}, ¬a < b ↔ b ≤ a) ∧
  (∀ {a b : Int}, ¬a ≤ b ↔ b < a) ∧
  (∀ {α : Type} [inst : BEq α] [LawfulBEq α] {a b : α}, (a != b) = false ↔ a = b) ∧
  (∀ (b : Bool), ((!b) = true) = (b = false)) ∧
  (∀ (b : Bool), ((!b) = false) = (b = true)) ∧
  (∀ (a b : Bool), ((a && b) = true) = (a = true ∧ b = true)) ∧
  (∀ {x y : Bool}, (x && y) = false ↔ x = false ∨ y = false) ∧
  (∀ (a b : Bool), ((a || b) = true) = (a = true ∨ b = true)) ∧
  (∀ {x y : Bool}, (x || y) = false ↔ x = false ∧ y = false) ∧
  (∀ {p : Prop} [Decidable p], ¬¬p ↔ p) ∧
  (∀ {α : Type} (head : α) (tail : List α) (head_1 : α) (tail_1 : List α), (head :: tail = head_1 :: tail_1) = (head = head_1 ∧ tail = tail_1)) ∧
  ∀ (p : Prop), (p ∧ True) = p :=
  And.intro @decide_eq_true_eq (And.intro @decide_eq_false_iff_not (And.intro @beq_iff_eq.{0} (And.intro @bne_iff_ne.{0} (And.intro @beq_eq_false_iff_ne.{0} (And.intro @ne_eq (And.intro @gt_iff_lt.{0} (And.intro @ge_iff_le.{0} (And.intro @Int.not_lt (And.intro @Int.not_le (And.intro @bne_eq_false_iff_eq.{0} (And.intro @Bool.not_eq_true' (And.intro @Bool.not_eq_false' (And.intro @Bool.and_eq_true (And.intro @Bool.and_eq_false_iff (And.intro @Bool.or_eq_true (And.intro @Bool.or_eq_false_iff (And.intro @Decidable.not_not (And.intro @List.cons.injEq.{0} and_true))))))))))))))))))
/-- A number lies in a range. -/
def within (x lo hi : Int) : Bool := decide (lo ≤ x) && decide (x ≤ hi)
theorem within_iff {x lo hi : Int} : within x lo hi = true ↔ lo ≤ x ∧ x ≤ hi := by simp [within]

/-- A number of 64 bits. -/
def In64 (x : Int) : Prop := -9223372036854775808 ≤ x ∧ x ≤ 9223372036854775807

/-- A list of numbers as cells. -/
def ints (xs : List Int) : List Value := xs.map (Value.int .i64)
def ix (xs : List Int) (i : Nat) : Int := xs.getD i 0
theorem ints_get {xs : List Int} {i : Nat} (h : i < xs.length) : (ints xs)[i]? = some (.int .i64 (ix xs i)) := by
  simp [ints, ix, List.getD, h]
@[simp] theorem ints_length (xs : List Int) : (ints xs).length = xs.length := by simp [ints]
theorem ints_append (xs ys : List Int) : ints (xs ++ ys) = ints xs ++ ints ys := by simp [ints]
theorem ints_set (xs : List Int) (o : Nat) (a : Int) : spl (ints xs) o [.int .i64 a] = ints (xs.set o a) := by
  simp [spl, ints, List.map_set]
theorem pre1 {xs : List Int} {o : Nat} (h : o < xs.length) : Pre (ints xs) o [.int .i64 (ix xs o)] := ⟨ints_get h, trivial⟩
theorem pre2 {xs : List Int} {o : Nat} (h : o + 1 < xs.length) : Pre (ints xs) o [.int .i64 (ix xs o), .int .i64 (ix xs (o + 1))] := ⟨ints_get (by omega), ints_get h, trivial⟩
theorem pre3 {xs : List Int} {o : Nat} (h : o + 2 < xs.length) : Pre (ints xs) o [.int .i64 (ix xs o), .int .i64 (ix xs (o + 1)), .int .i64 (ix xs (o + 2))] := ⟨ints_get (by omega), ints_get (by omega), ints_get h, trivial⟩
theorem ints_all (xs : List Int) : (ints xs).all (·.oneCell') = true := by simp [ints, Value.oneCell']

theorem list_ext_ix {xs ys : List Int} (hl : xs.length = ys.length) (h : ∀ j, j < xs.length → ix xs j = ix ys j) : xs = ys := by
  apply List.ext_getElem hl
  intro i h1 h2
  have := h i h1
  simpa [ix, List.getD, h1, h2] using this

/-- The numbers k, k + 1, .. -/
def mks (k : Int) (m : Nat) : List Int := (List.range m).map fun j : Nat => k + (j : Int)
@[simp] theorem mks_length (k : Int) (m : Nat) : (mks k m).length = m := by simp [mks]
theorem ix_mks {k : Int} {m j : Nat} (h : j < m) : ix (mks k m) j = k + j := by simp [ix, mks, List.getD, h]
/-- A list whose first m numbers are written over so. -/
def marked (k : Int) (m : Nat) (xs : List Int) : List Int := (List.range xs.length).map fun j : Nat => if j < m then k + (j : Int) else ix xs j
@[simp] theorem marked_length (k : Int) (m : Nat) (xs : List Int) : (marked k m xs).length = xs.length := by simp [marked]
theorem ix_marked {k : Int} {m j : Nat} {xs : List Int} (h : j < xs.length) : ix (marked k m xs) j = if j < m then k + (j : Int) else ix xs j := by simp [ix, marked, List.getD, h]
theorem ix_set {xs : List Int} {o j : Nat} {a : Int} (h : j < xs.length) : ix (xs.set o a) j = if o = j then a else ix xs j := by
  simp only [ix, List.getD, List.getElem?_set]
  by_cases ho : o = j
  · subst ho; simp [h]
  · simp [ho]
theorem marked_zero (k : Int) (xs : List Int) : marked k 0 xs = xs := list_ext_ix (by simp) fun j h => by
  rw [ix_marked (by simpa using h)]; simp
theorem marked_set {k : Int} {m : Nat} {xs : List Int} {a : Int} (ha : a = k + m) : (marked k m xs).set m a = marked k (m + 1) xs := list_ext_ix (by simp) fun j hj => by
  simp only [List.length_set, marked_length] at hj
  rw [ix_set (by simpa using hj), ix_marked hj, ix_marked hj]
  by_cases hm : m = j
  · subst hm; simp [ha]
  · rw [if_neg hm]
    by_cases h2 : j < m
    · rw [if_pos h2, if_pos (by omega)]
    · rw [if_neg h2, if_neg (by omega)]
theorem marked_set1 {k : Int} {m m' : Nat} {xs : List Int} {a : Int} (ha : a = k + m) (hm : m' = m + 1) : (marked k m xs).set m a = marked k m' xs := by
  subst hm; exact marked_set ha
theorem marked_set2 {k : Int} {m m' : Nat} {xs : List Int} {a b : Int} (ha : a = k + m) (hb : b = k + m + 1) (hm : m' = m + 2) : ((marked k m xs).set m a).set (m + 1) b = marked k m' xs := by
  rw [marked_set ha]; exact marked_set1 (by omega) (by omega)
theorem marked_set3 {k : Int} {m m' : Nat} {xs : List Int} {a b c : Int} (ha : a = k + m) (hb : b = k + m + 1) (hc : c = k + m + 2) (hm : m' = m + 3) : (((marked k m xs).set m a).set (m + 1) b).set (m + 2) c = marked k m' xs := by
  rw [marked_set ha]; exact marked_set2 (by omega) (by omega) (by omega)
theorem marked_all {k : Int} {m : Nat} {xs : List Int} (h : xs.length = m) : marked k m xs = mks k m := list_ext_ix (by simp [h]) fun j hj => by
  simp only [marked_length] at hj
  rw [ix_marked hj, if_pos (by omega), ix_mks (by omega)]
theorem eq_mks {k : Int} {xs : List Int} {m : Nat} (hl : xs.length = m) (h : ∀ j, j < m → ix xs j = k + j) : xs = mks k m := list_ext_ix (by simp [hl]) fun j hj => by
  rw [h j (by omega), ix_mks (by omega)]
theorem Sl.opn {w : World} {A : Option Addr} {size n c : Nat} {xs : List Value} (h : Sl w (.slice A n c) size n xs) (hn : 0 < n) : ∃ b o, A = some ⟨b, o, none⟩ := by
  obtain ⟨b, o, c', he, _, _⟩ := h.form hn
  injection he with h1
  exact ⟨b, o, h1⟩
theorem Sl.len {w : World} {v : Value} {size n : Nat} {xs : List Int} (h : Sl w v size n (ints xs)) : xs.length = n * size := by simpa using h.1
theorem Sl.le {w : World} {v : Value} {size n : Nat} {xs : List Value} (h : Sl w v size n xs) : n ≤ 9223372036854775807 := by
  obtain ⟨A, c, rfl, h1, h2⟩ := h.form0
  simp only [maxLen] at h2; omega

theorem OpStep.storeOwnInt {E : Env} {f : Fr} {H : List Res} {d : Option Tmp} {ty : TypeId} {pos : String} {after : Array Edge} {gd : Option (Nat × Bool)} {K : Fr → List Res → Prop} {t : TypeId} {x y : Operand} {g cap n m o : Nat} {e : TypeId} {size : Nat} {xs : List Int} {a : Int} {H' : List Res} (ht : (E.P.info? t).map (·.size) = some 1) (hx : f.eval x = .pointer (some ⟨g, o, none⟩)) (hy : f.eval y = .int .i64 a)
    (hH : Turn (.own (.slice (some ⟨g, 0, none⟩) m cap) e size n (ints xs)) (.own (.slice (some ⟨g, 0, none⟩) m cap) e size n (ints (xs.set o a))) H H') (hfit : o < n * size) (hk : K (putF E.n f d undef) H') :
    OpStep E ⟨d, .store t x y, ty, pos, after, gd⟩ f H K := by
  refine OpStep.storeOwn (us := [.int .i64 a]) (cs := ints xs) ht hx rfl (by rw [hy]; rfl) rfl (by rw [ints_set]; exact hH) (by simp only [List.length_cons, List.length_nil]; omega) hk

theorem OpStep.storeInts {E : Env} {f : Fr} {H : List Res} {d : Option Tmp} {ty : TypeId} {pos : String} {after : Array Edge} {gd : Option (Nat × Bool)} {K : Fr → List Res → Prop} {t : TypeId} {x y : Operand} {b o : Nat} {e : TypeId} {xs : List Int} {a : Int} {H' : List Res} (ht : (E.P.info? t).map (·.size) = some 1) (hx : f.eval x = .pointer (some ⟨b, o, none⟩)) (hy : f.eval y = .int .i64 a)
    (hH : Turn (.blk b e (ints xs)) (.blk b e (ints (xs.set o a))) H H') (hfit : o < xs.length) (hk : K (putF E.n f d undef) H') :
    OpStep E ⟨d, .store t x y, ty, pos, after, gd⟩ f H K :=
  OpStep.storeInt (xs := ints xs) ht hx hy (by have e : (ints xs).set o (.int .i64 a) = ints (xs.set o a) := by simp [ints, List.map_set]
                                               rw [e]; exact hH) (by simpa using hfit) hk

theorem OpStep.storeOwnInt2 {E : Env} {f : Fr} {H : List Res} {d : Option Tmp} {ty : TypeId} {pos : String} {after : Array Edge} {gd : Option (Nat × Bool)} {K : Fr → List Res → Prop} {t : TypeId} {x y : Operand} {g cap n m o : Nat} {e : TypeId} {size : Nat} {xs : List Int} {a b : Int} {H' : List Res} (ht : (E.P.info? t).map (·.size) = some 2) (hx : f.eval x = .pointer (some ⟨g, o, none⟩)) (hy : f.eval y = .agg #[.int .i64 a, .int .i64 b])
    (hH : Turn (.own (.slice (some ⟨g, 0, none⟩) m cap) e size n (ints xs)) (.own (.slice (some ⟨g, 0, none⟩) m cap) e size n (ints ((xs.set o a).set (o + 1) b))) H H') (hfit : o + 2 ≤ n * size) (hk : K (putF E.n f d undef) H') :
    OpStep E ⟨d, .store t x y, ty, pos, after, gd⟩ f H K := by
  refine OpStep.storeOwn (v := .slice (some ⟨g, 0, none⟩) m cap) (e := e) (m := m) (cap := cap) (us := [.int .i64 a, .int .i64 b]) (cs := ints xs) ht hx rfl (by rw [hy]; rfl) rfl ?_ hfit hk
  have e : spl (ints xs) o [.int .i64 a, .int .i64 b] = ints ((xs.set o a).set (o + 1) b) := by simp [spl, ints, List.map_set]
  rw [e]; exact hH
theorem OpStep.storeOwnInt3 {E : Env} {f : Fr} {H : List Res} {d : Option Tmp} {ty : TypeId} {pos : String} {after : Array Edge} {gd : Option (Nat × Bool)} {K : Fr → List Res → Prop} {t : TypeId} {x y : Operand} {g cap n m o : Nat} {e : TypeId} {size : Nat} {xs : List Int} {a b c : Int} {H' : List Res} (ht : (E.P.info? t).map (·.size) = some 3) (hx : f.eval x = .pointer (some ⟨g, o, none⟩)) (hy : f.eval y = .agg #[.int .i64 a, .int .i64 b, .int .i64 c])
    (hH : Turn (.own (.slice (some ⟨g, 0, none⟩) m cap) e size n (ints xs)) (.own (.slice (some ⟨g, 0, none⟩) m cap) e size n (ints (((xs.set o a).set (o + 1) b).set (o + 2) c))) H H') (hfit : o + 3 ≤ n * size) (hk : K (putF E.n f d undef) H') :
    OpStep E ⟨d, .store t x y, ty, pos, after, gd⟩ f H K := by
  refine OpStep.storeOwn (v := .slice (some ⟨g, 0, none⟩) m cap) (e := e) (m := m) (cap := cap) (us := [.int .i64 a, .int .i64 b, .int .i64 c]) (cs := ints xs) ht hx rfl (by rw [hy]; rfl) rfl ?_ hfit hk
  have e : spl (ints xs) o [.int .i64 a, .int .i64 b, .int .i64 c] = ints (((xs.set o a).set (o + 1) b).set (o + 2) c) := by simp [spl, ints, List.map_set]
  rw [e]; exact hH

/-- A list that is being copied: behind the first m numbers 0. -/
def filled (m : Nat) (xs : List Int) : List Int := (List.range xs.length).map fun j : Nat => if j < m then ix xs j else 0
@[simp] theorem filled_length (m : Nat) (xs : List Int) : (filled m xs).length = xs.length := by simp [filled]
theorem ix_filled {m j : Nat} {xs : List Int} (h : j < xs.length) : ix (filled m xs) j = if j < m then ix xs j else 0 := by simp [ix, filled, List.getD, h]
theorem filled_all {m : Nat} {xs : List Int} (h : xs.length ≤ m) : filled m xs = xs := list_ext_ix (by simp) fun j hj => by
  simp only [filled_length] at hj
  rw [ix_filled hj, if_pos (by omega)]
theorem filled_set {m m' : Nat} {xs : List Int} {a : Int} (ha : a = ix xs m) (hm : m' = m + 1) : (filled m xs).set m a = filled m' xs := list_ext_ix (by simp) fun j hj => by
  subst hm
  simp only [List.length_set, filled_length] at hj
  rw [ix_set (by simpa using hj), ix_filled hj, ix_filled hj]
  by_cases h : m = j
  · subst h; simp [ha]
  · rw [if_neg h]
    by_cases h2 : j < m
    · rw [if_pos h2, if_pos (by omega)]
    · rw [if_neg h2, if_neg (by omega)]
theorem filled_set1 {m m' : Nat} {xs : List Int} (hm : m' = m + 1) : (filled m xs).set m (ix xs m) = filled m' xs := filled_set rfl hm
theorem filled_set2 {m m' : Nat} {xs : List Int} (hm : m' = m + 2) : ((filled m xs).set m (ix xs m)).set (m + 1) (ix xs (m + 1)) = filled m' xs := by
  rw [filled_set1 rfl]; exact filled_set1 (by omega)
theorem filled_set3 {m m' : Nat} {xs : List Int} (hm : m' = m + 3) : (((filled m xs).set m (ix xs m)).set (m + 1) (ix xs (m + 1))).set (m + 2) (ix xs (m + 2)) = filled m' xs := by
  rw [filled_set2 rfl]; exact filled_set1 (by omega)
theorem filled_zero {n size : Nat} {xs : List Int} (h : xs.length = n * size) : (List.replicate n (List.replicate size (Value.int .i64 0))).flatten = ints (filled 0 xs) := by
  have e : (List.replicate n (List.replicate size (Value.int .i64 0))).flatten = List.replicate (n * size) (Value.int .i64 0) := by simp [List.flatten_replicate_replicate]
  rw [e]
  unfold ints filled
  rw [← h]
  apply List.ext_getElem (by simp)
  intro i h1 h2
  simp

/-- What is left of a purse behind the lengths of some slices; -1 where it does not suffice. -/
def szN : Int → List Nat → Int
  | l, [] => l
  | l, n :: ns => if l - n < 0 then -1 else szN (l - n) ns
theorem szN_neg : ∀ {ns : List Nat} {l : Int}, 0 ≤ l → szN l ns < 0 → szN l ns = -1
  | [], l, h, h2 => by simp only [szN] at h2 ⊢; omega
  | n :: ns, l, h, h2 => by
    simp only [szN] at h2 ⊢
    split
    · rfl
    · rename_i hn; rw [if_neg hn] at h2; exact szN_neg (by omega) h2
theorem szN_bound : ∀ {ns : List Nat} {l : Int}, 0 ≤ szN l ns → ∀ n ∈ ns, (n : Int) ≤ l ∧ szN l ns ≤ l
  | n :: ns, l, h, m, hm => by
    simp only [szN] at h ⊢
    split at h
    · omega
    · rename_i hn
      rw [if_neg hn]
      rcases List.mem_cons.1 hm with rfl | hm
      · refine ⟨by omega, ?_⟩
        cases ns with
        | nil => simp only [szN]; omega
        | cons a b => have := szN_bound h a (by simp); omega
      · have := szN_bound h m hm; omega

end Go.Proofs.Ytnnkoeknejeieaa
