/- Plain laws: the reference's search for networks. -/
import Derived.Test.YteehfidjofcfmaaNws
import Derived.Test.YteehfidjofcfmaaDis
set_option linter.unusedSimpArgs false
set_option linter.unusedVariables false
namespace Go.Proofs.Yteehfidjofcfmaa
open Go Go.RowKit

/-- The set with the first k masks that are rows. -/
def seenK (f : Nat) (l : List Nat) (ms : List Int) : Nat → Nat
  | 0 => f
  | k + 1 => if hasI (nl l) (ix ms k) l.length = true then seenK f l ms k ||| 2 ^ k else seenK f l ms k
theorem hasI_rows {l : List Nat} {x : Int} : hasI (nl l) x l.length = true ↔ ∃ j, j < l.length ∧ ((nx l j : Nat) : Int) = x := by
  rw [hasI, anyI_iff]
  constructor
  · rintro ⟨j, h1, h2⟩
    exact ⟨j, h1, by rw [← ix_nl]; simpa using h2⟩
  · rintro ⟨j, h1, h2⟩
    exact ⟨j, h1, by rw [decide_eq_true_eq, ix_nl]; exact h2⟩
theorem seenK_bit (f : Nat) (l : List Nat) (ms : List Int) (i : Nat) : ∀ k, (seenK f l ms k).testBit i = (f.testBit i || (decide (i < k) && hasI (nl l) (ix ms i) l.length))
  | 0 => by simp [seenK]
  | k + 1 => by
    have ih := seenK_bit f l ms i k
    rw [seenK]
    by_cases hc : hasI (nl l) (ix ms k) l.length = true
    · rw [if_pos hc, Nat.testBit_or, ih, Nat.testBit_two_pow]
      by_cases hik : k = i
      · subst hik; simp [hc]
      · have h6 : decide (i < k + 1) = decide (i < k) := by rw [Bool.eq_iff_iff, decide_eq_true_eq, decide_eq_true_eq]; omega
        rw [h6]; simp [hik]
    · rw [if_neg hc, ih]
      by_cases hik : k = i
      · subst hik
        have : hasI (nl l) (ix ms k) l.length = false := by simpa using hc
        simp [this]
      · have h6 : decide (i < k + 1) = decide (i < k) := by rw [Bool.eq_iff_iff, decide_eq_true_eq, decide_eq_true_eq]; omega
        rw [h6]
theorem seenK_lt {f : Nat} {l : List Nat} {ms : List Int} (hf : f < 2 ^ ms.length) : ∀ k, k ≤ ms.length → seenK f l ms k < 2 ^ ms.length
  | 0, _ => hf
  | k + 1, hk => by
    have ih := seenK_lt (l := l) hf k (by omega)
    rw [seenK]; split
    · exact Nat.or_lt_two_pow ih (Nat.pow_lt_pow_right (by omega) (by omega))
    · exact ih
theorem bits_eq {a b k : Nat} (ha : a < 2 ^ k) (hb : b < 2 ^ k) (h : ∀ i, i < k → a.testBit i = b.testBit i) : a = b := by
  refine Nat.eq_of_testBit_eq fun i => ?_
  by_cases hi : i < k
  · exact h i hi
  · rw [Nat.testBit_lt_two_pow (Nat.lt_of_lt_of_le ha (Nat.pow_le_pow_right (by omega) (by omega))), Nat.testBit_lt_two_pow (Nat.lt_of_lt_of_le hb (Nat.pow_le_pow_right (by omega) (by omega)))]
theorem seen_step {n : Nat} {ms : List Int} {l : List Nat} {f : Nat} (h : mskOk n ms ms.length = true) (hn : Noted ms l f) (hf : f < 2 ^ ms.length) (a b : Nat) (hb : b < l.length) : seenK f (cx l (a, b)) ms ms.length = apx f ms ((nx (cx l (a, b)) b : Nat) : Int) := by
  refine bits_eq (seenK_lt hf _ (Nat.le_refl _)) (apx_lt hf (Nat.le_refl _)) fun i hi => ?_
  rw [seenK_bit, apx_bit h hi, decide_eq_true hi, Bool.true_and]
  cases hfb : f.testBit i with
  | true => simp
  | false =>
    rw [Bool.false_or, Bool.false_or, Bool.eq_iff_iff, hasI_rows, decide_eq_true_eq]
    have hcl : (cx l (a, b)).length = l.length := by simp [cx]
    constructor
    · rintro ⟨j, hj, he⟩
      rw [hcl] at hj
      by_cases hjb : b = j
      · subst hjb; exact he.symm
      · rw [nx_cx hj, if_neg hjb] at he
        have := hn i hi ⟨j, hj, he⟩
        rw [hfb] at this; cases this
    · intro he; exact ⟨b, by rw [hcl]; exact hb, he.symm⟩
theorem apF_iff {n : Nat} {ms : List Int} (h : mskOk n ms ms.length = true) {i : Nat} (hi : i < ms.length) : ∀ {q : Nat}, (apF ms q).testBit i = true ↔ ∃ j, j < q ∧ ((2 ^ j : Nat) : Int) = ix ms i
  | 0 => by simp [apF]
  | q + 1 => by
    have ih := apF_iff h hi (q := q)
    rw [apF, apx_bit h hi, Bool.or_eq_true, ih, decide_eq_true_eq]
    constructor
    · rintro (⟨j, h1, h2⟩ | h1)
      · exact ⟨j, by omega, h2⟩
      · exact ⟨q, by omega, h1.symm⟩
    · rintro ⟨j, h1, h2⟩
      by_cases hj : j = q
      · subst hj; exact .inr h2.symm
      · exact .inl ⟨j, by omega, h2⟩
theorem seen_first {n : Nat} {ms : List Int} (h : mskOk n ms ms.length = true) : seenK 0 (idL n) ms ms.length = apF ms n := by
  refine bits_eq (seenK_lt (Nat.two_pow_pos _) _ (Nat.le_refl _)) (apF_lt n) fun i hi => ?_
  rw [seenK_bit, decide_eq_true hi, Nat.zero_testBit, Bool.false_or, Bool.true_and, Bool.eq_iff_iff, hasI_rows, apF_iff h hi, idL_length]
  constructor
  · rintro ⟨j, h1, h2⟩; exact ⟨j, h1, by rw [← nx_idL h1]; exact h2⟩
  · rintro ⟨j, h1, h2⟩; exact ⟨j, h1, by rw [nx_idL h1]; exact h2⟩
/-- Codes of states. -/
def cdS (f : Nat) (l : List Nat) : Nat → Nat
  | 0 => f
  | k + 1 => cdS f l k * 8 ||| nx l k
theorem cdS_succ {l : List Nat} (h : ∀ i, nx l i < 8) (f k : Nat) : cdS f l (k + 1) = cdS f l k * 8 + nx l k := by
  have := Nat.two_pow_add_eq_or_of_lt (i := 3) (h k) (cdS f l k)
  rw [cdS, Nat.mul_comm (cdS f l k) 8]
  exact this.symm
theorem cdS_lt {l : List Nat} {f : Nat} (h : ∀ i, nx l i < 8) (hf : f < 128) : ∀ k, cdS f l k < 128 * 8 ^ k
  | 0 => by simpa [cdS] using hf
  | k + 1 => by
    have ih := cdS_lt h hf k
    have h1 := h k
    rw [cdS_succ h, Nat.pow_succ]; omega
theorem cdS_inj {l l' : List Nat} {f f' : Nat} (h : ∀ i, nx l i < 8) (h' : ∀ i, nx l' i < 8) : ∀ k, cdS f l k = cdS f' l' k → f = f' ∧ ∀ i, i < k → nx l i = nx l' i
  | 0, e => ⟨e, fun i hi => by omega⟩
  | k + 1, e => by
    rw [cdS_succ h, cdS_succ h'] at e
    have h1 := h k
    have h2 := h' k
    obtain ⟨g1, g2⟩ := cdS_inj (f := f) (f' := f') h h' k (by omega)
    refine ⟨g1, fun i hi => ?_⟩
    by_cases hk : i = k
    · subst hk; omega
    · exact g2 i (by omega)
def cdE (k : List Nat × Nat) : Nat := cdS k.2 k.1 k.1.length
theorem mK8 {n : Nat} (h3 : n ≤ 3) {l : List Nat} (h : ∀ j, nx l j < 2 ^ n) : ∀ j, nx l j < 8 := fun j => Nat.lt_of_lt_of_le (h j) (Nat.pow_le_pow_right (n := 2) (by omega) h3)
theorem cdE_lt {n : Nat} {ms : List Int} (h3 : n ≤ 3) (hm : ms.length ≤ 7) {k : List Nat × Nat} (h : mK n ms k) : cdE k < 65536 := by
  have h2 : k.2 < 128 := Nat.lt_of_lt_of_le h.2.2 (Nat.le_trans (Nat.pow_le_pow_right (by omega) hm) (by decide))
  have h1 := cdS_lt (mK8 h3 h.2.1) h2 k.1.length
  have h4 : 8 ^ k.1.length ≤ 512 := by rw [h.1]; exact Nat.le_trans (Nat.pow_le_pow_right (by omega) h3) (by decide)
  simp only [cdE]; omega
theorem cdE_inj {n : Nat} {ms : List Int} (h3 : n ≤ 3) {k k' : List Nat × Nat} (h : mK n ms k) (h' : mK n ms k') (e : cdE k = cdE k') : k = k' := by
  simp only [cdE] at e
  rw [h.1, h'.1] at e
  obtain ⟨g1, g2⟩ := cdS_inj (mK8 h3 h.2.1) (mK8 h3 h'.2.1) n e
  exact Prod.ext (list_ext_nx (h.1.trans h'.1.symm) fun i hi => g2 i (by rw [h.1] at hi; exact hi)) g1
/-- The table of states that were met. -/
def bls (l : List Bool) : List Value := l.map Value.bool
def bx (l : List Bool) (i : Nat) : Bool := l.getD i false
theorem bls_get {l : List Bool} {i : Nat} (h : i < l.length) : (bls l)[i]? = some (.bool (bx l i)) := by simp [bls, bx, List.getD, h]
theorem preBl {l : List Bool} {i : Nat} (h : i < l.length) : Pre (bls l) i [.bool (bx l i)] := ⟨bls_get h, trivial⟩
def metA : List Bool → List Nat → List Bool
  | f, [] => f
  | f, c :: cs => metA (f.set c true) cs
theorem metA_length : ∀ (cs : List Nat) (f : List Bool), (metA f cs).length = f.length
  | [], _ => rfl
  | c :: cs, f => by rw [metA, metA_length cs]; simp
theorem metA_snoc : ∀ (cs : List Nat) (f : List Bool) (c : Nat), metA f (cs ++ [c]) = (metA f cs).set c true
  | [], _, _ => rfl
  | x :: cs, f, c => by rw [List.cons_append, metA, metA_snoc cs, metA]
theorem bx_set {l : List Bool} {i j : Nat} (h : j < l.length) : bx (l.set i true) j = (bx l j || decide (i = j)) := by
  simp only [bx, List.getD, List.getElem?_set]
  by_cases hi : i = j
  · subst hi; simp [h]
  · simp [hi]
theorem bx_metA : ∀ (cs : List Nat) (f : List Bool) (c : Nat), c < f.length → bx (metA f cs) c = (bx f c || decide (c ∈ cs))
  | [], _, _, _ => by simp [metA]
  | x :: cs, f, c, h => by
    rw [metA, bx_metA cs _ c (by simpa using h), bx_set h]
    by_cases hx : x = c
    · subst hx; simp
    · have : (c ∈ x :: cs) ↔ c ∈ cs := by
        rw [List.mem_cons]; exact ⟨fun h => h.elim (fun e => absurd e.symm hx) id, .inr⟩
      simp [hx, this]
def metL (N : Nat) (cs : List Nat) : List Bool := metA (List.replicate N false) cs
theorem metL_length (N : Nat) (cs : List Nat) : (metL N cs).length = N := by rw [metL, metA_length, List.length_replicate]
theorem metL_snoc (N : Nat) (cs : List Nat) (c : Nat) : metL N (cs ++ [c]) = (metL N cs).set c true := metA_snoc ..
theorem bx_metL {N : Nat} {cs : List Nat} {c : Nat} (h : c < N) : bx (metL N cs) c = decide (c ∈ cs) := by
  rw [metL, bx_metA _ _ _ (by rw [List.length_replicate]; exact h)]
  simp [bx, List.getD, h]
theorem bls_zero (N : Nat) : (List.replicate N ([.bool false] : List Value)).flatten = bls (metL N []) := by
  show _ = bls (List.replicate N false)
  induction N with
  | zero => rfl
  | succ N ih => rw [List.replicate_succ, List.flatten_cons, ih]; simp [bls, List.replicate_succ]
theorem bls_set (l : List Bool) (c : Nat) : spl (bls l) c [.bool true] = bls (l.set c true) := by
  show (bls l).set c (.bool true) = _
  simp [bls, List.map_set]
/-- States of the list: rows, key and path, parent, gate. -/
abbrev NZ := Value × (BQ × (Int × (Int × (Int × Int))))
def ncell (z : NZ) : List Value := [z.1, .int .i64 ((z.2.1.1.2 : Nat) : Int), .int .i64 z.2.2.1, .int .i64 z.2.2.2.1, .int .i64 z.2.2.2.2.1, .int .i64 z.2.2.2.2.2, .int .i64 0]
def ncells (zs : List NZ) : List Value := (zs.map ncell).flatten
abbrev nk (zs : List NZ) : List BQ := zs.map fun z => z.2.1
abbrev ncd (zs : List NZ) : List Nat := zs.map fun z => cdE z.2.1.1
theorem ncells_length : ∀ zs : List NZ, (ncells zs).length = zs.length * 7
  | [] => rfl
  | z :: zs => by
    have := ncells_length zs
    simp only [ncells, List.map_cons, List.flatten_cons, List.length_append, List.length_cons] at this ⊢
    simp only [ncell, List.length_cons, List.length_nil]
    omega
theorem ncells_snoc (zs : List NZ) (z : NZ) : ncells zs ++ ncell z = ncells (zs ++ [z]) := by simp [ncells]
theorem preN {zs : List NZ} {i : Nat} {z : NZ} (h : zs[i]? = some z) : Pre (ncells zs) (i * 7) (ncell z) := by
  obtain ⟨hi, he⟩ := List.getElem?_eq_some_iff.1 h
  have e : zs = zs.take i ++ z :: zs.drop (i + 1) := by rw [← he, List.getElem_cons_drop, List.take_append_drop]
  refine Pre.of fun j v hv => ?_
  have hj : j < (ncell z).length := (List.getElem?_eq_some_iff.1 hv).1
  have hl : (ncells (zs.take i)).length = i * 7 := by rw [ncells_length, List.length_take, Nat.min_eq_left (by omega)]
  have e2 : ncells zs = ncells (zs.take i) ++ (ncell z ++ ncells (zs.drop (i + 1))) := by
    conv => lhs; rw [e]
    simp [ncells]
  rw [e2, List.getElem?_append_right (by omega), hl, show i * 7 + j - i * 7 = j by omega, List.getElem?_append_left hj]
  exact hv
def nm (n : Nat) (z : NZ) : Value × Nat × List Value := (z.1, n, ints (nl z.2.1.1.1))
def ngp (n : Nat) (zs : List NZ) : List (Value × Nat × List Value) := zs.map (nm n)
theorem ng_mem {n : Nat} {zs : List NZ} {z : NZ} (h : z ∈ zs) : nm n z ∈ ngp n zs := List.mem_map.2 ⟨z, h, rfl⟩
theorem Weak.ngSnoc {H : List Res} {e : TypeId} {n : Nat} {zs : List NZ} {v : Value} {k : List Nat × Nat} {p : List Nat} {r : Int × (Int × (Int × Int))} : Weak (.own v e 1 n (ints (nl k.1)) :: .grp e 1 (ngp n zs) :: H) (.grp e 1 (ngp n (zs ++ [(v, ((k, p), r))])) :: H) := by
  have h := Weak.grpSnocR (H := H) (e := e) (size := 1) (v := v) (n := n) (xs := ints (nl k.1)) (l := ngp n zs)
  have e2 : ngp n (zs ++ [(v, ((k, p), r))]) = ngp n zs ++ [(v, n, ints (nl k.1))] := by simp [ngp, nm]
  rw [e2]; exact h
/-- The gate of a number. -/
def gt3 (n e : Nat) : Int × (Int × Int) := (9, ((e / n : Nat) : Int), ((e % n : Nat) : Int))
/-- Each state tells its parent. -/
def LinkAt (n : Nat) (zs : List NZ) (t : Nat) (z : NZ) : Prop := (z.2.1.2 = [] ∧ z.2.2 = (-1, (0, (0, 0)))) ∨ ∃ r y e, r < t ∧ zs[r]? = some y ∧ z.2.1.2 = y.2.1.2 ++ [e] ∧ z.2.2 = ((r : Int), gt3 n e)
def Linked (n : Nat) (zs : List NZ) : Prop := ∀ t z, zs[t]? = some z → LinkAt n zs t z
theorem Linked.one {n : Nat} {z : NZ} (h : z.2.1.2 = [] ∧ z.2.2 = (-1, (0, (0, 0)))) : Linked n [z] := by
  intro t y hy
  cases t with
  | zero => cases hy; exact .inl h
  | succ t => simp at hy
theorem Linked.snoc {n : Nat} {zs : List NZ} {z : NZ} (h : Linked n zs) {r : Nat} {y : NZ} {e : Nat} (hy : zs[r]? = some y) (h1 : z.2.1.2 = y.2.1.2 ++ [e]) (h2 : z.2.2 = ((r : Int), gt3 n e)) : Linked n (zs ++ [z]) := by
  have up : ∀ {r : Nat} {y : NZ}, zs[r]? = some y → (zs ++ [z])[r]? = some y := fun hy => by rw [List.getElem?_append_left (List.getElem?_eq_some_iff.1 hy).1]; exact hy
  intro t x hx
  by_cases ht : t < zs.length
  · rw [List.getElem?_append_left ht] at hx
    rcases h t x hx with h3 | ⟨r, y, e, g1, g2, g3, g4⟩
    · exact .inl h3
    · exact .inr ⟨r, y, e, g1, up g2, g3, g4⟩
  · have htl : t = zs.length := by
      have := (List.getElem?_eq_some_iff.1 hx).1
      simp at this; omega
    subst htl
    rw [List.getElem?_append_right (Nat.le_refl _)] at hx
    simp at hx; subst hx
    exact .inr ⟨r, y, e, (List.getElem?_eq_some_iff.1 hy).1, up hy, h1, h2⟩
/-- What has been told of a path. -/
def OutI (n : Nat) (zs : List NZ) (p : List Nat) (kk : Int) (os : List NZ) : Prop :=
  (∃ t z r, kk = ((t : Nat) : Int) ∧ zs[t]? = some z ∧ p = z.2.1.2 ++ r ∧ os.map (fun z => z.2.2.2) = r.reverse.map (gt3 n)) ∨ (kk = -1 ∧ os.map (fun z => z.2.2.2) = p.reverse.map (gt3 n) ++ [(0, (0, 0))])
theorem OutI.step {n : Nat} {zs : List NZ} {p : List Nat} {os : List NZ} (hl : Linked n zs) {t : Nat} {z : NZ} {r : List Nat} (hz : zs[t]? = some z) (hp : p = z.2.1.2 ++ r) (ho : os.map (fun z => z.2.2.2) = r.reverse.map (gt3 n)) :
    OutI n zs p z.2.2.1 (os ++ [z]) ∧ z.2.2.1 < (t : Int) := by
  rcases hl t z hz with ⟨h1, h2⟩ | ⟨s, y, e, h1, h2, h3, h4⟩
  · refine ⟨.inr ⟨by rw [h2], ?_⟩, by rw [h2]; show (-1 : Int) < _; omega⟩
    rw [h1, List.nil_append] at hp
    rw [List.map_append, ho, hp]; simp [h2]
  · refine ⟨.inl ⟨s, y, e :: r, by rw [h4], h2, by rw [hp, h3, List.append_assoc]; rfl, ?_⟩, by rw [h4]; show (s : Int) < t; omega⟩
    rw [List.map_append, ho]; simp [h4]

end Go.Proofs.Yteehfidjofcfmaa
