/- Walks: permutations as swaps. -/
import Derived.Test.YtgghmjijjdboeaaEl
import Derived.Test.YtgghmjijjdboeaaProg
set_option linter.unusedSimpArgs false
set_option linter.unusedVariables false
namespace Go.Proofs.Ytgghmjijjdboeaa
open Go Go.RowKit
namespace PmT
theorem Tcall_104 : callable Try.prog 104 = true := by kernel_rfl
theorem Tcall_39 : callable Try.prog 39 = true := by kernel_rfl
theorem Tcall_41 : callable Try.prog 41 = true := by kernel_rfl
theorem Tcall_57 : callable Try.prog 57 = true := by kernel_rfl
theorem Tcall_59 : callable Try.prog 59 = true := by kernel_rfl
theorem Tcall_61 : callable Try.prog 61 = true := by kernel_rfl
theorem Tcall_62 : callable Try.prog 62 = true := by kernel_rfl
theorem Tcall_63 : callable Try.prog 63 = true := by kernel_rfl
theorem Tcall_64 : callable Try.prog 64 = true := by kernel_rfl
theorem Tcall_66 : callable Try.prog 66 = true := by kernel_rfl
theorem Tcall_74 : callable Try.prog 74 = true := by kernel_rfl
theorem Tcall_78 : callable Try.prog 78 = true := by kernel_rfl
theorem Tcall_83 : callable Try.prog 83 = true := by kernel_rfl
theorem Tcall_84 : callable Try.prog 84 = true := by kernel_rfl
theorem Tcall_88 : callable Try.prog 88 = true := by kernel_rfl
theorem Tcall_94 : callable Try.prog 94 = true := by kernel_rfl
theorem Tcall_98 : callable Try.prog 98 = true := by kernel_rfl
theorem Tint_3 : Try.prog.underlying 3 = some (.int .i64) := by kernel_rfl
theorem Tint_5 : Try.prog.underlying 5 = some (.int .u8) := by kernel_rfl
theorem Tint_88 : Try.prog.underlying 88 = some (.int .u64) := by kernel_rfl
theorem Tone_3 : oneOf Try.prog 3 = true := by kernel_rfl
theorem Tsize_3 : (Try.prog.info? 3).map (·.size) = some 1 := by kernel_rfl
theorem Tsl_34 : sliceOf Try.prog 34 = some (3, 1, 8, [.int .i64 0]) := by kernel_rfl
theorem Tsl_46 : sliceOf Try.prog 46 = some (50, 3, 24, [.int .i64 0, .int .i64 0, .int .i64 0]) := by kernel_rfl
theorem Tsome_3 : (Try.prog.underlying 3).isSome = true := by kernel_rfl
theorem Tsome_5 : (Try.prog.underlying 5).isSome = true := by kernel_rfl
theorem Tsome_58 : (Try.prog.underlying 58).isSome = true := by kernel_rfl
end PmT
open PmT

def swp (zs : List Int) (a b : Nat) : List Int := (zs.set a (ix zs b)).set b (ix zs a)
@[simp] theorem swp_length (zs : List Int) (a b : Nat) : (swp zs a b).length = zs.length := by simp [swp]
theorem ix_swp {zs : List Int} {a b j : Nat} (ha : a < zs.length) (hb : b < zs.length) (hj : j < zs.length) : ix (swp zs a b) j = if b = j then ix zs a else if a = j then ix zs b else ix zs j := by
  rw [swp, ix_set (by simpa using hj)]
  split
  · rfl
  · rw [ix_set hj]
theorem ix_getElem {zs : List Int} {a : Nat} (ha : a < zs.length) : ix zs a = zs[a] := by simp [ix, List.getD, ha]
theorem swp_perm {zs : List Int} {a b : Nat} (ha : a < zs.length) (hb : b < zs.length) : (swp zs a b).Perm zs := by
  unfold swp
  rw [ix_getElem ha, ix_getElem hb]
  exact List.set_set_perm ha hb
/-- The first i numbers are sorted. -/
def srt (zs : List Int) (i : Nat) : Prop := ∀ p q, p < q → q < i → ix zs p ≤ ix zs q
/-- The first i + 1 numbers are sorted, but for number j, which is not greater than those behind it. -/
structure Ins (zs : List Int) (i j : Nat) : Prop where
  rest : ∀ p q, p < q → q ≤ i → p ≠ j → q ≠ j → ix zs p ≤ ix zs q
  low : ∀ q, j < q → q ≤ i → ix zs j ≤ ix zs q
theorem Ins.start {zs : List Int} {i : Nat} (h : srt zs i) : Ins zs i i :=
  ⟨fun p q h1 h2 h3 h4 => h p q h1 (by omega), fun q h1 h2 => by omega⟩
theorem Ins.swap {zs : List Int} {i j : Nat} (h : Ins zs i j) (hj : 0 < j) (hji : j ≤ i) (hi : i < zs.length) (hlt : ix zs j < ix zs (j - 1)) : Ins (swp zs j (j - 1)) i (j - 1) := by
  have hx : ∀ q, q ≤ i → ix (swp zs j (j - 1)) q = if j - 1 = q then ix zs j else if j = q then ix zs (j - 1) else ix zs q := fun q hq => ix_swp (by omega) (by omega) (by omega)
  refine ⟨fun p q h1 h2 h3 h4 => ?_, fun q h1 h2 => ?_⟩
  · rw [hx p (by omega), hx q h2, if_neg (show ¬ (j - 1 = p) by omega), if_neg (show ¬ (j - 1 = q) by omega)]
    by_cases e1 : j = p
    · rw [if_pos e1, if_neg (show ¬ (j = q) by omega)]
      exact h.rest (j - 1) q (by omega) h2 (by omega) (by omega)
    · rw [if_neg e1]
      by_cases e2 : j = q
      · rw [if_pos e2]; exact h.rest p (j - 1) (by omega) (by omega) (by omega) (by omega)
      · rw [if_neg e2]; exact h.rest p q h1 h2 (by omega) (by omega)
  · rw [hx (j - 1) (by omega), hx q h2, if_pos rfl, if_neg (show ¬ (j - 1 = q) by omega)]
    by_cases e : j = q
    · rw [if_pos e]; omega
    · rw [if_neg e]; exact h.low q (by omega) h2
theorem Ins.done {zs : List Int} {i j : Nat} (h : Ins zs i j) (hji : j ≤ i) (hd : j = 0 ∨ ix zs (j - 1) ≤ ix zs j) : srt zs (i + 1) := by
  intro p q h1 h2
  by_cases e1 : p = j
  · subst e1; exact h.low q h1 (by omega)
  · by_cases e2 : q = j
    · subst e2
      rcases hd with hd | hd
      · omega
      · by_cases e3 : p = q - 1
        · subst e3; exact hd
        · have := h.rest p (q - 1) (by omega) (by omega) (by omega) (by omega); omega
    · exact h.rest p q h1 (by omega) e1 e2
theorem perm_len {xs ys : List Int} (h : xs.Perm ys) : xs.length = ys.length := h.length_eq
/-- All numbers are different, and below the length. -/
def isPm (xs : List Int) (n : Nat) : Bool := !anyI (fun i => hasI xs (ix xs i) i) n && !anyI (fun i => !within (ix xs i) 0 ((n : Int) - 1)) n
theorem hasI_iff {xs : List Int} {x : Int} {k : Nat} : hasI xs x k = true ↔ ∃ i, i < k ∧ ix xs i = x := by
  unfold hasI; rw [anyI_iff]; simp
theorem isPm_iff {xs : List Int} {n : Nat} : isPm xs n = true ↔ (∀ i j, i < j → j < n → ix xs i ≠ ix xs j) ∧ ∀ i, i < n → 0 ≤ ix xs i ∧ ix xs i < n := by
  unfold isPm
  rw [Bool.and_eq_true, Bool.not_eq_true', Bool.not_eq_true', allI_any]
  constructor
  · rintro ⟨h1, h2⟩
    refine ⟨fun i j hij hj e => ?_, fun i hi => by have := within_iff.1 (h2 i hi); omega⟩
    have : anyI (fun i => hasI xs (ix xs i) i) n = true := anyI_true hj (hasI_iff.2 ⟨i, hij, e⟩)
    rw [h1] at this; cases this
  · rintro ⟨h1, h2⟩
    refine ⟨anyI_false fun j hj => ?_, fun i hi => within_iff.2 (by have := h2 i hi; omega)⟩
    cases hb : hasI xs (ix xs j) j with
    | false => rfl
    | true => obtain ⟨i, hi, e⟩ := hasI_iff.1 hb; exact absurd e (h1 i j hi hj)
theorem nodup_ix {xs : List Int} {n : Nat} (hl : xs.length = n) : xs.Nodup ↔ ∀ i j, i < j → j < n → ix xs i ≠ ix xs j := by
  unfold List.Nodup
  rw [List.pairwise_iff_getElem]
  constructor
  · intro h i j hij hj
    have := h i j (by omega) (by omega) hij
    rwa [ix_getElem (by omega), ix_getElem (by omega)]
  · intro h i j h1 h2 hij
    have := h i j hij (by omega)
    rwa [ix_getElem h1, ix_getElem h2] at this
theorem mem_ix {xs : List Int} {x : Int} : x ∈ xs ↔ ∃ i, i < xs.length ∧ ix xs i = x := by
  rw [List.mem_iff_getElem]
  constructor
  · rintro ⟨i, h, e⟩; exact ⟨i, h, by rw [ix_getElem h]; exact e⟩
  · rintro ⟨i, h, e⟩; exact ⟨i, h, by rw [← ix_getElem h]; exact e⟩
/-- The sorted list of a permutation of 0 .. n - 1, and only that one, is 0 .. n - 1. -/
theorem sorted_pm {xs ys : List Int} {n : Nat} (hl : xs.length = n) (hp : ys.Perm xs) (hs : srt ys n) : (∀ i, i < n → ix ys i = i) ↔ isPm xs n = true := by
  have hyl : ys.length = n := by rw [perm_len hp, hl]
  rw [isPm_iff]
  constructor
  · intro h
    have hnd : ys.Nodup := (nodup_ix hyl).2 fun i j hij hj => by rw [h i (by omega), h j hj]; omega
    refine ⟨(nodup_ix hl).1 (hp.nodup_iff.1 hnd), fun i hi => ?_⟩
    have hm : ix xs i ∈ ys := hp.mem_iff.2 (mem_ix.2 ⟨i, by omega, rfl⟩)
    obtain ⟨j, hj, e⟩ := mem_ix.1 hm
    rw [h j (by omega)] at e; omega
  · rintro ⟨h1, h2⟩
    have hnd : ys.Nodup := hp.nodup_iff.2 ((nodup_ix hl).2 h1)
    have hne := (nodup_ix hyl).1 hnd
    have hrng : ∀ i, i < n → 0 ≤ ix ys i ∧ ix ys i < n := by
      intro i hi
      have hm : ix ys i ∈ xs := hp.mem_iff.1 (mem_ix.2 ⟨i, by omega, rfl⟩)
      obtain ⟨j, hj, e⟩ := mem_ix.1 hm
      rw [← e]; exact h2 j (by omega)
    have hst : ∀ i j, i < j → j < n → ix ys i < ix ys j := fun i j hij hj => by
      have a := hs i j hij hj; have b := hne i j hij hj; omega
    have low : ∀ i, i < n → (i : Int) ≤ ix ys i := by
      intro i
      induction i with
      | zero => intro h; have := hrng 0 h; omega
      | succ i ih => intro h; have a := ih (by omega); have b := hst i (i + 1) (by omega) h; omega
    have high : ∀ d i, i + d + 1 = n → ix ys i ≤ i := by
      intro d
      induction d with
      | zero => intro i h; have := hrng i (by omega); omega
      | succ d ih => intro i h; have a := ih (i + 1) (by omega); have b := hst i (i + 1) (by omega) (by omega); omega
    intro i hi
    have a := low i hi; have b := high (n - 1 - i) i (by omega); omega
/-- Swaps as gates. -/
def flSW : List (Nat × Nat) → List Int
  | [] => []
  | (a, b) :: l => 11 :: (a : Int) :: (b : Int) :: flSW l
@[simp] theorem flSW_length : ∀ l : List (Nat × Nat), (flSW l).length = l.length * 3
  | [] => rfl
  | (_, _) :: l => by simp only [flSW, List.length_cons, flSW_length l]; omega
theorem flSW_append : ∀ l m : List (Nat × Nat), flSW (l ++ m) = flSW l ++ flSW m
  | [], _ => rfl
  | (a, b) :: l, m => by simp only [List.cons_append, flSW, flSW_append l m]
theorem ints_flSW (l : List (Nat × Nat)) (a b : Nat) : ints (flSW l) ++ [.int .i64 11, .int .i64 (a : Int), .int .i64 (b : Int)] = ints (flSW (l ++ [(a, b)])) := by
  rw [flSW_append, ints_append]; rfl
/-- The place of to[q]. -/
def plc (xs : List Int) (q : Nat) (now : List Int) : Nat := (findI (fun i => decide (ix now i = ix xs q)) now.length).toNat
def pmS (n : Nat) (xs : List Int) : Nat → List Int × List (Nat × Nat)
  | 0 => (mks 0 n, [])
  | q + 1 => if plc xs q (pmS n xs q).1 = q then pmS n xs q else (swp (pmS n xs q).1 q (plc xs q (pmS n xs q).1), (pmS n xs q).2 ++ [(q, plc xs q (pmS n xs q).1)])
theorem mks_ix {n i : Nat} (h : i < n) : ix (mks 0 n) i = i := by rw [ix_mks h]; omega
theorem perm_has {n : Nat} {now : List Int} (hp : now.Perm (mks 0 n)) {x : Int} (h0 : 0 ≤ x) (h1 : x < n) : ∃ i, i < now.length ∧ ix now i = x := by
  have : x ∈ mks 0 n := mem_ix.2 ⟨x.toNat, by simp; omega, by rw [mks_ix (by omega)]; omega⟩
  exact mem_ix.1 (hp.mem_iff.2 this)
theorem plc_spec {xs now : List Int} {q r : Nat} (hr : r < now.length) (he : ix now r = ix xs q) : plc xs q now < now.length ∧ ix now (plc xs q now) = ix xs q ∧ ∀ i, i < plc xs q now → ix now i ≠ ix xs q := by
  obtain ⟨k, hk, hmin⟩ : ∃ k, (k < now.length ∧ ix now k = ix xs q) ∧ ∀ i, i < k → ix now i ≠ ix xs q := by
    obtain ⟨k, h1, h2⟩ := least_ex (p := fun k => k < now.length ∧ ix now k = ix xs q) ⟨r, hr, he⟩
    exact ⟨k, h1, fun i hi e => by have := h2 i ⟨by omega, e⟩; omega⟩
  have : plc xs q now = k := by
    rw [plc, findI_hit (k := k) (fun i hi => decide_eq_false (hmin i hi)) (decide_eq_true hk.2) hk.1, Int.toNat_natCast]
  rw [this]; exact ⟨hk.1, hk.2, hmin⟩
structure PmOk (n : Nat) (xs : List Int) (q : Nat) (s : List Int × List (Nat × Nat)) : Prop where
  perm : s.1.Perm (mks 0 n)
  done : ∀ p, p < q → ix s.1 p = ix xs p
  few : s.2.length ≤ q
theorem PmOk.len {n : Nat} {xs : List Int} {q : Nat} {s : List Int × List (Nat × Nat)} (h : PmOk n xs q s) : s.1.length = n := by rw [perm_len h.perm]; simp
theorem PmOk.place {n : Nat} {xs : List Int} {q : Nat} {s : List Int × List (Nat × Nat)} (hx : isPm xs n = true) (hq : q < n) (h : PmOk n xs q s) : q ≤ plc xs q s.1 ∧ plc xs q s.1 < n ∧ ix s.1 (plc xs q s.1) = ix xs q ∧ ∀ i, i < plc xs q s.1 → ix s.1 i ≠ ix xs q := by
  have hi := isPm_iff.1 hx
  obtain ⟨r, hr, he⟩ := perm_has h.perm (hi.2 q hq).1 (hi.2 q hq).2
  obtain ⟨h1, h2, h3⟩ := plc_spec hr he
  refine ⟨?_, by rw [h.len] at h1; exact h1, h2, h3⟩
  refine Decidable.byContradiction fun hlt => ?_
  have := h.done (plc xs q s.1) (by omega)
  exact hi.1 (plc xs q s.1) q (by omega) hq (by rw [← this]; exact h2)
theorem pm_ok {n : Nat} {xs : List Int} (hx : isPm xs n = true) : ∀ q, q ≤ n → PmOk n xs q (pmS n xs q)
  | 0, _ => ⟨List.Perm.refl _, fun p h => by omega, Nat.le_refl _⟩
  | q + 1, hq => by
    have ih := pm_ok hx q (by omega)
    have hp := ih.place hx (by omega)
    have hl := ih.len
    simp only [pmS]
    split
    · rename_i e
      refine ⟨ih.perm, fun p h => ?_, by have := ih.few; omega⟩
      by_cases e2 : p = q
      · subst e2; have := hp.2.2.1; rw [e] at this; exact this
      · exact ih.done p (by omega)
    · rename_i e
      refine ⟨(swp_perm (by omega) (by omega)).trans ih.perm, fun p h => ?_, by have := ih.few; simp only [List.length_append, List.length_cons, List.length_nil]; omega⟩
      rw [ix_swp (by omega) (by omega) (by omega), if_neg (by omega)]
      by_cases e2 : q = p
      · subst e2; rw [if_pos rfl]; exact hp.2.2.1
      · rw [if_neg e2]; exact ih.done p (by omega)
def pmOk (xs : List Int) (n : Nat) : Bool := within (n : Int) 1 5 && isPm xs n
def pmR (n : Nat) (xs : List Int) : List (Nat × Nat) := if pmOk xs n then (pmS n xs n).2 else []
theorem pmR_le (n : Nat) (xs : List Int) : (pmR n xs).length ≤ 5 := by
  unfold pmR
  split
  · rename_i h
    simp only [pmOk, Bool.and_eq_true] at h
    have := within_iff.1 h.1
    have := (pm_ok h.2 n (Nat.le_refl _)).few
    omega
  · simp

set_option maxHeartbeats 1000000 in
set_option maxRecDepth 20000 in
theorem isNaN_spec (x : Int) (w : World) : Calls Try.prog 104 #[.int .i64 x] w (Post No w fun v _ => v = .bool false) := by
  refine enter (n := 6) (args := [.int .i64 x]) Try.func104 rfl rfl (St.empty _ _) ?_
  refine Run.seq ?_
  refine Run.region ?_
  refine Run.q (v := .bool false) rfl (OpQ.y (OpY.pure rfl)) ?_
  refine Run.done ?_
  refine Run.seq ?_
  refine Run.region ?_
  refine Run.q (v := .int .i64 x) rfl (OpQ.y (OpY.pure rfl)) ?_
  refine Run.q (v := .int .i64 x) rfl (OpQ.y (OpY.pure rfl)) ?_
  refine Run.q (v := .bool false) rfl (OpQ.y (OpY.neqSame rfl rfl rfl)) ?_
  refine Run.q (v := .bool false) rfl (OpQ.y (OpY.pure rfl)) ?_
  refine Run.done ?_
  refine Run.ret ?_
  refine ⟨.bool false, [], Out.one rfl rfl, (Some'.weak (.nil _)), ?_⟩
  rfl

set_option maxHeartbeats 1000000 in
set_option maxRecDepth 20000 in
theorem Less_spec (x y : Int) (w : World) : Calls Try.prog 94 #[.int .i64 x, .int .i64 y] w (Post No w fun v _ => v = .bool (decide (x < y))) := by
  refine enter (n := 17) (args := [.int .i64 x, .int .i64 y]) Try.func94 rfl rfl (St.empty _ _) ?_
  refine Run.seq ?_
  refine Run.region ?_
  refine Run.q (v := .bool false) rfl (OpQ.y (OpY.pure rfl)) ?_
  refine Run.done ?_
  refine Run.seq ?_
  refine Run.region ?_
  refine Run.q (v := .int .i64 x) rfl (OpQ.y (OpY.pure rfl)) ?_
  refine Run.q (v := .bool false) rfl (OpQ.call (vs := [.int .i64 x]) (caps := []) Tcall_104 rfl rfl (fun w hs => isNaN_spec _ w)) ?_
  refine Run.q (v := .bool false) rfl (OpQ.y (OpY.pure rfl)) ?_
  refine Run.pass rfl ?_
  refine Run.pass rfl ?_
  refine Run.pass rfl ?_
  refine Run.q (v := .bool false) rfl (OpQ.y (OpY.pure rfl)) ?_
  refine Run.q (v := .bool false) rfl (OpQ.y (OpY.pure rfl)) ?_
  refine Run.q (v := .int .i64 x) rfl (OpQ.y (OpY.pure rfl)) ?_
  refine Run.q (v := .int .i64 y) rfl (OpQ.y (OpY.pure rfl)) ?_
  refine Run.q (v := .bool (decide (x < y))) rfl (OpQ.y (OpY.pure rfl)) ?_
  refine Run.q (v := .bool (decide (x < y))) rfl (OpQ.y (OpY.pure rfl)) ?_
  refine Run.q (v := .bool (decide (x < y))) rfl (OpQ.y (OpY.pure rfl)) ?_
  refine Run.done ?_
  refine Run.ret ?_
  refine ⟨.bool (decide (x < y)), [], Out.one rfl rfl, (Some'.weak (.nil _)), ?_⟩
  rfl

set_option maxHeartbeats 1000000 in
set_option maxRecDepth 20000 in
theorem insSort_spec {g n c : Nat} {xs : List Int} {w : World} (hn : n ≤ 1000) (hxl : xs.length = n) (h : (Res.own (.slice (some ⟨g, 0, none⟩) n c) 3 1 n (ints xs)).holds w) : Calls Try.prog 88 #[.slice (some ⟨g, 0, none⟩) n c, .int .i64 0, .int .i64 (n : Int)] w (Post (Of [.own (.slice (some ⟨g, 0, none⟩) n c) 3 1 n (ints xs)]) w fun v H => ∃ ys, (ys.Perm xs ∧ srt ys n) ∧ v = .tuple #[] ∧ H = [.own (.slice (some ⟨g, 0, none⟩) n c) 3 1 n (ints ys)]) := by
  refine enter (n := 49) (args := [.slice (some ⟨g, 0, none⟩) n c, .int .i64 0, .int .i64 (((n : Nat) : Int))]) Try.func88 rfl rfl (St.start1 h) ?_
  refine Run.seq ?_
  refine Run.region ?_
  refine Run.q (v := .int .i64 0) rfl (OpQ.y (OpY.pure rfl)) ?_
  refine Run.q (v := .int .i64 1) rfl (OpQ.y (OpY.add rfl rfl (by omega) (by omega) (by omega))) ?_
  refine Run.q (v := .int .i64 1) rfl (OpQ.y (OpY.pure rfl)) ?_
  refine Run.done ?_
  refine Run.block ?_
  refine Run.loop (ι := Nat × List Int) [6, 7, 10, 11, 12, 13, 14, 15, 16, 17, 18, 19, 20, 21, 22, 23, 24, 25, 26, 27, 28, 29, 30, 31, 32, 33, 34, 35, 36, 37, 38, 39, 40, 41, 42, 43, 44, 45, 46, 47, 48] (fun ⟨i, ys⟩ => [(6, .int .i64 (((i : Nat) : Int)))]) (fun ⟨i, ys⟩ => [.own (.slice (some ⟨g, 0, none⟩) n c) 3 1 n (ints ys)]) (fun ⟨i, ys⟩ => 1 ≤ i ∧ ys.Perm xs ∧ srt ys i) (fun ⟨i, ys⟩ => n + 1 - i) (1, xs) ?_ ?_ ?_ ?_
  · exact ⟨Nat.le_refl _, List.Perm.refl _, fun p q h1 h2 => by omega⟩
  · exact ⟨(by show Value.int _ _ = Value.int _ _; congr 1), trivial⟩
  · exact (Some'.weak (.takeEq (by first | rfl | simp) (.nil _)))
  · rintro ⟨i, ys⟩ fr hinv
    show Run _ _ (over _ _ [(6, .int .i64 (((i : Nat) : Int)))] fr) [.own (.slice (some ⟨g, 0, none⟩) n c) 3 1 n (ints ys)]
    try dsimp only at hinv
    refine Run.seq ?_
    refine Run.seq ?_
    refine Run.region ?_
    refine Run.q (v := .int .i64 (((i : Nat) : Int))) rfl (OpQ.y (OpY.pure rfl)) ?_
    refine Run.q (v := .int .i64 (((n : Nat) : Int))) rfl (OpQ.y (OpY.pure rfl)) ?_
    refine Run.q (v := .bool (decide ((((i : Nat) : Int)) < (((n : Nat) : Int))))) rfl (OpQ.y (OpY.pure rfl)) ?_
    refine Run.done ?_
    refine Run.cond (b := decide ((((i : Nat) : Int)) < (((n : Nat) : Int)))) rfl (fun h12 => ?_) (fun h12 => ?_)
    · have p12 := h12; try simp only [decide_eq_true_eq, decide_eq_false_iff_not, beq_iff_eq, bne_iff_ne, beq_eq_false_iff_ne, ne_eq, gt_iff_lt, ge_iff_le, Int.not_lt, Int.not_le, bne_eq_false_iff_eq, Bool.not_eq_true', Bool.not_eq_false', Bool.and_eq_true, Bool.and_eq_false_iff, Bool.or_eq_true, Bool.or_eq_false_iff, Decidable.not_not, List.cons.injEq, and_true] at p12
      have hin : i < n := by omega
      have hyl := perm_len hinv.2.1
      refine Run.skip ?_
      refine Run.seq ?_
      refine Run.block ?_
      refine Run.seq ?_
      refine Run.region ?_
      refine Run.q (v := .int .i64 (((i : Nat) : Int))) rfl (OpQ.y (OpY.pure rfl)) ?_
      refine Run.q (v := .int .i64 (((i : Nat) : Int))) rfl (OpQ.y (OpY.pure rfl)) ?_
      refine Run.done ?_
      refine Run.block ?_
      refine Run.loop (ι := Nat × List Int) [7, 16, 17, 18, 19, 20, 21, 22, 23, 24, 25, 26, 27, 28, 29, 30, 31, 32, 33, 34, 35, 36, 37, 38, 39, 40, 41, 42, 43, 44, 45, 46, 47, 48] (fun ⟨j, zs⟩ => [(7, .int .i64 (((j : Nat) : Int)))]) (fun ⟨j, zs⟩ => [.own (.slice (some ⟨g, 0, none⟩) n c) 3 1 n (ints zs)]) (fun ⟨j, zs⟩ => j ≤ i ∧ zs.Perm xs ∧ Ins zs i j) (fun ⟨j, zs⟩ => j) (i, ys) ?_ ?_ ?_ ?_
      · exact ⟨Nat.le_refl _, hinv.2.1, Ins.start hinv.2.2⟩
      · exact ⟨rfl, trivial⟩
      · exact (Some'.weak (.takeEq (by first | rfl | simp) (.nil _)))
      · rintro ⟨j, zs⟩ fr hinv
        show Run _ _ (over _ _ [(7, .int .i64 (((j : Nat) : Int)))] fr) [.own (.slice (some ⟨g, 0, none⟩) n c) 3 1 n (ints zs)]
        try dsimp only at hinv
        refine Run.seq ?_
        refine Run.seq ?_
        refine Run.draws (by kernel_rfl) (by kernel_rfl) ?_
        refine Lex.q (v := .int .i64 (((j : Nat) : Int))) rfl (OpQ.y (OpY.pure rfl)) ?_
        refine Lex.q (v := .int .i64 0) rfl (OpQ.y (OpY.pure rfl)) ?_
        refine Lex.q (v := .bool (decide ((((j : Nat) : Int)) > 0))) rfl (OpQ.y (OpY.pure rfl)) ?_
        rcases Bool.eq_false_or_eq_true (decide ((((j : Nat) : Int)) > 0)) with h19 | h19
        · refine Lex.q (v := .bool true) rfl (OpQ.y (OpY.moveB rfl h19)) ?_
          have p19 := h19; try simp only [decide_eq_true_eq, decide_eq_false_iff_not, beq_iff_eq, bne_iff_ne, beq_eq_false_iff_ne, ne_eq, gt_iff_lt, ge_iff_le, Int.not_lt, Int.not_le, bne_eq_false_iff_eq, Bool.not_eq_true', Bool.not_eq_false', Bool.and_eq_true, Bool.and_eq_false_iff, Bool.or_eq_true, Bool.or_eq_false_iff, Decidable.not_not, List.cons.injEq, and_true] at p19
          have hj0 : 0 < j := by omega
          have hzl := perm_len hinv.2.1
          refine Lex.q (v := .slice (some ⟨g, 0, none⟩) n c) rfl (OpQ.y (OpY.pure rfl)) ?_
          refine Lex.q (v := .int .i64 (((j : Nat) : Int))) rfl (OpQ.y (OpY.pure rfl)) ?_
          refine Lex.q (v := .pointer (some ⟨g, j, none⟩)) rfl (OpQ.y (OpY.index (kk := j) Tsl_34 rfl rfl (by omega) (by omega) (by first | rfl | omega))) ?_
          refine Lex.q (v := .int .i64 (ix zs (j))) rfl (OpQ.y (OpY.load1 Tone_3 rfl (Cells.own0 (.head _) (pre1 (by omega))))) ?_
          refine Lex.q (v := .slice (some ⟨g, 0, none⟩) n c) rfl (OpQ.y (OpY.pure rfl)) ?_
          refine Lex.q (v := .int .i64 (((j : Nat) : Int))) rfl (OpQ.y (OpY.pure rfl)) ?_
          refine Lex.q (v := .int .i64 ((((j : Nat) : Int)) - 1)) rfl (OpQ.y (OpY.sub rfl rfl rfl (by omega) (by omega))) ?_
          refine Lex.q (v := .pointer (some ⟨g, j - 1, none⟩)) rfl (OpQ.y (OpY.index (kk := j - 1) Tsl_34 rfl rfl (by omega) (by omega) (by first | rfl | omega))) ?_
          refine Lex.q (v := .int .i64 (ix zs (j - 1))) rfl (OpQ.y (OpY.load1 Tone_3 rfl (Cells.own0 (.head _) (pre1 (by omega))))) ?_
          refine Lex.q (v := .bool (decide ((ix zs (j)) < (ix zs (j - 1))))) rfl (OpQ.call (vs := [.int .i64 (ix zs (j)), .int .i64 (ix zs (j - 1))]) (caps := []) Tcall_94 rfl rfl (fun w hs => Less_spec _ _ w)) ?_
          refine Lex.q (v := .bool (decide ((ix zs (j)) < (ix zs (j - 1))))) rfl (OpQ.y (OpY.pure rfl)) ?_
          refine Lex.done ?_
          refine Run.cond (b := decide ((ix zs (j)) < (ix zs (j - 1)))) rfl (fun h30 => ?_) (fun h30 => ?_)
          · have p30 := h30; try simp only [decide_eq_true_eq, decide_eq_false_iff_not, beq_iff_eq, bne_iff_ne, beq_eq_false_iff_ne, ne_eq, gt_iff_lt, ge_iff_le, Int.not_lt, Int.not_le, bne_eq_false_iff_eq, Bool.not_eq_true', Bool.not_eq_false', Bool.and_eq_true, Bool.and_eq_false_iff, Bool.or_eq_true, Bool.or_eq_false_iff, Decidable.not_not, List.cons.injEq, and_true] at p30
            refine Run.skip ?_
            refine Run.seq ?_
            refine Run.block ?_
            refine Run.lastly [15, 17] (by kernel_rfl) ?_
            refine DL.takeP (i := 0) (v := .slice (some ⟨g, 0, none⟩) n c) rfl (by kernel_rfl) (by kernel_rfl) (by kernel_rfl) (fun _ _ _ h => h) rfl (fun _ => OpY.pure rfl) ?_
            refine DL.takeP (i := 1) (v := .int .i64 (((j : Nat) : Int))) rfl (by kernel_rfl) (by kernel_rfl) (by kernel_rfl) (fun _ _ _ h => h) rfl (fun _ => OpY.pure rfl) ?_
            refine DL.takeP (i := 2) (v := .slice (some ⟨g, 0, none⟩) n c) rfl (by kernel_rfl) (by kernel_rfl) (by kernel_rfl) (fun _ _ _ h => h) rfl (fun _ => OpY.pure rfl) ?_
            refine DL.takeP (i := 3) (v := .int .i64 (((j : Nat) : Int))) rfl (by kernel_rfl) (by kernel_rfl) (by kernel_rfl) (fun _ _ _ h => h) rfl (fun _ => OpY.pure rfl) ?_
            refine DL.takeP (i := 4) (v := .int .i64 ((((j : Nat) : Int)) - 1)) rfl (by kernel_rfl) (by kernel_rfl) (by kernel_rfl) (fun _ _ _ h => h) rfl (fun _ => OpY.sub rfl rfl rfl (by omega) (by omega)) ?_
            refine DL.takeP (i := 5) (v := .slice (some ⟨g, 0, none⟩) n c) rfl (by kernel_rfl) (by kernel_rfl) (by kernel_rfl) (fun _ _ _ h => h) rfl (fun _ => OpY.pure rfl) ?_
            refine DL.takeP (i := 6) (v := .int .i64 (((j : Nat) : Int))) rfl (by kernel_rfl) (by kernel_rfl) (by kernel_rfl) (fun _ _ _ h => h) rfl (fun _ => OpY.pure rfl) ?_
            refine DL.takeP (i := 7) (v := .int .i64 ((((j : Nat) : Int)) - 1)) rfl (by kernel_rfl) (by kernel_rfl) (by kernel_rfl) (fun _ _ _ h => h) rfl (fun _ => OpY.sub rfl rfl rfl (by omega) (by omega)) ?_
            refine DL.takeP (i := 8) (v := .pointer (some ⟨g, j - 1, none⟩)) rfl (by kernel_rfl) (by kernel_rfl) (by kernel_rfl) (fun _ _ _ h => h) rfl (fun _ => OpY.index (kk := j - 1) Tsl_34 rfl rfl (by omega) (by omega) (by first | rfl | omega)) ?_
            refine DL.take (i := 9) (v := .int .i64 (ix zs (j - 1))) rfl (by kernel_rfl) (by kernel_rfl) (by kernel_rfl) (by kernel_rfl) (fun _ _ _ h => h) (Some'.weak (.take (.nil _))) rfl (OpY.load1 Tone_3 rfl (Cells.own0 (.head _) (pre1 (by omega)))) ?_
            refine DL.takeP (i := 10) (v := .slice (some ⟨g, 0, none⟩) n c) rfl (by kernel_rfl) (by kernel_rfl) (by kernel_rfl) (fun _ _ _ h => h) rfl (fun _ => OpY.pure rfl) ?_
            refine DL.takeP (i := 11) (v := .int .i64 (((j : Nat) : Int))) rfl (by kernel_rfl) (by kernel_rfl) (by kernel_rfl) (fun _ _ _ h => h) rfl (fun _ => OpY.pure rfl) ?_
            refine DL.takeP (i := 12) (v := .pointer (some ⟨g, j, none⟩)) rfl (by kernel_rfl) (by kernel_rfl) (by kernel_rfl) (fun _ _ _ h => h) rfl (fun _ => OpY.index (kk := j) Tsl_34 rfl rfl (by omega) (by omega) (by first | rfl | omega)) ?_
            refine DL.take (i := 13) (v := .int .i64 (ix zs (j))) rfl (by kernel_rfl) (by kernel_rfl) (by kernel_rfl) (by kernel_rfl) (fun _ _ _ h => h) (Some'.weak (.take (.nil _))) rfl (OpY.load1 Tone_3 rfl (Cells.own0 (.head _) (pre1 (by omega)))) ?_
            refine DL.takeP (i := 14) (v := .pointer (some ⟨g, j, none⟩)) rfl (by kernel_rfl) (by kernel_rfl) (by kernel_rfl) (fun _ _ _ h => h) rfl (fun _ => OpY.index (kk := j) Tsl_34 rfl rfl (by omega) (by omega) (by first | rfl | omega)) ?_
            refine DL.step (i := 15) (by kernel_rfl) (by kernel_rfl) rfl rfl (OpStep.storeOwnInt (o := j) (a := ix zs (j - 1)) Tsize_3 rfl rfl (.here _) (by omega) ?_)
            refine DL.takeP (i := 16) (v := .pointer (some ⟨g, j - 1, none⟩)) rfl (by kernel_rfl) (by kernel_rfl) (by kernel_rfl) (fun _ _ _ h => h) rfl (fun _ => OpY.index (kk := j - 1) Tsl_34 rfl rfl (by omega) (by omega) (by first | rfl | omega)) ?_
            refine DL.step (i := 17) (by kernel_rfl) (by kernel_rfl) rfl rfl (OpStep.storeOwnInt (o := j - 1) (a := ix zs (j)) Tsize_3 rfl rfl (.here _) (by omega) ?_)
            refine DL.done (by kernel_rfl) ?_
            refine Run.blockEnd ?_
            refine Run.region ?_
            refine Run.q (v := .int .i64 (((j : Nat) : Int))) rfl (OpQ.y (OpY.pure rfl)) ?_
            refine Run.q (v := .int .i64 ((((j : Nat) : Int)) - 1)) rfl (OpQ.y (OpY.sub rfl rfl rfl (by omega) (by omega))) ?_
            refine Run.q (v := .int .i64 ((((j : Nat) : Int)) - 1)) rfl (OpQ.y (OpY.pure rfl)) ?_
            refine Run.done ?_
            refine Run.goal ⟨(by repeat (first | exact Same.refl _ _ | refine Same.put rfl ?_ | refine Same.over rfl rfl ?_)), (j - 1, swp zs j (j - 1)), ?_, ?_, ?_, ?_⟩
            · exact ⟨by omega, (swp_perm (by omega) (by omega)).trans hinv.2.1, Ins.swap hinv.2.2 hj0 hinv.1 (by omega) (by omega)⟩
            · show j - 1 < j; omega
            · exact ⟨(by show Value.int _ _ = Value.int _ _; congr 1 <;> omega), trivial⟩
            · exact (Some'.weak (.takeEq (by first | rfl | simp) (.nil _)))
          · have p30 := h30; try simp only [decide_eq_true_eq, decide_eq_false_iff_not, beq_iff_eq, bne_iff_ne, beq_eq_false_iff_ne, ne_eq, gt_iff_lt, ge_iff_le, Int.not_lt, Int.not_le, bne_eq_false_iff_eq, Bool.not_eq_true', Bool.not_eq_false', Bool.and_eq_true, Bool.and_eq_false_iff, Bool.or_eq_true, Bool.or_eq_false_iff, Decidable.not_not, List.cons.injEq, and_true] at p30
            have hdn : j = 0 ∨ ix zs (j - 1) ≤ ix zs j := .inr (by omega)
            refine Run.exit rfl ?_
            refine Run.blockEnd ?_
            refine Run.region ?_
            refine Run.q (v := .int .i64 (((i : Nat) : Int))) rfl (OpQ.y (OpY.pure rfl)) ?_
            refine Run.q (v := .int .i64 ((((i : Nat) : Int)) + 1)) rfl (OpQ.y (OpY.add rfl rfl rfl (by omega) (by omega))) ?_
            refine Run.q (v := .int .i64 ((((i : Nat) : Int)) + 1)) rfl (OpQ.y (OpY.pure rfl)) ?_
            refine Run.done ?_
            refine Run.goal ⟨(by repeat (first | exact Same.refl _ _ | refine Same.put rfl ?_ | refine Same.over rfl rfl ?_)), (i + 1, zs), ?_, ?_, ?_, ?_⟩
            · exact ⟨by omega, hinv.2.1, Ins.done hinv.2.2 hinv.1 hdn⟩
            · show n + 1 - (i + 1) < n + 1 - i; omega
            · exact ⟨(by show Value.int _ _ = Value.int _ _; congr 1 <;> omega), trivial⟩
            · exact (Some'.weak (.takeEq (by first | rfl | simp) (.nil _)))
        · refine Lex.q (v := .bool false) rfl (OpQ.y (OpY.moveB rfl h19)) ?_
          have p19 := h19; try simp only [decide_eq_true_eq, decide_eq_false_iff_not, beq_iff_eq, bne_iff_ne, beq_eq_false_iff_ne, ne_eq, gt_iff_lt, ge_iff_le, Int.not_lt, Int.not_le, bne_eq_false_iff_eq, Bool.not_eq_true', Bool.not_eq_false', Bool.and_eq_true, Bool.and_eq_false_iff, Bool.or_eq_true, Bool.or_eq_false_iff, Decidable.not_not, List.cons.injEq, and_true] at p19
          have hdn : j = 0 ∨ ix zs (j - 1) ≤ ix zs j := .inl (by omega)
          refine Lex.pass rfl ?_
          refine Lex.pass rfl ?_
          refine Lex.pass rfl ?_
          refine Lex.pass rfl ?_
          refine Lex.pass rfl ?_
          refine Lex.pass rfl ?_
          refine Lex.pass rfl ?_
          refine Lex.pass rfl ?_
          refine Lex.pass rfl ?_
          refine Lex.pass rfl ?_
          refine Lex.q (v := .bool false) rfl (OpQ.y (OpY.pure rfl)) ?_
          refine Lex.done ?_
          refine Run.cond (b := false) rfl (fun h => nomatch h) (fun _ => ?_)
          refine Run.exit rfl ?_
          refine Run.blockEnd ?_
          refine Run.region ?_
          refine Run.q (v := .int .i64 (((i : Nat) : Int))) rfl (OpQ.y (OpY.pure rfl)) ?_
          refine Run.q (v := .int .i64 ((((i : Nat) : Int)) + 1)) rfl (OpQ.y (OpY.add rfl rfl rfl (by omega) (by omega))) ?_
          refine Run.q (v := .int .i64 ((((i : Nat) : Int)) + 1)) rfl (OpQ.y (OpY.pure rfl)) ?_
          refine Run.done ?_
          refine Run.goal ⟨(by repeat (first | exact Same.refl _ _ | refine Same.put rfl ?_ | refine Same.over rfl rfl ?_)), (i + 1, zs), ?_, ?_, ?_, ?_⟩
          · exact ⟨by omega, hinv.2.1, Ins.done hinv.2.2 hinv.1 hdn⟩
          · show n + 1 - (i + 1) < n + 1 - i; omega
          · exact ⟨(by show Value.int _ _ = Value.int _ _; congr 1 <;> omega), trivial⟩
          · exact (Some'.weak (.takeEq (by first | rfl | simp) (.nil _)))
    · have p12 := h12; try simp only [decide_eq_true_eq, decide_eq_false_iff_not, beq_iff_eq, bne_iff_ne, beq_eq_false_iff_ne, ne_eq, gt_iff_lt, ge_iff_le, Int.not_lt, Int.not_le, bne_eq_false_iff_eq, Bool.not_eq_true', Bool.not_eq_false', Bool.and_eq_true, Bool.and_eq_false_iff, Bool.or_eq_true, Bool.or_eq_false_iff, Decidable.not_not, List.cons.injEq, and_true] at p12
      have hend : srt ys n := fun p q h1 h2 => hinv.2.2 p q h1 (by omega)
      refine Run.exit rfl ?_
      refine Run.fin ?_
      refine ⟨.tuple #[], [.own (.slice (some ⟨g, 0, none⟩) n c) 3 1 n (ints ys)], Out.none rfl, (Some'.weak (.take (.nil _))), ?_⟩
      exact ⟨_, ⟨hinv.2.1, hend⟩, rfl, rfl⟩

set_option maxHeartbeats 1000000 in
set_option maxRecDepth 20000 in
theorem pdq_spec {g n c : Nat} {lim : Int} {xs : List Int} {w : World} (hn : n ≤ 12) (hxl : xs.length = n) (h : (Res.own (.slice (some ⟨g, 0, none⟩) n c) 3 1 n (ints xs)).holds w) : Calls Try.prog 83 #[.slice (some ⟨g, 0, none⟩) n c, .int .i64 0, .int .i64 (n : Int), .int .i64 lim] w (Post (Of [.own (.slice (some ⟨g, 0, none⟩) n c) 3 1 n (ints xs)]) w fun v H => ∃ ys, (ys.Perm xs ∧ srt ys n) ∧ v = .tuple #[] ∧ H = [.own (.slice (some ⟨g, 0, none⟩) n c) 3 1 n (ints ys)]) := by
  refine enter (n := 134) (args := [.slice (some ⟨g, 0, none⟩) n c, .int .i64 0, .int .i64 (((n : Nat) : Int)), .int .i64 lim]) Try.func83 rfl rfl (St.start1 h) ?_
  refine Run.seq ?_
  refine Run.region ?_
  refine Run.q (v := .bool true) rfl (OpQ.y (OpY.pure rfl)) ?_
  refine Run.done ?_
  refine Run.seq ?_
  refine Run.region ?_
  refine Run.q (v := .bool true) rfl (OpQ.y (OpY.pure rfl)) ?_
  refine Run.done ?_
  refine Run.block ?_
  refine Run.unroll 1 ?_
  refine Run.again ?_
  refine Run.block ?_
  refine Run.seq ?_
  refine Run.region ?_
  refine Run.q (v := .int .i64 (((n : Nat) : Int))) rfl (OpQ.y (OpY.pure rfl)) ?_
  refine Run.q (v := .int .i64 0) rfl (OpQ.y (OpY.pure rfl)) ?_
  refine Run.q (v := .int .i64 ((((n : Nat) : Int)) - 0)) rfl (OpQ.y (OpY.sub rfl rfl rfl (by omega) (by omega))) ?_
  refine Run.q (v := .int .i64 ((((n : Nat) : Int)) - 0)) rfl (OpQ.y (OpY.pure rfl)) ?_
  refine Run.done ?_
  refine Run.seq ?_
  refine Run.seq ?_
  refine Run.region ?_
  refine Run.q (v := .int .i64 ((((n : Nat) : Int)) - 0)) rfl (OpQ.y (OpY.pure rfl)) ?_
  refine Run.q (v := .bool (decide (((((n : Nat) : Int)) - 0) ≤ 12))) rfl (OpQ.y (OpY.pure rfl)) ?_
  refine Run.done ?_
  refine Run.cond (b := decide (((((n : Nat) : Int)) - 0) ≤ 12)) rfl (fun h23 => ?_) (fun h23 => ?_)
  · have p23 := h23; try simp only [decide_eq_true_eq, decide_eq_false_iff_not, beq_iff_eq, bne_iff_ne, beq_eq_false_iff_ne, ne_eq, gt_iff_lt, ge_iff_le, Int.not_lt, Int.not_le, bne_eq_false_iff_eq, Bool.not_eq_true', Bool.not_eq_false', Bool.and_eq_true, Bool.and_eq_false_iff, Bool.or_eq_true, Bool.or_eq_false_iff, Decidable.not_not, List.cons.injEq, and_true] at p23
    refine Run.seq ?_
    refine Run.region ?_
    refine Run.q (v := .slice (some ⟨g, 0, none⟩) n c) rfl (OpQ.y (OpY.pure rfl)) ?_
    refine Run.q (v := .int .i64 0) rfl (OpQ.y (OpY.pure rfl)) ?_
    refine Run.q (v := .int .i64 (((n : Nat) : Int))) rfl (OpQ.y (OpY.pure rfl)) ?_
    refine Run.step rfl (OpStep.callM (H1 := [.own (.slice (some ⟨g, 0, none⟩) n c) 3 1 n (ints xs)]) (H2 := []) (vs := [.slice (some ⟨g, 0, none⟩) n c, .int .i64 0, .int .i64 (((n : Nat) : Int))]) (caps := []) Tcall_88 rfl rfl (Weak.refl _) (fun w hs => insSort_spec (by omega) hxl (hs.holds _ (.head _))) ?_)
    rintro _ _ ⟨ys, hys, rfl, rfl⟩
    show Run _ _ (putF _ _ _ (.tuple #[])) [.own (.slice (some ⟨g, 0, none⟩) n c) 3 1 n (ints ys)]
    refine Run.done ?_
    refine Run.ret ?_
    refine ⟨.tuple #[], [.own (.slice (some ⟨g, 0, none⟩) n c) 3 1 n (ints ys)], Out.none rfl, (Some'.weak (.take (.nil _))), ?_⟩
    exact ⟨_, hys, rfl, rfl⟩
  · exact absurd h23 (by simp; omega) --DONE

set_option maxHeartbeats 1000000 in
set_option maxRecDepth 20000 in
theorem Len64_1 (w : World) : Calls Try.prog 98 #[.int .u64 1] w (Post No w fun v _ => v = .int .i64 1) := by
  refine enter (n := 25) (args := [.int .u64 1]) Try.func98 rfl rfl (St.empty _ _) ?_
  refine Run.seq ?_
  refine Run.region ?_
  refine Run.q (v := .int .i64 0) rfl (OpQ.y (OpY.pure rfl)) ?_
  refine Run.done ?_
  refine Run.seq ?_
  refine Run.seq ?_
  refine Run.region ?_
  refine Run.q (v := .int .u64 1) rfl (OpQ.y (OpY.pure rfl)) ?_
  refine Run.q (v := .bool false) rfl (OpQ.y (OpY.pure rfl)) ?_
  refine Run.done ?_
  refine Run.cond (b := false) rfl (fun h => nomatch h) (fun _ => ?_)
  refine Run.skip ?_
  refine Run.seq ?_
  refine Run.seq ?_
  refine Run.region ?_
  refine Run.q (v := .int .u64 1) rfl (OpQ.y (OpY.pure rfl)) ?_
  refine Run.q (v := .bool false) rfl (OpQ.y (OpY.pure rfl)) ?_
  refine Run.done ?_
  refine Run.cond (b := false) rfl (fun h => nomatch h) (fun _ => ?_)
  refine Run.skip ?_
  refine Run.seq ?_
  refine Run.seq ?_
  refine Run.region ?_
  refine Run.q (v := .int .u64 1) rfl (OpQ.y (OpY.pure rfl)) ?_
  refine Run.q (v := .bool false) rfl (OpQ.y (OpY.pure rfl)) ?_
  refine Run.done ?_
  refine Run.cond (b := false) rfl (fun h => nomatch h) (fun _ => ?_)
  refine Run.skip ?_
  refine Run.seq ?_
  refine Run.region ?_
  refine Run.q (v := .int .i64 0) rfl (OpQ.y (OpY.pure rfl)) ?_
  refine Run.q (v := .int .u64 1) rfl (OpQ.y (OpY.pure rfl)) ?_
  refine Run.q (v := .int .u8 1) rfl (OpQ.y (OpY.convIntEq Tsome_58 Tint_5 rfl (by first | rfl | decide))) ?_
  refine Run.q (v := .int .u8 1) rfl (OpQ.y (OpY.run (by intro w; kernel_rfl))) ?_
  refine Run.q (v := .int .i64 1) rfl (OpQ.y (OpY.convIntEq Tsome_5 Tint_3 rfl (by first | rfl | decide))) ?_
  refine Run.q (v := .int .i64 1) rfl (OpQ.y (OpY.pure rfl)) ?_
  refine Run.q (v := .int .i64 1) rfl (OpQ.y (OpY.pure rfl)) ?_
  refine Run.done ?_
  refine Run.ret ?_
  refine ⟨.int .i64 1, [], Out.one rfl rfl, (Some'.weak (.nil _)), ?_⟩
  rfl

set_option maxHeartbeats 1000000 in
set_option maxRecDepth 20000 in
theorem Len64_2 (w : World) : Calls Try.prog 98 #[.int .u64 2] w (Post No w fun v _ => v = .int .i64 2) := by
  refine enter (n := 25) (args := [.int .u64 2]) Try.func98 rfl rfl (St.empty _ _) ?_
  refine Run.seq ?_
  refine Run.region ?_
  refine Run.q (v := .int .i64 0) rfl (OpQ.y (OpY.pure rfl)) ?_
  refine Run.done ?_
  refine Run.seq ?_
  refine Run.seq ?_
  refine Run.region ?_
  refine Run.q (v := .int .u64 2) rfl (OpQ.y (OpY.pure rfl)) ?_
  refine Run.q (v := .bool false) rfl (OpQ.y (OpY.pure rfl)) ?_
  refine Run.done ?_
  refine Run.cond (b := false) rfl (fun h => nomatch h) (fun _ => ?_)
  refine Run.skip ?_
  refine Run.seq ?_
  refine Run.seq ?_
  refine Run.region ?_
  refine Run.q (v := .int .u64 2) rfl (OpQ.y (OpY.pure rfl)) ?_
  refine Run.q (v := .bool false) rfl (OpQ.y (OpY.pure rfl)) ?_
  refine Run.done ?_
  refine Run.cond (b := false) rfl (fun h => nomatch h) (fun _ => ?_)
  refine Run.skip ?_
  refine Run.seq ?_
  refine Run.seq ?_
  refine Run.region ?_
  refine Run.q (v := .int .u64 2) rfl (OpQ.y (OpY.pure rfl)) ?_
  refine Run.q (v := .bool false) rfl (OpQ.y (OpY.pure rfl)) ?_
  refine Run.done ?_
  refine Run.cond (b := false) rfl (fun h => nomatch h) (fun _ => ?_)
  refine Run.skip ?_
  refine Run.seq ?_
  refine Run.region ?_
  refine Run.q (v := .int .i64 0) rfl (OpQ.y (OpY.pure rfl)) ?_
  refine Run.q (v := .int .u64 2) rfl (OpQ.y (OpY.pure rfl)) ?_
  refine Run.q (v := .int .u8 2) rfl (OpQ.y (OpY.convIntEq Tsome_58 Tint_5 rfl (by first | rfl | decide))) ?_
  refine Run.q (v := .int .u8 2) rfl (OpQ.y (OpY.run (by intro w; kernel_rfl))) ?_
  refine Run.q (v := .int .i64 2) rfl (OpQ.y (OpY.convIntEq Tsome_5 Tint_3 rfl (by first | rfl | decide))) ?_
  refine Run.q (v := .int .i64 2) rfl (OpQ.y (OpY.pure rfl)) ?_
  refine Run.q (v := .int .i64 2) rfl (OpQ.y (OpY.pure rfl)) ?_
  refine Run.done ?_
  refine Run.ret ?_
  refine ⟨.int .i64 2, [], Out.one rfl rfl, (Some'.weak (.nil _)), ?_⟩
  rfl

set_option maxHeartbeats 1000000 in
set_option maxRecDepth 20000 in
theorem Len64_3 (w : World) : Calls Try.prog 98 #[.int .u64 3] w (Post No w fun v _ => v = .int .i64 2) := by
  refine enter (n := 25) (args := [.int .u64 3]) Try.func98 rfl rfl (St.empty _ _) ?_
  refine Run.seq ?_
  refine Run.region ?_
  refine Run.q (v := .int .i64 0) rfl (OpQ.y (OpY.pure rfl)) ?_
  refine Run.done ?_
  refine Run.seq ?_
  refine Run.seq ?_
  refine Run.region ?_
  refine Run.q (v := .int .u64 3) rfl (OpQ.y (OpY.pure rfl)) ?_
  refine Run.q (v := .bool false) rfl (OpQ.y (OpY.pure rfl)) ?_
  refine Run.done ?_
  refine Run.cond (b := false) rfl (fun h => nomatch h) (fun _ => ?_)
  refine Run.skip ?_
  refine Run.seq ?_
  refine Run.seq ?_
  refine Run.region ?_
  refine Run.q (v := .int .u64 3) rfl (OpQ.y (OpY.pure rfl)) ?_
  refine Run.q (v := .bool false) rfl (OpQ.y (OpY.pure rfl)) ?_
  refine Run.done ?_
  refine Run.cond (b := false) rfl (fun h => nomatch h) (fun _ => ?_)
  refine Run.skip ?_
  refine Run.seq ?_
  refine Run.seq ?_
  refine Run.region ?_
  refine Run.q (v := .int .u64 3) rfl (OpQ.y (OpY.pure rfl)) ?_
  refine Run.q (v := .bool false) rfl (OpQ.y (OpY.pure rfl)) ?_
  refine Run.done ?_
  refine Run.cond (b := false) rfl (fun h => nomatch h) (fun _ => ?_)
  refine Run.skip ?_
  refine Run.seq ?_
  refine Run.region ?_
  refine Run.q (v := .int .i64 0) rfl (OpQ.y (OpY.pure rfl)) ?_
  refine Run.q (v := .int .u64 3) rfl (OpQ.y (OpY.pure rfl)) ?_
  refine Run.q (v := .int .u8 3) rfl (OpQ.y (OpY.convIntEq Tsome_58 Tint_5 rfl (by first | rfl | decide))) ?_
  refine Run.q (v := .int .u8 2) rfl (OpQ.y (OpY.run (by intro w; kernel_rfl))) ?_
  refine Run.q (v := .int .i64 2) rfl (OpQ.y (OpY.convIntEq Tsome_5 Tint_3 rfl (by first | rfl | decide))) ?_
  refine Run.q (v := .int .i64 2) rfl (OpQ.y (OpY.pure rfl)) ?_
  refine Run.q (v := .int .i64 2) rfl (OpQ.y (OpY.pure rfl)) ?_
  refine Run.done ?_
  refine Run.ret ?_
  refine ⟨.int .i64 2, [], Out.one rfl rfl, (Some'.weak (.nil _)), ?_⟩
  rfl

set_option maxHeartbeats 1000000 in
set_option maxRecDepth 20000 in
theorem Len64_4 (w : World) : Calls Try.prog 98 #[.int .u64 4] w (Post No w fun v _ => v = .int .i64 3) := by
  refine enter (n := 25) (args := [.int .u64 4]) Try.func98 rfl rfl (St.empty _ _) ?_
  refine Run.seq ?_
  refine Run.region ?_
  refine Run.q (v := .int .i64 0) rfl (OpQ.y (OpY.pure rfl)) ?_
  refine Run.done ?_
  refine Run.seq ?_
  refine Run.seq ?_
  refine Run.region ?_
  refine Run.q (v := .int .u64 4) rfl (OpQ.y (OpY.pure rfl)) ?_
  refine Run.q (v := .bool false) rfl (OpQ.y (OpY.pure rfl)) ?_
  refine Run.done ?_
  refine Run.cond (b := false) rfl (fun h => nomatch h) (fun _ => ?_)
  refine Run.skip ?_
  refine Run.seq ?_
  refine Run.seq ?_
  refine Run.region ?_
  refine Run.q (v := .int .u64 4) rfl (OpQ.y (OpY.pure rfl)) ?_
  refine Run.q (v := .bool false) rfl (OpQ.y (OpY.pure rfl)) ?_
  refine Run.done ?_
  refine Run.cond (b := false) rfl (fun h => nomatch h) (fun _ => ?_)
  refine Run.skip ?_
  refine Run.seq ?_
  refine Run.seq ?_
  refine Run.region ?_
  refine Run.q (v := .int .u64 4) rfl (OpQ.y (OpY.pure rfl)) ?_
  refine Run.q (v := .bool false) rfl (OpQ.y (OpY.pure rfl)) ?_
  refine Run.done ?_
  refine Run.cond (b := false) rfl (fun h => nomatch h) (fun _ => ?_)
  refine Run.skip ?_
  refine Run.seq ?_
  refine Run.region ?_
  refine Run.q (v := .int .i64 0) rfl (OpQ.y (OpY.pure rfl)) ?_
  refine Run.q (v := .int .u64 4) rfl (OpQ.y (OpY.pure rfl)) ?_
  refine Run.q (v := .int .u8 4) rfl (OpQ.y (OpY.convIntEq Tsome_58 Tint_5 rfl (by first | rfl | decide))) ?_
  refine Run.q (v := .int .u8 3) rfl (OpQ.y (OpY.run (by intro w; kernel_rfl))) ?_
  refine Run.q (v := .int .i64 3) rfl (OpQ.y (OpY.convIntEq Tsome_5 Tint_3 rfl (by first | rfl | decide))) ?_
  refine Run.q (v := .int .i64 3) rfl (OpQ.y (OpY.pure rfl)) ?_
  refine Run.q (v := .int .i64 3) rfl (OpQ.y (OpY.pure rfl)) ?_
  refine Run.done ?_
  refine Run.ret ?_
  refine ⟨.int .i64 3, [], Out.one rfl rfl, (Some'.weak (.nil _)), ?_⟩
  rfl

set_option maxHeartbeats 1000000 in
set_option maxRecDepth 20000 in
theorem Len64_5 (w : World) : Calls Try.prog 98 #[.int .u64 5] w (Post No w fun v _ => v = .int .i64 3) := by
  refine enter (n := 25) (args := [.int .u64 5]) Try.func98 rfl rfl (St.empty _ _) ?_
  refine Run.seq ?_
  refine Run.region ?_
  refine Run.q (v := .int .i64 0) rfl (OpQ.y (OpY.pure rfl)) ?_
  refine Run.done ?_
  refine Run.seq ?_
  refine Run.seq ?_
  refine Run.region ?_
  refine Run.q (v := .int .u64 5) rfl (OpQ.y (OpY.pure rfl)) ?_
  refine Run.q (v := .bool false) rfl (OpQ.y (OpY.pure rfl)) ?_
  refine Run.done ?_
  refine Run.cond (b := false) rfl (fun h => nomatch h) (fun _ => ?_)
  refine Run.skip ?_
  refine Run.seq ?_
  refine Run.seq ?_
  refine Run.region ?_
  refine Run.q (v := .int .u64 5) rfl (OpQ.y (OpY.pure rfl)) ?_
  refine Run.q (v := .bool false) rfl (OpQ.y (OpY.pure rfl)) ?_
  refine Run.done ?_
  refine Run.cond (b := false) rfl (fun h => nomatch h) (fun _ => ?_)
  refine Run.skip ?_
  refine Run.seq ?_
  refine Run.seq ?_
  refine Run.region ?_
  refine Run.q (v := .int .u64 5) rfl (OpQ.y (OpY.pure rfl)) ?_
  refine Run.q (v := .bool false) rfl (OpQ.y (OpY.pure rfl)) ?_
  refine Run.done ?_
  refine Run.cond (b := false) rfl (fun h => nomatch h) (fun _ => ?_)
  refine Run.skip ?_
  refine Run.seq ?_
  refine Run.region ?_
  refine Run.q (v := .int .i64 0) rfl (OpQ.y (OpY.pure rfl)) ?_
  refine Run.q (v := .int .u64 5) rfl (OpQ.y (OpY.pure rfl)) ?_
  refine Run.q (v := .int .u8 5) rfl (OpQ.y (OpY.convIntEq Tsome_58 Tint_5 rfl (by first | rfl | decide))) ?_
  refine Run.q (v := .int .u8 3) rfl (OpQ.y (OpY.run (by intro w; kernel_rfl))) ?_
  refine Run.q (v := .int .i64 3) rfl (OpQ.y (OpY.convIntEq Tsome_5 Tint_3 rfl (by first | rfl | decide))) ?_
  refine Run.q (v := .int .i64 3) rfl (OpQ.y (OpY.pure rfl)) ?_
  refine Run.q (v := .int .i64 3) rfl (OpQ.y (OpY.pure rfl)) ?_
  refine Run.done ?_
  refine Run.ret ?_
  refine ⟨.int .i64 3, [], Out.one rfl rfl, (Some'.weak (.nil _)), ?_⟩
  rfl

set_option maxHeartbeats 1000000 in
set_option maxRecDepth 20000 in
theorem Len_1 (w : World) : Calls Try.prog 84 #[.int .u64 1] w (Post No w fun v _ => v = .int .i64 1) := by
  refine enter (n := 8) (args := [.int .u64 1]) Try.func84 rfl rfl (St.empty _ _) ?_
  refine Run.seq ?_
  refine Run.region ?_
  refine Run.q (v := .int .i64 0) rfl (OpQ.y (OpY.pure rfl)) ?_
  refine Run.done ?_
  refine Run.seq ?_
  refine Run.cond (b := false) rfl (fun h => nomatch h) (fun _ => ?_)
  refine Run.skip ?_
  refine Run.seq ?_
  refine Run.region ?_
  refine Run.q (v := .int .u64 1) rfl (OpQ.y (OpY.pure rfl)) ?_
  refine Run.q (v := .int .i64 1) rfl (OpQ.call (vs := [.int .u64 1]) (caps := []) Tcall_98 rfl rfl (fun w hs => Len64_1 w)) ?_
  refine Run.q (v := .int .i64 1) rfl (OpQ.y (OpY.pure rfl)) ?_
  refine Run.done ?_
  refine Run.ret ?_
  refine ⟨.int .i64 1, [], Out.one rfl rfl, (Some'.weak (.nil _)), ?_⟩
  rfl

set_option maxHeartbeats 1000000 in
set_option maxRecDepth 20000 in
theorem Len_2 (w : World) : Calls Try.prog 84 #[.int .u64 2] w (Post No w fun v _ => v = .int .i64 2) := by
  refine enter (n := 8) (args := [.int .u64 2]) Try.func84 rfl rfl (St.empty _ _) ?_
  refine Run.seq ?_
  refine Run.region ?_
  refine Run.q (v := .int .i64 0) rfl (OpQ.y (OpY.pure rfl)) ?_
  refine Run.done ?_
  refine Run.seq ?_
  refine Run.cond (b := false) rfl (fun h => nomatch h) (fun _ => ?_)
  refine Run.skip ?_
  refine Run.seq ?_
  refine Run.region ?_
  refine Run.q (v := .int .u64 2) rfl (OpQ.y (OpY.pure rfl)) ?_
  refine Run.q (v := .int .i64 2) rfl (OpQ.call (vs := [.int .u64 2]) (caps := []) Tcall_98 rfl rfl (fun w hs => Len64_2 w)) ?_
  refine Run.q (v := .int .i64 2) rfl (OpQ.y (OpY.pure rfl)) ?_
  refine Run.done ?_
  refine Run.ret ?_
  refine ⟨.int .i64 2, [], Out.one rfl rfl, (Some'.weak (.nil _)), ?_⟩
  rfl

set_option maxHeartbeats 1000000 in
set_option maxRecDepth 20000 in
theorem Len_3 (w : World) : Calls Try.prog 84 #[.int .u64 3] w (Post No w fun v _ => v = .int .i64 2) := by
  refine enter (n := 8) (args := [.int .u64 3]) Try.func84 rfl rfl (St.empty _ _) ?_
  refine Run.seq ?_
  refine Run.region ?_
  refine Run.q (v := .int .i64 0) rfl (OpQ.y (OpY.pure rfl)) ?_
  refine Run.done ?_
  refine Run.seq ?_
  refine Run.cond (b := false) rfl (fun h => nomatch h) (fun _ => ?_)
  refine Run.skip ?_
  refine Run.seq ?_
  refine Run.region ?_
  refine Run.q (v := .int .u64 3) rfl (OpQ.y (OpY.pure rfl)) ?_
  refine Run.q (v := .int .i64 2) rfl (OpQ.call (vs := [.int .u64 3]) (caps := []) Tcall_98 rfl rfl (fun w hs => Len64_3 w)) ?_
  refine Run.q (v := .int .i64 2) rfl (OpQ.y (OpY.pure rfl)) ?_
  refine Run.done ?_
  refine Run.ret ?_
  refine ⟨.int .i64 2, [], Out.one rfl rfl, (Some'.weak (.nil _)), ?_⟩
  rfl

set_option maxHeartbeats 1000000 in
set_option maxRecDepth 20000 in
theorem Len_4 (w : World) : Calls Try.prog 84 #[.int .u64 4] w (Post No w fun v _ => v = .int .i64 3) := by
  refine enter (n := 8) (args := [.int .u64 4]) Try.func84 rfl rfl (St.empty _ _) ?_
  refine Run.seq ?_
  refine Run.region ?_
  refine Run.q (v := .int .i64 0) rfl (OpQ.y (OpY.pure rfl)) ?_
  refine Run.done ?_
  refine Run.seq ?_
  refine Run.cond (b := false) rfl (fun h => nomatch h) (fun _ => ?_)
  refine Run.skip ?_
  refine Run.seq ?_
  refine Run.region ?_
  refine Run.q (v := .int .u64 4) rfl (OpQ.y (OpY.pure rfl)) ?_
  refine Run.q (v := .int .i64 3) rfl (OpQ.call (vs := [.int .u64 4]) (caps := []) Tcall_98 rfl rfl (fun w hs => Len64_4 w)) ?_
  refine Run.q (v := .int .i64 3) rfl (OpQ.y (OpY.pure rfl)) ?_
  refine Run.done ?_
  refine Run.ret ?_
  refine ⟨.int .i64 3, [], Out.one rfl rfl, (Some'.weak (.nil _)), ?_⟩
  rfl

set_option maxHeartbeats 1000000 in
set_option maxRecDepth 20000 in
theorem Len_5 (w : World) : Calls Try.prog 84 #[.int .u64 5] w (Post No w fun v _ => v = .int .i64 3) := by
  refine enter (n := 8) (args := [.int .u64 5]) Try.func84 rfl rfl (St.empty _ _) ?_
  refine Run.seq ?_
  refine Run.region ?_
  refine Run.q (v := .int .i64 0) rfl (OpQ.y (OpY.pure rfl)) ?_
  refine Run.done ?_
  refine Run.seq ?_
  refine Run.cond (b := false) rfl (fun h => nomatch h) (fun _ => ?_)
  refine Run.skip ?_
  refine Run.seq ?_
  refine Run.region ?_
  refine Run.q (v := .int .u64 5) rfl (OpQ.y (OpY.pure rfl)) ?_
  refine Run.q (v := .int .i64 3) rfl (OpQ.call (vs := [.int .u64 5]) (caps := []) Tcall_98 rfl rfl (fun w hs => Len64_5 w)) ?_
  refine Run.q (v := .int .i64 3) rfl (OpQ.y (OpY.pure rfl)) ?_
  refine Run.done ?_
  refine Run.ret ?_
  refine ⟨.int .i64 3, [], Out.one rfl rfl, (Some'.weak (.nil _)), ?_⟩
  rfl


def lenN (n : Nat) : Int := if n = 1 then 1 else if n ≤ 3 then 2 else 3
theorem Len_spec {n : Nat} (h1 : 1 ≤ n) (h5 : n ≤ 5) (w : World) : Calls Try.prog 84 #[.int .u64 (n : Int)] w (Post No w fun v _ => v = .int .i64 (lenN n)) := by
  rcases (by omega : n = 1 ∨ n = 2 ∨ n = 3 ∨ n = 4 ∨ n = 5) with rfl | rfl | rfl | rfl | rfl
  · exact Len_1 w
  · exact Len_2 w
  · exact Len_3 w
  · exact Len_4 w
  · exact Len_5 w
theorem mks_succ (k : Nat) : mks 0 k ++ [(k : Int)] = mks 0 (k + 1) := by
  simp [mks, List.range_succ]
theorem ints_mks (k : Nat) : ints (mks 0 k) ++ [.int .i64 (k : Int)] = ints (mks 0 (k + 1)) := by rw [← mks_succ, ints_append]; rfl
theorem plc_int {xs now : List Int} {q r n : Nat} (hn : now.length = n) (hr : r < n) (he : ix now r = ix xs q) : findI (fun i => decide (ix now i = ix xs q)) n = ((plc xs q now : Nat) : Int) := by
  have : anyI (fun i => decide (ix now i = ix xs q)) n = true := anyI_true hr (decide_eq_true he)
  have := findI_nonneg.2 this
  rw [plc, hn]; omega
theorem pmS_eq {n q : Nat} {xs : List Int} (h : plc xs q (pmS n xs q).1 = q) : pmS n xs (q + 1) = pmS n xs q := by rw [pmS, if_pos h]
theorem pmS_ne {n q : Nat} {xs : List Int} (h : plc xs q (pmS n xs q).1 ≠ q) : pmS n xs (q + 1) = (swp (pmS n xs q).1 q (plc xs q (pmS n xs q).1), (pmS n xs q).2 ++ [(q, plc xs q (pmS n xs q).1)]) := by rw [pmS, if_neg h]

set_option maxHeartbeats 1000000 in
set_option maxRecDepth 20000 in
theorem Sort_spec {g n c : Nat} {xs : List Int} {w : World} (hn1 : 1 ≤ n) (hn : n ≤ 5) (hxl : xs.length = n) (h : (Res.own (.slice (some ⟨g, 0, none⟩) n c) 3 1 n (ints xs)).holds w) : Calls Try.prog 78 #[.slice (some ⟨g, 0, none⟩) n c] w (Post (Of [.own (.slice (some ⟨g, 0, none⟩) n c) 3 1 n (ints xs)]) w fun v H => ∃ ys, (ys.Perm xs ∧ srt ys n) ∧ v = .tuple #[] ∧ H = [.own (.slice (some ⟨g, 0, none⟩) n c) 3 1 n (ints ys)]) := by
  refine enter (n := 11) (args := [.slice (some ⟨g, 0, none⟩) n c]) Try.func78 rfl rfl (St.start1 h) ?_
  refine Run.seq ?_
  refine Run.region ?_
  refine Run.q (v := .slice (some ⟨g, 0, none⟩) n c) rfl (OpQ.y (OpY.pure rfl)) ?_
  refine Run.q (v := .int .i64 (((n : Nat) : Int))) rfl (OpQ.y (OpY.len Tsl_34 rfl)) ?_
  refine Run.q (v := .int .i64 (((n : Nat) : Int))) rfl (OpQ.y (OpY.pure rfl)) ?_
  refine Run.done ?_
  refine Run.region ?_
  refine Run.q (v := .slice (some ⟨g, 0, none⟩) n c) rfl (OpQ.y (OpY.pure rfl)) ?_
  refine Run.q (v := .int .i64 (((n : Nat) : Int))) rfl (OpQ.y (OpY.pure rfl)) ?_
  refine Run.q (v := .int .i64 (((n : Nat) : Int))) rfl (OpQ.y (OpY.pure rfl)) ?_
  refine Run.q (v := .int .u64 (((n : Nat) : Int))) rfl (OpQ.y (OpY.convIntEq Tsome_3 Tint_88 rfl (by rw [IntKind.wrap_u64]; omega))) ?_
  refine Run.q (v := .int .i64 (lenN n)) rfl (OpQ.call (vs := [.int .u64 (((n : Nat) : Int))]) (caps := []) Tcall_84 rfl rfl (fun w hs => Len_spec hn1 hn w)) ?_
  refine Run.step rfl (OpStep.callM (H1 := [.own (.slice (some ⟨g, 0, none⟩) n c) 3 1 n (ints xs)]) (H2 := []) (vs := [.slice (some ⟨g, 0, none⟩) n c, .int .i64 0, .int .i64 (((n : Nat) : Int)), .int .i64 (lenN n)]) (caps := []) Tcall_83 rfl rfl (Weak.refl _) (fun w hs => pdq_spec (by omega) hxl (hs.holds _ (.head _))) ?_)
  rintro _ _ ⟨ys, hys, rfl, rfl⟩
  show Run _ _ (putF _ _ _ (.tuple #[])) [.own (.slice (some ⟨g, 0, none⟩) n c) 3 1 n (ints ys)]
  refine Run.done ?_
  refine Run.fin ?_
  refine ⟨.tuple #[], [.own (.slice (some ⟨g, 0, none⟩) n c) 3 1 n (ints ys)], Out.none rfl, (Some'.weak (.take (.nil _))), ?_⟩
  exact ⟨_, hys, rfl, rfl⟩

set_option maxHeartbeats 1000000 in
set_option maxRecDepth 20000 in
theorem isPermutation_spec {va : Value} {n : Nat} {xs : List Int} {w : World} (hn1 : 1 ≤ n) (hn : n ≤ 5) (ha : Sl w va 1 n (ints xs)) : Calls Try.prog 61 #[va] w (Post No w fun v _ => v = .bool (isPm xs n)) := by
  have hxl : xs.length = n := by have := ha.len; omega
  refine enter (n := 21) (args := [va]) Try.func61 rfl rfl (St.empty _ _) ?_
  refine Run.seq ?_
  refine Run.region ?_
  refine Run.q (v := .bool false) rfl (OpQ.y (OpY.pure rfl)) ?_
  refine Run.done ?_
  refine Run.seq ?_
  refine Run.region ?_
  refine Run.q (v := va) rfl (OpQ.y (OpY.pure rfl)) ?_
  refine Run.step rfl (OpStep.call (vs := [va]) (caps := []) Tcall_66 rfl rfl (fun w hs => CloneInt_spec (by omega) (by omega) (hs.sl ha)) ?_)
  rintro uo _ rfl
  show Run _ _ (putF _ _ _ uo) [.own uo 3 1 n (ints xs)]
  refine Run.q (v := uo) rfl (OpQ.y (OpY.pure rfl)) ?_
  refine Run.done ?_
  refine Run.seq ?_
  refine Run.openOwn (.head _) (by omega) (fun g c hvg hcapg _ => ?_) (fun _ _ _ => ⟨nofun, nofun, nofun⟩)
  subst hvg
  refine Run.region ?_
  refine Run.q (v := .slice (some ⟨g, 0, none⟩) n c) rfl (OpQ.y (OpY.pure rfl)) ?_
  refine Run.step rfl (OpStep.callM (H1 := [.own (.slice (some ⟨g, 0, none⟩) n c) 3 1 n (ints xs)]) (H2 := []) (vs := [.slice (some ⟨g, 0, none⟩) n c]) (caps := []) Tcall_78 rfl rfl (Weak.refl _) (fun w hs => Sort_spec hn1 hn hxl (hs.holds _ (.head _))) ?_)
  rintro _ _ ⟨ys, hys, rfl, rfl⟩
  show Run _ _ (putF _ _ _ (.tuple #[])) [.own (.slice (some ⟨g, 0, none⟩) n c) 3 1 n (ints ys)]
  refine Run.done ?_
  refine Run.seq ?_
  refine Run.seq ?_
  refine Run.region ?_
  refine Run.q (v := .slice (some ⟨g, 0, none⟩) n c) rfl (OpQ.y (OpY.pure rfl)) ?_
  refine Run.q (v := .int .i64 (((n : Nat) : Int))) rfl (OpQ.y (OpY.len Tsl_34 rfl)) ?_
  refine Run.q (v := .int .i64 0) rfl (OpQ.y (OpY.pure rfl)) ?_
  refine Run.done ?_
  refine Run.block ?_
  refine Run.loop (ι := Nat) [2, 4, 5, 12, 13, 14, 15, 16, 17, 18, 19, 20] (fun k => [(12, .int .i64 (((k : Nat) : Int)))]) (fun k => [.own (.slice (some ⟨g, 0, none⟩) n c) 3 1 n (ints ys)]) (fun k => k ≤ n ∧ ∀ i, i < k → ix ys i = i) (fun k => n - k) 0 ?_ ?_ ?_ ?_
  · exact ⟨Nat.zero_le _, fun i hi => by omega⟩
  · exact ⟨rfl, trivial⟩
  · exact (Some'.weak (.take (.nil _)))
  · rintro k fr hinv
    show Run _ _ (over _ _ [(12, .int .i64 (((k : Nat) : Int)))] fr) [.own (.slice (some ⟨g, 0, none⟩) n c) 3 1 n (ints ys)]
    try dsimp only at hinv
    refine Run.seq ?_
    refine Run.region ?_
    refine Run.q (v := .bool (decide ((((k : Nat) : Int)) < (((n : Nat) : Int))))) rfl (OpQ.y (OpY.pure rfl)) ?_
    refine Run.done ?_
    refine Run.seq ?_
    refine Run.cond (b := decide ((((k : Nat) : Int)) < (((n : Nat) : Int)))) rfl (fun h13 => ?_) (fun h13 => ?_)
    · have p13 := h13; try simp only [decide_eq_true_eq, decide_eq_false_iff_not, beq_iff_eq, bne_iff_ne, beq_eq_false_iff_ne, ne_eq, gt_iff_lt, ge_iff_le, Int.not_lt, Int.not_le, bne_eq_false_iff_eq, Bool.not_eq_true', Bool.not_eq_false', Bool.and_eq_true, Bool.and_eq_false_iff, Bool.or_eq_true, Bool.or_eq_false_iff, Decidable.not_not, List.cons.injEq, and_true] at p13
      have hkn : k < n := by omega
      have hyl := perm_len hys.1
      refine Run.skip ?_
      refine Run.seq ?_
      refine Run.block ?_
      refine Run.seq ?_
      refine Run.region ?_
      refine Run.q (v := .int .i64 (((k : Nat) : Int))) rfl (OpQ.y (OpY.pure rfl)) ?_
      refine Run.q (v := .pointer (some ⟨g, k, none⟩)) rfl (OpQ.y (OpY.index (kk := k) Tsl_34 rfl rfl (by omega) (by omega) (by first | rfl | omega))) ?_
      refine Run.q (v := .int .i64 (ix ys (k))) rfl (OpQ.y (OpY.load1 Tone_3 rfl (Cells.own0 (.head _) (pre1 (by omega))))) ?_
      refine Run.q (v := .int .i64 (((k : Nat) : Int))) rfl (OpQ.y (OpY.pure rfl)) ?_
      refine Run.q (v := .int .i64 (ix ys (k))) rfl (OpQ.y (OpY.pure rfl)) ?_
      refine Run.done ?_
      refine Run.seq ?_
      refine Run.region ?_
      refine Run.q (v := .int .i64 (((k : Nat) : Int))) rfl (OpQ.y (OpY.pure rfl)) ?_
      refine Run.q (v := .int .i64 (ix ys (k))) rfl (OpQ.y (OpY.pure rfl)) ?_
      refine Run.q (v := .bool ((((k : Nat) : Int)) != (ix ys (k)))) rfl (OpQ.y (OpY.pure rfl)) ?_
      refine Run.done ?_
      refine Run.cond (b := (((k : Nat) : Int)) != (ix ys (k))) rfl (fun h19 => ?_) (fun h19 => ?_)
      · have p19 := h19; try simp only [decide_eq_true_eq, decide_eq_false_iff_not, beq_iff_eq, bne_iff_ne, beq_eq_false_iff_ne, ne_eq, gt_iff_lt, ge_iff_le, Int.not_lt, Int.not_le, bne_eq_false_iff_eq, Bool.not_eq_true', Bool.not_eq_false', Bool.and_eq_true, Bool.and_eq_false_iff, Bool.or_eq_true, Bool.or_eq_false_iff, Decidable.not_not, List.cons.injEq, and_true] at p19
        refine Run.seq ?_
        have hres : isPm xs n = false := by
          cases hb : isPm xs n with
          | false => rfl
          | true => have := (sorted_pm hxl hys.1 hys.2).2 hb k hkn; exfalso; omega
        refine Run.region ?_
        refine Run.q (v := .bool false) rfl (OpQ.y (OpY.pure rfl)) ?_
        refine Run.done ?_
        refine Run.ret ?_
        refine ⟨.bool false, [], Out.one rfl rfl, (Some'.weak (.nil _)), ?_⟩
        show _ = _; rw [hres]
      · have p19 := h19; try simp only [decide_eq_true_eq, decide_eq_false_iff_not, beq_iff_eq, bne_iff_ne, beq_eq_false_iff_ne, ne_eq, gt_iff_lt, ge_iff_le, Int.not_lt, Int.not_le, bne_eq_false_iff_eq, Bool.not_eq_true', Bool.not_eq_false', Bool.and_eq_true, Bool.and_eq_false_iff, Bool.or_eq_true, Bool.or_eq_false_iff, Decidable.not_not, List.cons.injEq, and_true] at p19
        refine Run.skip ?_
        refine Run.blockEnd ?_
        refine Run.region ?_
        refine Run.q (v := .int .i64 ((((k : Nat) : Int)) + 1)) rfl (OpQ.y (OpY.add rfl rfl rfl (by omega) (by omega))) ?_
        refine Run.q (v := .int .i64 ((((k : Nat) : Int)) + 1)) rfl (OpQ.y (OpY.pure rfl)) ?_
        refine Run.done ?_
        refine Run.goal ⟨(by repeat (first | exact Same.refl _ _ | refine Same.put rfl ?_ | refine Same.over rfl rfl ?_)), k + 1, ?_, ?_, ?_, ?_⟩
        · refine ⟨by omega, fun i hi => ?_⟩
          rcases Nat.lt_succ_iff_lt_or_eq.1 hi with h | h
          · exact hinv.2 i h
          · rw [h]; omega
        · omega
        · exact ⟨(by first | rfl | (congr 1; omega) | simp), trivial⟩
        · exact (Some'.weak (.takeEq (by first | rfl | simp) (.nil _)))
    · have p13 := h13; try simp only [decide_eq_true_eq, decide_eq_false_iff_not, beq_iff_eq, bne_iff_ne, beq_eq_false_iff_ne, ne_eq, gt_iff_lt, ge_iff_le, Int.not_lt, Int.not_le, bne_eq_false_iff_eq, Bool.not_eq_true', Bool.not_eq_false', Bool.and_eq_true, Bool.and_eq_false_iff, Bool.or_eq_true, Bool.or_eq_false_iff, Decidable.not_not, List.cons.injEq, and_true] at p13
      have hres : isPm xs n = true := (sorted_pm hxl hys.1 hys.2).1 fun i hi => hinv.2 i (by omega)
      refine Run.exit rfl ?_
      refine Run.seq ?_
      refine Run.region ?_
      refine Run.q (v := .bool true) rfl (OpQ.y (OpY.pure rfl)) ?_
      refine Run.done ?_
      refine Run.ret ?_
      refine ⟨.bool true, [], Out.one rfl rfl, (Some'.weak (.nil _)), ?_⟩
      show _ = _; rw [hres]

set_option maxHeartbeats 1000000 in
set_option maxRecDepth 20000 in
theorem l20Swaps_spec {va : Value} {n : Nat} {xs : List Int} {w : World} (hn1 : 1 ≤ n) (hn : n ≤ 5) (hpm : isPm xs n = true) (ha : Sl w va 1 n (ints xs)) : Calls Try.prog 64 #[va] w (Post No w fun v H => H = [.own v 50 3 (pmS n xs n).2.length (ints (flSW (pmS n xs n).2))]) := by
  have hxl : xs.length = n := by have := ha.len; omega
  obtain ⟨A, c, rfl, _, _⟩ := ha.form0
  refine enter (n := 62) (args := [.slice A n c]) Try.func64 rfl rfl (St.empty _ _) ?_
  refine Run.seq ?_
  refine Run.region ?_
  refine Run.q (v := .slice none 0 0) rfl (OpQ.y (OpY.pure rfl)) ?_
  refine Run.done ?_
  refine Run.seq ?_
  refine Run.region ?_
  refine Run.q (v := .slice none 0 0) rfl (OpQ.y (OpY.pure rfl)) ?_
  refine Run.done ?_
  refine Run.seq ?_
  refine Run.region ?_
  refine Run.q (v := .slice none 0 0) rfl (OpQ.y (OpY.pure rfl)) ?_
  refine Run.done ?_
  refine Run.seq ?_
  refine Run.seq ?_
  refine Run.region ?_
  refine Run.q (v := .slice A n c) rfl (OpQ.y (OpY.pure rfl)) ?_
  refine Run.q (v := .int .i64 (((n : Nat) : Int))) rfl (OpQ.y (OpY.len Tsl_34 rfl)) ?_
  refine Run.q (v := .int .i64 0) rfl (OpQ.y (OpY.pure rfl)) ?_
  refine Run.done ?_
  refine Run.block ?_
  refine Run.loop (ι := Nat × Value) [4, 5, 11, 12, 13, 14, 15, 16, 17, 18] (fun ⟨k, v⟩ => [(4, v), (11, .int .i64 (((k : Nat) : Int)))]) (fun ⟨k, v⟩ => [.own v 3 1 k (ints (mks 0 k))]) (fun ⟨k, v⟩ => k ≤ n) (fun ⟨k, v⟩ => n - k) (0, .slice none 0 0) ?_ ?_ ?_ ?_
  · exact Nat.zero_le _
  · exact ⟨rfl, rfl, trivial⟩
  · exact ((Weak.nilOwn 3 1).trans (Some'.weak (.takeEq rfl (.nil _))))
  · rintro ⟨k, v⟩ fr hinv
    show Run _ _ (over _ _ [(4, v), (11, .int .i64 (((k : Nat) : Int)))] fr) [.own v 3 1 k (ints (mks 0 k))]
    try dsimp only at hinv
    refine Run.seq ?_
    refine Run.region ?_
    refine Run.q (v := .bool (decide ((((k : Nat) : Int)) < (((n : Nat) : Int))))) rfl (OpQ.y (OpY.pure rfl)) ?_
    refine Run.done ?_
    refine Run.seq ?_
    refine Run.cond (b := decide ((((k : Nat) : Int)) < (((n : Nat) : Int)))) rfl (fun h12 => ?_) (fun h12 => ?_)
    · have p12 := h12; try simp only [decide_eq_true_eq, decide_eq_false_iff_not, beq_iff_eq, bne_iff_ne, beq_eq_false_iff_ne, ne_eq, gt_iff_lt, ge_iff_le, Int.not_lt, Int.not_le, bne_eq_false_iff_eq, Bool.not_eq_true', Bool.not_eq_false', Bool.and_eq_true, Bool.and_eq_false_iff, Bool.or_eq_true, Bool.or_eq_false_iff, Decidable.not_not, List.cons.injEq, and_true] at p12
      have hkn : k < n := by omega
      refine Run.skip ?_
      refine Run.seq ?_
      refine Run.block ?_
      refine Run.seq ?_
      refine Run.region ?_
      refine Run.q (v := .int .i64 (((k : Nat) : Int))) rfl (OpQ.y (OpY.pure rfl)) ?_
      refine Run.q (v := .int .i64 (((k : Nat) : Int))) rfl (OpQ.y (OpY.pure rfl)) ?_
      refine Run.done ?_
      refine Run.region ?_
      refine Run.q (v := v) rfl (OpQ.y (OpY.pure rfl)) ?_
      refine Run.q (v := .int .i64 (((k : Nat) : Int))) rfl (OpQ.y (OpY.pure rfl)) ?_
      refine Run.step rfl (OpStep.buildSlice (us := [.int .i64 (((k : Nat) : Int))]) Tsl_34 (by decide) (by decide) ⟨rfl, [.int .i64 (((k : Nat) : Int))], _, rfl, rfl, rfl, rfl⟩ rfl fun b1 => ?_)
      refine Run.step rfl (OpStep.append (H1 := [.own (.slice (some ⟨b1, 0, none⟩) 1 1) 3 1 1 ([.int .i64 (((k : Nat) : Int))])]) (H2 := []) (v := v) (u := .slice (some ⟨b1, 0, none⟩) 1 1) (n := k) (m := 1) (xs := ints (mks 0 k)) (ys := [.int .i64 (((k : Nat) : Int))]) Tsl_34 (by decide) rfl rfl rfl rfl (fun w hs => hs.slOwn (.head _)) (by simp [Value.oneCell']) (by omega) (by simp only [maxLen]; omega) fun av1 hnav1 => ?_)
      refine Run.weak (H' := [.own (.slice (some ⟨b1, 0, none⟩) 1 1) 3 1 1 ([.int .i64 (((k : Nat) : Int))]), .own av1 3 1 (k + 1) (ints (mks 0 (k + 1)))]) (Some'.weak (.take (.takeEq (by rw [← ints_mks]) (.nil _)))) ?_ ⟨_, _, rfl, fun _ => nofun, fun _ => nofun⟩
      refine Run.q (v := av1) rfl (OpQ.y (OpY.pure rfl)) ?_
      refine Run.done ?_
      refine Run.blockEnd ?_
      refine Run.region ?_
      refine Run.q (v := .int .i64 ((((k : Nat) : Int)) + 1)) rfl (OpQ.y (OpY.add rfl rfl rfl (by omega) (by omega))) ?_
      refine Run.q (v := .int .i64 ((((k : Nat) : Int)) + 1)) rfl (OpQ.y (OpY.pure rfl)) ?_
      refine Run.done ?_
      refine Run.goal ⟨(by repeat (first | exact Same.refl _ _ | refine Same.put rfl ?_ | refine Same.over rfl rfl ?_)), (k + 1, av1), ?_, ?_, ?_, ?_⟩
      · show k + 1 ≤ n; omega
      · show n - (k + 1) < n - k; omega
      · exact ⟨(by first | rfl | (congr 1; omega) | simp), (by first | rfl | (congr 1; omega) | simp), trivial⟩
      · exact (Some'.weak (.skip (.takeEq (by first | rfl | simp) (.nil _))))
    · have p12 := h12; try simp only [decide_eq_true_eq, decide_eq_false_iff_not, beq_iff_eq, bne_iff_ne, beq_eq_false_iff_ne, ne_eq, gt_iff_lt, ge_iff_le, Int.not_lt, Int.not_le, bne_eq_false_iff_eq, Bool.not_eq_true', Bool.not_eq_false', Bool.and_eq_true, Bool.and_eq_false_iff, Bool.or_eq_true, Bool.or_eq_false_iff, Decidable.not_not, List.cons.injEq, and_true] at p12
      have hkn : n = n := rfl
      obtain rfl : n = k := by omega
      refine Run.exit rfl ?_
      refine Run.seq ?_
      refine Run.seq ?_
      refine Run.openOwn (.head _) (by omega) (fun gn cn hvgn hcapgn _ => ?_) (fun _ _ _ => ⟨nofun, nofun, nofun⟩)
      subst hvgn
      refine Run.region ?_
      refine Run.q (v := .slice A n c) rfl (OpQ.y (OpY.pure rfl)) ?_
      refine Run.q (v := .int .i64 (((n : Nat) : Int))) rfl (OpQ.y (OpY.len Tsl_34 rfl)) ?_
      refine Run.q (v := .int .i64 0) rfl (OpQ.y (OpY.pure rfl)) ?_
      refine Run.done ?_
      refine Run.block ?_
      refine Run.loop (ι := Nat × Value) [3, 6, 7, 8, 21, 22, 23, 24, 25, 26, 27, 28, 29, 30, 31, 32, 33, 34, 35, 36, 37, 38, 39, 40, 41, 42, 43, 44, 45, 46, 47, 48, 49, 50, 51, 52, 53, 54, 55, 56, 57, 58, 59, 60] (fun ⟨q, vg⟩ => [(3, vg), (21, .int .i64 (((q : Nat) : Int)))]) (fun ⟨q, vg⟩ => [.own (.slice (some ⟨gn, 0, none⟩) n cn) 3 1 n (ints ((pmS n xs q).1)), .own vg 50 3 (((pmS n xs q).2).length) (ints (flSW ((pmS n xs q).2)))]) (fun ⟨q, vg⟩ => q ≤ n) (fun ⟨q, vg⟩ => n - q) (0, .slice none 0 0) ?_ ?_ ?_ ?_
      · exact Nat.zero_le _
      · exact ⟨rfl, rfl, trivial⟩
      · exact ((Weak.nilOwn 50 3).trans ((Weak.of_perm (List.Perm.swap _ _ _)).trans (Some'.weak (.takeEq rfl (.takeEq rfl (.nil _))))))
      · rintro ⟨q, vg⟩ fr hinv
        show Run _ _ (over _ _ [(3, vg), (21, .int .i64 (((q : Nat) : Int)))] fr) [.own (.slice (some ⟨gn, 0, none⟩) n cn) 3 1 n (ints ((pmS n xs q).1)), .own vg 50 3 (((pmS n xs q).2).length) (ints (flSW ((pmS n xs q).2)))]
        try dsimp only at hinv
        refine Run.seq ?_
        refine Run.region ?_
        refine Run.q (v := .bool (decide ((((q : Nat) : Int)) < (((n : Nat) : Int))))) rfl (OpQ.y (OpY.pure rfl)) ?_
        refine Run.done ?_
        refine Run.seq ?_
        refine Run.cond (b := decide ((((q : Nat) : Int)) < (((n : Nat) : Int)))) rfl (fun h22 => ?_) (fun h22 => ?_)
        · have p22 := h22; try simp only [decide_eq_true_eq, decide_eq_false_iff_not, beq_iff_eq, bne_iff_ne, beq_eq_false_iff_ne, ne_eq, gt_iff_lt, ge_iff_le, Int.not_lt, Int.not_le, bne_eq_false_iff_eq, Bool.not_eq_true', Bool.not_eq_false', Bool.and_eq_true, Bool.and_eq_false_iff, Bool.or_eq_true, Bool.or_eq_false_iff, Decidable.not_not, List.cons.injEq, and_true] at p22
          have hqn : q < n := by omega
          have hok := pm_ok hpm q (by omega)
          have hnl := hok.len
          have hfew := hok.few
          have hpl := hok.place hpm hqn
          obtain ⟨b, o, rfl⟩ := ha.opn (by omega)
          refine Run.skip ?_
          refine Run.seq ?_
          refine Run.block ?_
          refine Run.seq ?_
          refine Run.region ?_
          refine Run.q (v := .int .i64 (((q : Nat) : Int))) rfl (OpQ.y (OpY.pure rfl)) ?_
          refine Run.q (v := .int .i64 (((q : Nat) : Int))) rfl (OpQ.y (OpY.pure rfl)) ?_
          refine Run.done ?_
          refine Run.seq ?_
          refine Run.region ?_
          refine Run.q (v := .int .i64 (((q : Nat) : Int))) rfl (OpQ.y (OpY.pure rfl)) ?_
          refine Run.q (v := .int .i64 (((q : Nat) : Int))) rfl (OpQ.y (OpY.pure rfl)) ?_
          refine Run.done ?_
          refine Run.seq ?_
          refine Run.block ?_
          refine Run.loop (ι := Nat) [7, 25, 26, 27, 28, 29, 30, 31, 32, 33, 34, 35] (fun r => [(7, .int .i64 (((r : Nat) : Int)))]) (fun r => [.own (.slice (some ⟨gn, 0, none⟩) n cn) 3 1 n (ints ((pmS n xs q).1)), .own vg 50 3 (((pmS n xs q).2).length) (ints (flSW ((pmS n xs q).2)))]) (fun r => q ≤ r ∧ r ≤ (plc xs q (pmS n xs q).1)) (fun r => (plc xs q (pmS n xs q).1) - r) q ?_ ?_ ?_ ?_
          · exact ⟨Nat.le_refl _, hpl.1⟩
          · exact ⟨rfl, trivial⟩
          · exact (Some'.weak (.take (.take (.nil _))))
          · rintro r fr hinv
            show Run _ _ (over _ _ [(7, .int .i64 (((r : Nat) : Int)))] fr) [.own (.slice (some ⟨gn, 0, none⟩) n cn) 3 1 n (ints ((pmS n xs q).1)), .own vg 50 3 (((pmS n xs q).2).length) (ints (flSW ((pmS n xs q).2)))]
            try dsimp only at hinv
            refine Run.seq ?_
            refine Run.seq ?_
            refine Run.draws (by kernel_rfl) (by kernel_rfl) ?_
            refine Lex.q (v := .slice (some ⟨gn, 0, none⟩) n cn) rfl (OpQ.y (OpY.pure rfl)) ?_
            refine Lex.q (v := .int .i64 (((r : Nat) : Int))) rfl (OpQ.y (OpY.pure rfl)) ?_
            refine Lex.q (v := .pointer (some ⟨gn, r, none⟩)) rfl (OpQ.y (OpY.index (kk := r) Tsl_34 rfl rfl (by omega) (by omega) (by first | rfl | omega))) ?_
            refine Lex.q (v := .int .i64 (ix ((pmS n xs q).1) (r))) rfl (OpQ.y (OpY.load1 Tone_3 rfl (Cells.own0 (.head _) (pre1 (by omega))))) ?_
            refine Lex.q (v := .slice (some ⟨b, o, none⟩) n c) rfl (OpQ.y (OpY.pure rfl)) ?_
            refine Lex.q (v := .int .i64 (((q : Nat) : Int))) rfl (OpQ.y (OpY.pure rfl)) ?_
            refine Lex.q (v := .pointer (some ⟨b, o + q, none⟩)) rfl (OpQ.y (OpY.index (kk := q) Tsl_34 rfl rfl (by omega) (by omega) (by first | rfl | omega))) ?_
            refine Lex.q (v := .int .i64 (ix xs (q))) rfl (OpQ.y (OpY.load1 Tone_3 rfl (Cells.arg (k := q) ha rfl (by omega) (pre1 (by omega))))) ?_
            refine Lex.q (v := .bool ((ix ((pmS n xs q).1) (r)) != (ix xs (q)))) rfl (OpQ.y (OpY.pure rfl)) ?_
            refine Lex.done ?_
            refine Run.cond (b := (ix ((pmS n xs q).1) (r)) != (ix xs (q))) rfl (fun h33 => ?_) (fun h33 => ?_)
            · have p33 := h33; try simp only [decide_eq_true_eq, decide_eq_false_iff_not, beq_iff_eq, bne_iff_ne, beq_eq_false_iff_ne, ne_eq, gt_iff_lt, ge_iff_le, Int.not_lt, Int.not_le, bne_eq_false_iff_eq, Bool.not_eq_true', Bool.not_eq_false', Bool.and_eq_true, Bool.and_eq_false_iff, Bool.or_eq_true, Bool.or_eq_false_iff, Decidable.not_not, List.cons.injEq, and_true] at p33
              refine Run.skip ?_
              refine Run.block ?_
              refine Run.region ?_
              refine Run.q (v := .int .i64 (((r : Nat) : Int))) rfl (OpQ.y (OpY.pure rfl)) ?_
              refine Run.q (v := .int .i64 ((((r : Nat) : Int)) + 1)) rfl (OpQ.y (OpY.add rfl rfl rfl (by omega) (by omega))) ?_
              refine Run.q (v := .int .i64 ((((r : Nat) : Int)) + 1)) rfl (OpQ.y (OpY.pure rfl)) ?_
              refine Run.done ?_
              refine Run.blockEnd ?_
              refine Run.goal ⟨(by repeat (first | exact Same.refl _ _ | refine Same.put rfl ?_ | refine Same.over rfl rfl ?_)), r + 1, ?_, ?_, ?_, ?_⟩
              · refine ⟨by omega, ?_⟩
                refine Decidable.byContradiction fun hgt => ?_
                have e : r = (plc xs q (pmS n xs q).1) := by omega
                exact p33 (by rw [e]; exact hpl.2.2.1)
              · have : r < (plc xs q (pmS n xs q).1) := by
                  refine Decidable.byContradiction fun hgt => ?_
                  have e : r = (plc xs q (pmS n xs q).1) := by omega
                  exact p33 (by rw [e]; exact hpl.2.2.1)
                omega
              · exact ⟨(by first | rfl | (congr 1; omega) | simp), trivial⟩
              · exact (Some'.weak (.takeEq (by first | rfl | simp) (.takeEq (by first | rfl | simp) (.nil _))))
            · have p33 := h33; try simp only [decide_eq_true_eq, decide_eq_false_iff_not, beq_iff_eq, bne_iff_ne, beq_eq_false_iff_ne, ne_eq, gt_iff_lt, ge_iff_le, Int.not_lt, Int.not_le, bne_eq_false_iff_eq, Bool.not_eq_true', Bool.not_eq_false', Bool.and_eq_true, Bool.and_eq_false_iff, Bool.or_eq_true, Bool.or_eq_false_iff, Decidable.not_not, List.cons.injEq, and_true] at p33
              have hr : r = (plc xs q (pmS n xs q).1) := by
                refine Decidable.byContradiction fun hne => ?_
                exact hpl.2.2.2 r (by omega) p33
              subst hr
              refine Run.exit rfl ?_
              refine Run.seq ?_
              refine Run.region ?_
              refine Run.q (v := .int .i64 ((((plc xs q (pmS n xs q).1) : Nat) : Int))) rfl (OpQ.y (OpY.pure rfl)) ?_
              refine Run.q (v := .int .i64 (((q : Nat) : Int))) rfl (OpQ.y (OpY.pure rfl)) ?_
              refine Run.q (v := .bool (((((plc xs q (pmS n xs q).1) : Nat) : Int)) != (((q : Nat) : Int)))) rfl (OpQ.y (OpY.pure rfl)) ?_
              refine Run.done ?_
              refine Run.cond (b := ((((plc xs q (pmS n xs q).1) : Nat) : Int)) != (((q : Nat) : Int))) rfl (fun h38 => ?_) (fun h38 => ?_)
              · have p38 := h38; try simp only [decide_eq_true_eq, decide_eq_false_iff_not, beq_iff_eq, bne_iff_ne, beq_eq_false_iff_ne, ne_eq, gt_iff_lt, ge_iff_le, Int.not_lt, Int.not_le, bne_eq_false_iff_eq, Bool.not_eq_true', Bool.not_eq_false', Bool.and_eq_true, Bool.and_eq_false_iff, Bool.or_eq_true, Bool.or_eq_false_iff, Decidable.not_not, List.cons.injEq, and_true] at p38
                have hS := pmS_ne (n := n) (q := q) (xs := xs) (by omega)
                refine Run.seq ?_
                refine Run.region ?_
                refine Run.q (v := .slice (some ⟨gn, 0, none⟩) n cn) rfl (OpQ.y (OpY.pure rfl)) ?_
                refine Run.q (v := .int .i64 (((q : Nat) : Int))) rfl (OpQ.y (OpY.pure rfl)) ?_
                refine Run.q (v := .pointer (some ⟨gn, q, none⟩)) rfl (OpQ.y (OpY.index (kk := q) Tsl_34 rfl rfl (by omega) (by omega) (by first | rfl | omega))) ?_
                refine Run.q (v := .int .i64 (ix ((pmS n xs q).1) (q))) rfl (OpQ.y (OpY.load1 Tone_3 rfl (Cells.own0 (.head _) (pre1 (by omega))))) ?_
                refine Run.q (v := .int .i64 (ix ((pmS n xs q).1) (q))) rfl (OpQ.y (OpY.pure rfl)) ?_
                refine Run.done ?_
                refine Run.seq ?_
                refine Run.region ?_
                refine Run.q (v := .slice (some ⟨gn, 0, none⟩) n cn) rfl (OpQ.y (OpY.pure rfl)) ?_
                refine Run.q (v := .int .i64 (((q : Nat) : Int))) rfl (OpQ.y (OpY.pure rfl)) ?_
                refine Run.q (v := .slice (some ⟨gn, 0, none⟩) n cn) rfl (OpQ.y (OpY.pure rfl)) ?_
                refine Run.q (v := .int .i64 ((((plc xs q (pmS n xs q).1) : Nat) : Int))) rfl (OpQ.y (OpY.pure rfl)) ?_
                refine Run.q (v := .pointer (some ⟨gn, (plc xs q (pmS n xs q).1), none⟩)) rfl (OpQ.y (OpY.index (kk := (plc xs q (pmS n xs q).1)) Tsl_34 rfl rfl (by omega) (by omega) (by first | rfl | omega))) ?_
                refine Run.q (v := .int .i64 (ix ((pmS n xs q).1) ((plc xs q (pmS n xs q).1)))) rfl (OpQ.y (OpY.load1 Tone_3 rfl (Cells.own0 (.head _) (pre1 (by omega))))) ?_
                refine Run.q (v := .pointer (some ⟨gn, q, none⟩)) rfl (OpQ.y (OpY.index (kk := q) Tsl_34 rfl rfl (by omega) (by omega) (by first | rfl | omega))) ?_
                refine Run.step rfl (OpStep.storeOwnInt (o := q) (a := ix ((pmS n xs q).1) ((plc xs q (pmS n xs q).1))) Tsize_3 rfl rfl (.here _) (by omega) ?_)
                refine Run.done ?_
                refine Run.seq ?_
                refine Run.region ?_
                refine Run.q (v := .slice (some ⟨gn, 0, none⟩) n cn) rfl (OpQ.y (OpY.pure rfl)) ?_
                refine Run.q (v := .int .i64 ((((plc xs q (pmS n xs q).1) : Nat) : Int))) rfl (OpQ.y (OpY.pure rfl)) ?_
                refine Run.q (v := .int .i64 (ix ((pmS n xs q).1) (q))) rfl (OpQ.y (OpY.pure rfl)) ?_
                refine Run.q (v := .pointer (some ⟨gn, (plc xs q (pmS n xs q).1), none⟩)) rfl (OpQ.y (OpY.index (kk := (plc xs q (pmS n xs q).1)) Tsl_34 rfl rfl (by omega) (by omega) (by first | rfl | omega))) ?_
                refine Run.step rfl (OpStep.storeOwnInt (o := (plc xs q (pmS n xs q).1)) (a := ix ((pmS n xs q).1) (q)) Tsize_3 rfl rfl (.here _) (by omega) ?_)
                refine Run.done ?_
                refine Run.region ?_
                refine Run.q (v := vg) rfl (OpQ.y (OpY.pure rfl)) ?_
                refine Run.q (v := .int .i64 (((q : Nat) : Int))) rfl (OpQ.y (OpY.pure rfl)) ?_
                refine Run.q (v := .int .i64 ((((plc xs q (pmS n xs q).1) : Nat) : Int))) rfl (OpQ.y (OpY.pure rfl)) ?_
                refine Run.q (v := .agg #[.int .i64 11, .int .i64 (((q : Nat) : Int)), .int .i64 ((((plc xs q (pmS n xs q).1) : Nat) : Int))]) rfl (OpQ.y (OpY.build (cs := [.int .i64 11, .int .i64 (((q : Nat) : Int)), .int .i64 ((((plc xs q (pmS n xs q).1) : Nat) : Int))]) (by kernel_rfl))) ?_
                refine Run.step rfl (OpStep.buildSlice (us := [.int .i64 11, .int .i64 (((q : Nat) : Int)), .int .i64 ((((plc xs q (pmS n xs q).1) : Nat) : Int))]) Tsl_46 (by decide) (by decide) ⟨rfl, [.int .i64 11, .int .i64 (((q : Nat) : Int)), .int .i64 ((((plc xs q (pmS n xs q).1) : Nat) : Int))], _, rfl, rfl, rfl, rfl⟩ rfl fun b2 => ?_)
                refine Run.step rfl (OpStep.append (H1 := [.own (.slice (some ⟨b2, 0, none⟩) 1 1) 50 3 1 ([.int .i64 11, .int .i64 (((q : Nat) : Int)), .int .i64 ((((plc xs q (pmS n xs q).1) : Nat) : Int))]), .own (.slice (some ⟨gn, 0, none⟩) n cn) 3 1 n (ints ((((pmS n xs q).1).set q (ix ((pmS n xs q).1) ((plc xs q (pmS n xs q).1)))).set ((plc xs q (pmS n xs q).1)) (ix ((pmS n xs q).1) (q))))]) (H2 := []) (v := vg) (u := .slice (some ⟨b2, 0, none⟩) 1 1) (n := ((pmS n xs q).2).length) (m := 1) (xs := ints (flSW ((pmS n xs q).2))) (ys := [.int .i64 11, .int .i64 (((q : Nat) : Int)), .int .i64 ((((plc xs q (pmS n xs q).1) : Nat) : Int))]) Tsl_46 (by decide) rfl rfl rfl rfl (fun w hs => hs.slOwn (.head _)) (by simp [Value.oneCell']) (by omega) (by simp only [maxLen]; omega) fun av2 hnav2 => ?_)
                refine Run.weak (H' := [.own (.slice (some ⟨b2, 0, none⟩) 1 1) 50 3 1 ([.int .i64 11, .int .i64 (((q : Nat) : Int)), .int .i64 ((((plc xs q (pmS n xs q).1) : Nat) : Int))]), .own (.slice (some ⟨gn, 0, none⟩) n cn) 3 1 n (ints ((((pmS n xs q).1).set q (ix ((pmS n xs q).1) ((plc xs q (pmS n xs q).1)))).set ((plc xs q (pmS n xs q).1)) (ix ((pmS n xs q).1) (q)))), .own av2 50 3 (((pmS n xs q).2 ++ [(q, (plc xs q (pmS n xs q).1))]).length) (ints (flSW ((pmS n xs q).2 ++ [(q, (plc xs q (pmS n xs q).1))])))]) (Some'.weak (.take (.take (.takeEq (by rw [← ints_flSW]; simp) (.nil _))))) ?_ ⟨_, _, rfl, fun _ => nofun, fun _ => nofun⟩
                refine Run.q (v := av2) rfl (OpQ.y (OpY.pure rfl)) ?_
                refine Run.done ?_
                refine Run.blockEnd ?_
                refine Run.region ?_
                refine Run.q (v := .int .i64 ((((q : Nat) : Int)) + 1)) rfl (OpQ.y (OpY.add rfl rfl rfl (by omega) (by omega))) ?_
                refine Run.q (v := .int .i64 ((((q : Nat) : Int)) + 1)) rfl (OpQ.y (OpY.pure rfl)) ?_
                refine Run.done ?_
                refine Run.goal ⟨(by repeat (first | exact Same.refl _ _ | refine Same.put rfl ?_ | refine Same.over rfl rfl ?_)), (q + 1, av2), ?_, ?_, ?_, ?_⟩
                · show q + 1 ≤ n; omega
                · show n - (q + 1) < n - q; omega
                · exact ⟨(by first | rfl | (congr 1; omega) | simp), (by first | rfl | (congr 1; omega) | simp), trivial⟩
                · exact (Some'.weak (.skip (.takeEq (by first | (rw [hS]; done) | (rw [hS]; rfl)) (.takeEq (by first | (rw [hS]; done) | (rw [hS]; rfl)) (.nil _)))))
              · have p38 := h38; try simp only [decide_eq_true_eq, decide_eq_false_iff_not, beq_iff_eq, bne_iff_ne, beq_eq_false_iff_ne, ne_eq, gt_iff_lt, ge_iff_le, Int.not_lt, Int.not_le, bne_eq_false_iff_eq, Bool.not_eq_true', Bool.not_eq_false', Bool.and_eq_true, Bool.and_eq_false_iff, Bool.or_eq_true, Bool.or_eq_false_iff, Decidable.not_not, List.cons.injEq, and_true] at p38
                have hS := pmS_eq (n := n) (q := q) (xs := xs) (by omega)
                refine Run.skip ?_
                refine Run.blockEnd ?_
                refine Run.region ?_
                refine Run.q (v := .int .i64 ((((q : Nat) : Int)) + 1)) rfl (OpQ.y (OpY.add rfl rfl rfl (by omega) (by omega))) ?_
                refine Run.q (v := .int .i64 ((((q : Nat) : Int)) + 1)) rfl (OpQ.y (OpY.pure rfl)) ?_
                refine Run.done ?_
                refine Run.goal ⟨(by repeat (first | exact Same.refl _ _ | refine Same.put rfl ?_ | refine Same.over rfl rfl ?_)), (q + 1, vg), ?_, ?_, ?_, ?_⟩
                · show q + 1 ≤ n; omega
                · show n - (q + 1) < n - q; omega
                · exact ⟨(by first | rfl | (congr 1; omega) | simp), (by first | rfl | (congr 1; omega) | simp), trivial⟩
                · exact (Some'.weak (.takeEq (by first | (rw [hS]; done) | (rw [hS]; rfl)) (.takeEq (by first | (rw [hS]; done) | (rw [hS]; rfl)) (.nil _))))
        · have p22 := h22; try simp only [decide_eq_true_eq, decide_eq_false_iff_not, beq_iff_eq, bne_iff_ne, beq_eq_false_iff_ne, ne_eq, gt_iff_lt, ge_iff_le, Int.not_lt, Int.not_le, bne_eq_false_iff_eq, Bool.not_eq_true', Bool.not_eq_false', Bool.and_eq_true, Bool.and_eq_false_iff, Bool.or_eq_true, Bool.or_eq_false_iff, Decidable.not_not, List.cons.injEq, and_true] at p22
          have hqn : q = n := by omega
          refine Run.exit rfl ?_
          refine Run.seq ?_
          refine Run.region ?_
          refine Run.q (v := vg) rfl (OpQ.y (OpY.pure rfl)) ?_
          refine Run.q (v := vg) rfl (OpQ.y (OpY.pure rfl)) ?_
          refine Run.done ?_
          refine Run.ret ?_
          refine ⟨vg, [.own vg 50 3 ((pmS n xs n).2.length) (ints (flSW (pmS n xs n).2))], Out.one rfl rfl, (Some'.weak (.skip (.takeEq (by rw [hqn]) (.nil _)))), ?_⟩
          rfl

set_option maxHeartbeats 1000000 in
set_option maxRecDepth 20000 in
theorem permutation_spec {va : Value} {n : Nat} {xs : List Int} {w : World} (hn1 : 1 ≤ n) (hn : n ≤ 5) (hpm : isPm xs n = true) (ha : Sl w va 1 n (ints xs)) : Calls Try.prog 62 #[va] w (Post No w fun v H => H = [.own v 50 3 (pmS n xs n).2.length (ints (flSW (pmS n xs n).2))]) := by
  have hxl : xs.length = n := by have := ha.len; omega
  obtain ⟨A, c, rfl, _, _⟩ := ha.form0
  refine enter (n := 56) (args := [.slice A n c]) Try.func62 rfl rfl (St.empty _ _) ?_
  refine Run.seq ?_
  refine Run.region ?_
  refine Run.q (v := .slice none 0 0) rfl (OpQ.y (OpY.pure rfl)) ?_
  refine Run.done ?_
  refine Run.seq ?_
  refine Run.region ?_
  refine Run.step rfl (OpStep.buildSlice (us := []) Tsl_34 (by decide) (by decide) rfl rfl fun b1 => ?_)
  refine Run.step rfl (OpStep.buildSlice (us := []) Tsl_46 (by decide) (by decide) rfl rfl fun b2 => ?_)
  refine Run.q (v := .slice (some ⟨b1, 0, none⟩) 0 0) rfl (OpQ.y (OpY.pure rfl)) ?_
  refine Run.q (v := .slice (some ⟨b2, 0, none⟩) 0 0) rfl (OpQ.y (OpY.pure rfl)) ?_
  refine Run.done ?_
  refine Run.seq ?_
  refine Run.seq ?_
  refine Run.region ?_
  refine Run.q (v := .slice A n c) rfl (OpQ.y (OpY.pure rfl)) ?_
  refine Run.q (v := .int .i64 (((n : Nat) : Int))) rfl (OpQ.y (OpY.len Tsl_34 rfl)) ?_
  refine Run.q (v := .int .i64 0) rfl (OpQ.y (OpY.pure rfl)) ?_
  refine Run.done ?_
  refine Run.block ?_
  refine Run.loop (ι := Nat × Value) [3, 5, 13, 14, 15, 16, 17, 18, 19, 20] (fun ⟨k, v⟩ => [(3, v), (13, .int .i64 (((k : Nat) : Int)))]) (fun ⟨k, v⟩ => [.own (.slice (some ⟨b2, 0, none⟩) 0 0) 50 3 0 ([]), .own v 3 1 k (ints (mks 0 k))]) (fun ⟨k, v⟩ => k ≤ n) (fun ⟨k, v⟩ => n - k) (0, .slice (some ⟨b1, 0, none⟩) 0 0) ?_ ?_ ?_ ?_
  · exact Nat.zero_le _
  · exact ⟨rfl, rfl, trivial⟩
  · exact (Some'.weak (.takeEq rfl (.takeEq rfl (.nil _))))
  · rintro ⟨k, v⟩ fr hinv
    show Run _ _ (over _ _ [(3, v), (13, .int .i64 (((k : Nat) : Int)))] fr) [.own (.slice (some ⟨b2, 0, none⟩) 0 0) 50 3 0 ([]), .own v 3 1 k (ints (mks 0 k))]
    try dsimp only at hinv
    refine Run.seq ?_
    refine Run.region ?_
    refine Run.q (v := .bool (decide ((((k : Nat) : Int)) < (((n : Nat) : Int))))) rfl (OpQ.y (OpY.pure rfl)) ?_
    refine Run.done ?_
    refine Run.seq ?_
    refine Run.cond (b := decide ((((k : Nat) : Int)) < (((n : Nat) : Int)))) rfl (fun h14 => ?_) (fun h14 => ?_)
    · have p14 := h14; try simp only [decide_eq_true_eq, decide_eq_false_iff_not, beq_iff_eq, bne_iff_ne, beq_eq_false_iff_ne, ne_eq, gt_iff_lt, ge_iff_le, Int.not_lt, Int.not_le, bne_eq_false_iff_eq, Bool.not_eq_true', Bool.not_eq_false', Bool.and_eq_true, Bool.and_eq_false_iff, Bool.or_eq_true, Bool.or_eq_false_iff, Decidable.not_not, List.cons.injEq, and_true] at p14
      have hkn : k < n := by omega
      refine Run.skip ?_
      refine Run.seq ?_
      refine Run.block ?_
      refine Run.seq ?_
      refine Run.region ?_
      refine Run.q (v := .int .i64 (((k : Nat) : Int))) rfl (OpQ.y (OpY.pure rfl)) ?_
      refine Run.q (v := .int .i64 (((k : Nat) : Int))) rfl (OpQ.y (OpY.pure rfl)) ?_
      refine Run.done ?_
      refine Run.region ?_
      refine Run.q (v := v) rfl (OpQ.y (OpY.pure rfl)) ?_
      refine Run.q (v := .int .i64 (((k : Nat) : Int))) rfl (OpQ.y (OpY.pure rfl)) ?_
      refine Run.step rfl (OpStep.buildSlice (us := [.int .i64 (((k : Nat) : Int))]) Tsl_34 (by decide) (by decide) ⟨rfl, [.int .i64 (((k : Nat) : Int))], _, rfl, rfl, rfl, rfl⟩ rfl fun b3 => ?_)
      refine Run.step rfl (OpStep.append (H1 := [.own (.slice (some ⟨b3, 0, none⟩) 1 1) 3 1 1 ([.int .i64 (((k : Nat) : Int))]), .own (.slice (some ⟨b2, 0, none⟩) 0 0) 50 3 0 ([])]) (H2 := []) (v := v) (u := .slice (some ⟨b3, 0, none⟩) 1 1) (n := k) (m := 1) (xs := ints (mks 0 k)) (ys := [.int .i64 (((k : Nat) : Int))]) Tsl_34 (by decide) rfl rfl rfl rfl (fun w hs => hs.slOwn (.head _)) (by simp [Value.oneCell']) (by omega) (by simp only [maxLen]; omega) fun av1 hnav1 => ?_)
      refine Run.weak (H' := [.own (.slice (some ⟨b3, 0, none⟩) 1 1) 3 1 1 ([.int .i64 (((k : Nat) : Int))]), .own (.slice (some ⟨b2, 0, none⟩) 0 0) 50 3 0 ([]), .own av1 3 1 (k + 1) (ints (mks 0 (k + 1)))]) (Some'.weak (.take (.take (.takeEq (by rw [← ints_mks]) (.nil _))))) ?_ ⟨_, _, rfl, fun _ => nofun, fun _ => nofun⟩
      refine Run.q (v := av1) rfl (OpQ.y (OpY.pure rfl)) ?_
      refine Run.done ?_
      refine Run.blockEnd ?_
      refine Run.region ?_
      refine Run.q (v := .int .i64 ((((k : Nat) : Int)) + 1)) rfl (OpQ.y (OpY.add rfl rfl rfl (by omega) (by omega))) ?_
      refine Run.q (v := .int .i64 ((((k : Nat) : Int)) + 1)) rfl (OpQ.y (OpY.pure rfl)) ?_
      refine Run.done ?_
      refine Run.goal ⟨(by repeat (first | exact Same.refl _ _ | refine Same.put rfl ?_ | refine Same.over rfl rfl ?_)), (k + 1, av1), ?_, ?_, ?_, ?_⟩
      · show k + 1 ≤ n; omega
      · show n - (k + 1) < n - k; omega
      · exact ⟨(by first | rfl | (congr 1; omega) | simp), (by first | rfl | (congr 1; omega) | simp), trivial⟩
      · exact (Some'.weak (.skip (.takeEq (by first | rfl | simp) (.takeEq (by first | rfl | simp) (.nil _)))))
    · have p14 := h14; try simp only [decide_eq_true_eq, decide_eq_false_iff_not, beq_iff_eq, bne_iff_ne, beq_eq_false_iff_ne, ne_eq, gt_iff_lt, ge_iff_le, Int.not_lt, Int.not_le, bne_eq_false_iff_eq, Bool.not_eq_true', Bool.not_eq_false', Bool.and_eq_true, Bool.and_eq_false_iff, Bool.or_eq_true, Bool.or_eq_false_iff, Decidable.not_not, List.cons.injEq, and_true] at p14
      have hkn : n = n := rfl
      obtain rfl : n = k := by omega
      refine Run.exit rfl ?_
      refine Run.seq ?_
      refine Run.seq ?_
      refine Run.openOwn (.tail _ (List.Mem.head _)) (by omega) (fun gn cn hvgn hcapgn _ => ?_) (fun _ _ _ => ⟨nofun, nofun, nofun⟩)
      subst hvgn
      refine Run.region ?_
      refine Run.q (v := .slice A n c) rfl (OpQ.y (OpY.pure rfl)) ?_
      refine Run.q (v := .int .i64 (((n : Nat) : Int))) rfl (OpQ.y (OpY.len Tsl_34 rfl)) ?_
      refine Run.q (v := .int .i64 0) rfl (OpQ.y (OpY.pure rfl)) ?_
      refine Run.done ?_
      refine Run.block ?_
      refine Run.loop (ι := Nat × Value) [4, 6, 7, 8, 23, 24, 25, 26, 27, 28, 29, 30, 31, 32, 33, 34, 35, 36, 37, 38, 39, 40, 41, 42, 43, 44, 45, 46, 47, 48, 49, 50, 51, 52, 53, 54] (fun ⟨q, vg⟩ => [(4, vg), (23, .int .i64 (((q : Nat) : Int)))]) (fun ⟨q, vg⟩ => [.own (.slice (some ⟨gn, 0, none⟩) n cn) 3 1 n (ints ((pmS n xs q).1)), .own vg 50 3 (((pmS n xs q).2).length) (ints (flSW ((pmS n xs q).2)))]) (fun ⟨q, vg⟩ => q ≤ n) (fun ⟨q, vg⟩ => n - q) (0, .slice (some ⟨b2, 0, none⟩) 0 0) ?_ ?_ ?_ ?_
      · exact Nat.zero_le _
      · exact ⟨rfl, rfl, trivial⟩
      · exact ((Weak.of_perm (List.Perm.swap _ _ _)).trans (Some'.weak (.takeEq rfl (.takeEq rfl (.nil _)))))
      · rintro ⟨q, vg⟩ fr hinv
        show Run _ _ (over _ _ [(4, vg), (23, .int .i64 (((q : Nat) : Int)))] fr) [.own (.slice (some ⟨gn, 0, none⟩) n cn) 3 1 n (ints ((pmS n xs q).1)), .own vg 50 3 (((pmS n xs q).2).length) (ints (flSW ((pmS n xs q).2)))]
        try dsimp only at hinv
        refine Run.seq ?_
        refine Run.region ?_
        refine Run.q (v := .bool (decide ((((q : Nat) : Int)) < (((n : Nat) : Int))))) rfl (OpQ.y (OpY.pure rfl)) ?_
        refine Run.done ?_
        refine Run.seq ?_
        refine Run.cond (b := decide ((((q : Nat) : Int)) < (((n : Nat) : Int)))) rfl (fun h24 => ?_) (fun h24 => ?_)
        · have p24 := h24; try simp only [decide_eq_true_eq, decide_eq_false_iff_not, beq_iff_eq, bne_iff_ne, beq_eq_false_iff_ne, ne_eq, gt_iff_lt, ge_iff_le, Int.not_lt, Int.not_le, bne_eq_false_iff_eq, Bool.not_eq_true', Bool.not_eq_false', Bool.and_eq_true, Bool.and_eq_false_iff, Bool.or_eq_true, Bool.or_eq_false_iff, Decidable.not_not, List.cons.injEq, and_true] at p24
          have hqn : q < n := by omega
          have hok := pm_ok hpm q (by omega)
          have hnl := hok.len
          have hfew := hok.few
          have hpl := hok.place hpm hqn
          obtain ⟨b, o, rfl⟩ := ha.opn (by omega)
          refine Run.skip ?_
          refine Run.seq ?_
          refine Run.block ?_
          refine Run.seq ?_
          refine Run.region ?_
          refine Run.q (v := .int .i64 (((q : Nat) : Int))) rfl (OpQ.y (OpY.pure rfl)) ?_
          refine Run.q (v := .pointer (some ⟨b, o + q, none⟩)) rfl (OpQ.y (OpY.index (kk := q) Tsl_34 rfl rfl (by omega) (by omega) (by first | rfl | omega))) ?_
          refine Run.q (v := .int .i64 (ix xs (q))) rfl (OpQ.y (OpY.load1 Tone_3 rfl (Cells.arg (k := q) ha rfl (by omega) (pre1 (by omega))))) ?_
          refine Run.q (v := .int .i64 (((q : Nat) : Int))) rfl (OpQ.y (OpY.pure rfl)) ?_
          refine Run.q (v := .int .i64 (ix xs (q))) rfl (OpQ.y (OpY.pure rfl)) ?_
          refine Run.done ?_
          refine Run.seq ?_
          refine Run.region ?_
          refine Run.q (v := .slice (some ⟨gn, 0, none⟩) n cn) rfl (OpQ.y (OpY.pure rfl)) ?_
          refine Run.q (v := .int .i64 (ix xs (q))) rfl (OpQ.y (OpY.pure rfl)) ?_
          refine Run.q (v := .int .i64 ((((plc xs q (pmS n xs q).1) : Nat) : Int))) rfl (OpQ.call (vs := [.slice (some ⟨gn, 0, none⟩) n cn, .int .i64 (ix xs (q))]) (caps := []) Tcall_74 rfl rfl (fun w hs => (by have h := IndexInt_spec (x := ix xs q) (hs.slOwn (.head _)); rw [plc_int hnl (hpl.2.1) hpl.2.2.1] at h; exact h))) ?_
          refine Run.q (v := .int .i64 ((((plc xs q (pmS n xs q).1) : Nat) : Int))) rfl (OpQ.y (OpY.pure rfl)) ?_
          refine Run.done ?_
          refine Run.seq ?_
          refine Run.region ?_
          refine Run.q (v := .int .i64 ((((plc xs q (pmS n xs q).1) : Nat) : Int))) rfl (OpQ.y (OpY.pure rfl)) ?_
          refine Run.q (v := .int .i64 (((q : Nat) : Int))) rfl (OpQ.y (OpY.pure rfl)) ?_
          refine Run.q (v := .bool (((((plc xs q (pmS n xs q).1) : Nat) : Int)) != (((q : Nat) : Int)))) rfl (OpQ.y (OpY.pure rfl)) ?_
          refine Run.done ?_
          refine Run.cond (b := ((((plc xs q (pmS n xs q).1) : Nat) : Int)) != (((q : Nat) : Int))) rfl (fun h33 => ?_) (fun h33 => ?_)
          · have p33 := h33; try simp only [decide_eq_true_eq, decide_eq_false_iff_not, beq_iff_eq, bne_iff_ne, beq_eq_false_iff_ne, ne_eq, gt_iff_lt, ge_iff_le, Int.not_lt, Int.not_le, bne_eq_false_iff_eq, Bool.not_eq_true', Bool.not_eq_false', Bool.and_eq_true, Bool.and_eq_false_iff, Bool.or_eq_true, Bool.or_eq_false_iff, Decidable.not_not, List.cons.injEq, and_true] at p33
            have hS := pmS_ne (n := n) (q := q) (xs := xs) (by omega)
            refine Run.seq ?_
            refine Run.lastly [13, 15] (by kernel_rfl) ?_
            refine DL.takeP (i := 0) (v := .slice (some ⟨gn, 0, none⟩) n cn) rfl (by kernel_rfl) (by kernel_rfl) (by kernel_rfl) (fun _ _ _ h => h) rfl (fun _ => OpY.pure rfl) ?_
            refine DL.takeP (i := 1) (v := .int .i64 (((q : Nat) : Int))) rfl (by kernel_rfl) (by kernel_rfl) (by kernel_rfl) (fun _ _ _ h => h) rfl (fun _ => OpY.pure rfl) ?_
            refine DL.takeP (i := 2) (v := .slice (some ⟨gn, 0, none⟩) n cn) rfl (by kernel_rfl) (by kernel_rfl) (by kernel_rfl) (fun _ _ _ h => h) rfl (fun _ => OpY.pure rfl) ?_
            refine DL.takeP (i := 3) (v := .int .i64 ((((plc xs q (pmS n xs q).1) : Nat) : Int))) rfl (by kernel_rfl) (by kernel_rfl) (by kernel_rfl) (fun _ _ _ h => h) rfl (fun _ => OpY.pure rfl) ?_
            refine DL.takeP (i := 4) (v := .slice (some ⟨gn, 0, none⟩) n cn) rfl (by kernel_rfl) (by kernel_rfl) (by kernel_rfl) (fun _ _ _ h => h) rfl (fun _ => OpY.pure rfl) ?_
            refine DL.takeP (i := 5) (v := .int .i64 ((((plc xs q (pmS n xs q).1) : Nat) : Int))) rfl (by kernel_rfl) (by kernel_rfl) (by kernel_rfl) (fun _ _ _ h => h) rfl (fun _ => OpY.pure rfl) ?_
            refine DL.takeP (i := 6) (v := .pointer (some ⟨gn, (plc xs q (pmS n xs q).1), none⟩)) rfl (by kernel_rfl) (by kernel_rfl) (by kernel_rfl) (fun _ _ _ h => h) rfl (fun _ => OpY.index (kk := (plc xs q (pmS n xs q).1)) Tsl_34 rfl rfl (by omega) (by omega) (by first | rfl | omega)) ?_
            refine DL.take (i := 7) (v := .int .i64 (ix ((pmS n xs q).1) ((plc xs q (pmS n xs q).1)))) rfl (by kernel_rfl) (by kernel_rfl) (by kernel_rfl) (by kernel_rfl) (fun _ _ _ h => h) (Some'.weak (.take (.take (.nil _)))) rfl (OpY.load1 Tone_3 rfl (Cells.own0 (.head _) (pre1 (by omega)))) ?_
            refine DL.takeP (i := 8) (v := .slice (some ⟨gn, 0, none⟩) n cn) rfl (by kernel_rfl) (by kernel_rfl) (by kernel_rfl) (fun _ _ _ h => h) rfl (fun _ => OpY.pure rfl) ?_
            refine DL.takeP (i := 9) (v := .int .i64 (((q : Nat) : Int))) rfl (by kernel_rfl) (by kernel_rfl) (by kernel_rfl) (fun _ _ _ h => h) rfl (fun _ => OpY.pure rfl) ?_
            refine DL.takeP (i := 10) (v := .pointer (some ⟨gn, q, none⟩)) rfl (by kernel_rfl) (by kernel_rfl) (by kernel_rfl) (fun _ _ _ h => h) rfl (fun _ => OpY.index (kk := q) Tsl_34 rfl rfl (by omega) (by omega) (by first | rfl | omega)) ?_
            refine DL.take (i := 11) (v := .int .i64 (ix ((pmS n xs q).1) (q))) rfl (by kernel_rfl) (by kernel_rfl) (by kernel_rfl) (by kernel_rfl) (fun _ _ _ h => h) (Some'.weak (.take (.take (.nil _)))) rfl (OpY.load1 Tone_3 rfl (Cells.own0 (.head _) (pre1 (by omega)))) ?_
            refine DL.takeP (i := 12) (v := .pointer (some ⟨gn, q, none⟩)) rfl (by kernel_rfl) (by kernel_rfl) (by kernel_rfl) (fun _ _ _ h => h) rfl (fun _ => OpY.index (kk := q) Tsl_34 rfl rfl (by omega) (by omega) (by first | rfl | omega)) ?_
            refine DL.step (i := 13) (by kernel_rfl) (by kernel_rfl) rfl rfl (OpStep.storeOwnInt (o := q) (a := ix ((pmS n xs q).1) ((plc xs q (pmS n xs q).1))) Tsize_3 rfl rfl (.here _) (by omega) ?_)
            refine DL.takeP (i := 14) (v := .pointer (some ⟨gn, (plc xs q (pmS n xs q).1), none⟩)) rfl (by kernel_rfl) (by kernel_rfl) (by kernel_rfl) (fun _ _ _ h => h) rfl (fun _ => OpY.index (kk := (plc xs q (pmS n xs q).1)) Tsl_34 rfl rfl (by omega) (by omega) (by first | rfl | omega)) ?_
            refine DL.step (i := 15) (by kernel_rfl) (by kernel_rfl) rfl rfl (OpStep.storeOwnInt (o := (plc xs q (pmS n xs q).1)) (a := ix ((pmS n xs q).1) (q)) Tsize_3 rfl rfl (.here _) (by omega) ?_)
            refine DL.done (by kernel_rfl) ?_
            refine Run.region ?_
            refine Run.q (v := vg) rfl (OpQ.y (OpY.pure rfl)) ?_
            refine Run.q (v := .int .i64 (((q : Nat) : Int))) rfl (OpQ.y (OpY.pure rfl)) ?_
            refine Run.q (v := .int .i64 ((((plc xs q (pmS n xs q).1) : Nat) : Int))) rfl (OpQ.y (OpY.pure rfl)) ?_
            refine Run.q (v := .agg #[.int .i64 11, .int .i64 (((q : Nat) : Int)), .int .i64 ((((plc xs q (pmS n xs q).1) : Nat) : Int))]) rfl (OpQ.y (OpY.build (cs := [.int .i64 11, .int .i64 (((q : Nat) : Int)), .int .i64 ((((plc xs q (pmS n xs q).1) : Nat) : Int))]) (by kernel_rfl))) ?_
            refine Run.step rfl (OpStep.buildSlice (us := [.int .i64 11, .int .i64 (((q : Nat) : Int)), .int .i64 ((((plc xs q (pmS n xs q).1) : Nat) : Int))]) Tsl_46 (by decide) (by decide) ⟨rfl, [.int .i64 11, .int .i64 (((q : Nat) : Int)), .int .i64 ((((plc xs q (pmS n xs q).1) : Nat) : Int))], _, rfl, rfl, rfl, rfl⟩ rfl fun b4 => ?_)
            refine Run.step rfl (OpStep.append (H1 := [.own (.slice (some ⟨b4, 0, none⟩) 1 1) 50 3 1 ([.int .i64 11, .int .i64 (((q : Nat) : Int)), .int .i64 ((((plc xs q (pmS n xs q).1) : Nat) : Int))]), .own (.slice (some ⟨gn, 0, none⟩) n cn) 3 1 n (ints ((((pmS n xs q).1).set q (ix ((pmS n xs q).1) ((plc xs q (pmS n xs q).1)))).set ((plc xs q (pmS n xs q).1)) (ix ((pmS n xs q).1) (q))))]) (H2 := []) (v := vg) (u := .slice (some ⟨b4, 0, none⟩) 1 1) (n := ((pmS n xs q).2).length) (m := 1) (xs := ints (flSW ((pmS n xs q).2))) (ys := [.int .i64 11, .int .i64 (((q : Nat) : Int)), .int .i64 ((((plc xs q (pmS n xs q).1) : Nat) : Int))]) Tsl_46 (by decide) rfl rfl rfl rfl (fun w hs => hs.slOwn (.head _)) (by simp [Value.oneCell']) (by omega) (by simp only [maxLen]; omega) fun av2 hnav2 => ?_)
            refine Run.weak (H' := [.own (.slice (some ⟨b4, 0, none⟩) 1 1) 50 3 1 ([.int .i64 11, .int .i64 (((q : Nat) : Int)), .int .i64 ((((plc xs q (pmS n xs q).1) : Nat) : Int))]), .own (.slice (some ⟨gn, 0, none⟩) n cn) 3 1 n (ints ((((pmS n xs q).1).set q (ix ((pmS n xs q).1) ((plc xs q (pmS n xs q).1)))).set ((plc xs q (pmS n xs q).1)) (ix ((pmS n xs q).1) (q)))), .own av2 50 3 (((pmS n xs q).2 ++ [(q, (plc xs q (pmS n xs q).1))]).length) (ints (flSW ((pmS n xs q).2 ++ [(q, (plc xs q (pmS n xs q).1))])))]) (Some'.weak (.take (.take (.takeEq (by rw [← ints_flSW]; simp) (.nil _))))) ?_ ⟨_, _, rfl, fun _ => nofun, fun _ => nofun⟩
            refine Run.q (v := av2) rfl (OpQ.y (OpY.pure rfl)) ?_
            refine Run.done ?_
            refine Run.blockEnd ?_
            refine Run.region ?_
            refine Run.q (v := .int .i64 ((((q : Nat) : Int)) + 1)) rfl (OpQ.y (OpY.add rfl rfl rfl (by omega) (by omega))) ?_
            refine Run.q (v := .int .i64 ((((q : Nat) : Int)) + 1)) rfl (OpQ.y (OpY.pure rfl)) ?_
            refine Run.done ?_
            refine Run.goal ⟨(by repeat (first | exact Same.refl _ _ | refine Same.put rfl ?_ | refine Same.over rfl rfl ?_)), (q + 1, av2), ?_, ?_, ?_, ?_⟩
            · show q + 1 ≤ n; omega
            · show n - (q + 1) < n - q; omega
            · exact ⟨(by first | rfl | (congr 1; omega) | simp), (by first | rfl | (congr 1; omega) | simp), trivial⟩
            · exact (Some'.weak (.skip (.takeEq (by first | (rw [hS]; done) | (rw [hS]; rfl)) (.takeEq (by first | (rw [hS]; done) | (rw [hS]; rfl)) (.nil _)))))
          · have p33 := h33; try simp only [decide_eq_true_eq, decide_eq_false_iff_not, beq_iff_eq, bne_iff_ne, beq_eq_false_iff_ne, ne_eq, gt_iff_lt, ge_iff_le, Int.not_lt, Int.not_le, bne_eq_false_iff_eq, Bool.not_eq_true', Bool.not_eq_false', Bool.and_eq_true, Bool.and_eq_false_iff, Bool.or_eq_true, Bool.or_eq_false_iff, Decidable.not_not, List.cons.injEq, and_true] at p33
            have hS := pmS_eq (n := n) (q := q) (xs := xs) (by omega)
            refine Run.skip ?_
            refine Run.blockEnd ?_
            refine Run.region ?_
            refine Run.q (v := .int .i64 ((((q : Nat) : Int)) + 1)) rfl (OpQ.y (OpY.add rfl rfl rfl (by omega) (by omega))) ?_
            refine Run.q (v := .int .i64 ((((q : Nat) : Int)) + 1)) rfl (OpQ.y (OpY.pure rfl)) ?_
            refine Run.done ?_
            refine Run.goal ⟨(by repeat (first | exact Same.refl _ _ | refine Same.put rfl ?_ | refine Same.over rfl rfl ?_)), (q + 1, vg), ?_, ?_, ?_, ?_⟩
            · show q + 1 ≤ n; omega
            · show n - (q + 1) < n - q; omega
            · exact ⟨(by first | rfl | (congr 1; omega) | simp), (by first | rfl | (congr 1; omega) | simp), trivial⟩
            · exact (Some'.weak (.takeEq (by first | (rw [hS]; done) | (rw [hS]; rfl)) (.takeEq (by first | (rw [hS]; done) | (rw [hS]; rfl)) (.nil _))))
        · have p24 := h24; try simp only [decide_eq_true_eq, decide_eq_false_iff_not, beq_iff_eq, bne_iff_ne, beq_eq_false_iff_ne, ne_eq, gt_iff_lt, ge_iff_le, Int.not_lt, Int.not_le, bne_eq_false_iff_eq, Bool.not_eq_true', Bool.not_eq_false', Bool.and_eq_true, Bool.and_eq_false_iff, Bool.or_eq_true, Bool.or_eq_false_iff, Decidable.not_not, List.cons.injEq, and_true] at p24
          have hqn : q = n := by omega
          refine Run.exit rfl ?_
          refine Run.seq ?_
          refine Run.region ?_
          refine Run.q (v := vg) rfl (OpQ.y (OpY.pure rfl)) ?_
          refine Run.q (v := vg) rfl (OpQ.y (OpY.pure rfl)) ?_
          refine Run.done ?_
          refine Run.ret ?_
          refine ⟨vg, [.own vg 50 3 ((pmS n xs n).2.length) (ints (flSW (pmS n xs n).2))], Out.one rfl rfl, (Some'.weak (.skip (.takeEq (by rw [hqn]) (.nil _)))), ?_⟩
          rfl

set_option maxHeartbeats 1000000 in
set_option maxRecDepth 20000 in
theorem l20Permutation_spec {va : Value} {n : Nat} {xs : List Int} {w : World} (ha : Sl w va 1 n (ints xs)) : Calls Try.prog 63 #[va] w (Post No w fun v _ => v = .bool (pmOk xs n)) := by
  have hxl := ha.len
  have hn := ha.le
  obtain ⟨A, c, rfl, _, _⟩ := ha.form0
  refine enter (n := 28) (args := [.slice A n c]) Try.func63 rfl rfl (St.empty _ _) ?_
  refine Run.seq ?_
  refine Run.region ?_
  refine Run.q (v := .bool false) rfl (OpQ.y (OpY.pure rfl)) ?_
  refine Run.done ?_
  refine Run.seq ?_
  refine Run.seq ?_
  refine Run.region ?_
  refine Run.q (v := .slice A n c) rfl (OpQ.y (OpY.pure rfl)) ?_
  refine Run.q (v := .int .i64 (((n : Nat) : Int))) rfl (OpQ.y (OpY.len Tsl_34 rfl)) ?_
  refine Run.q (v := .int .i64 0) rfl (OpQ.y (OpY.pure rfl)) ?_
  refine Run.done ?_
  refine Run.block ?_
  refine Run.loop (ι := Nat) [2, 3, 4, 7, 8, 9, 10, 11, 12, 13, 14, 15, 16, 17] (fun k => [(7, .int .i64 (((k : Nat) : Int)))]) (fun k => []) (fun k => k ≤ n ∧ (∀ i, i < k → hasI xs (ix xs i) i = false)) (fun k => n - k) 0 ?_ ?_ ?_ ?_
  · exact ⟨Nat.zero_le _, by first | trivial | (intro i hi; omega)⟩
  · exact ⟨rfl, trivial⟩
  · exact (Some'.weak (.nil _))
  · rintro k fr hinv
    show Run _ _ (over _ _ [(7, .int .i64 (((k : Nat) : Int)))] fr) []
    try dsimp only at hinv
    refine Run.seq ?_
    refine Run.region ?_
    refine Run.q (v := .bool (decide ((((k : Nat) : Int)) < (((n : Nat) : Int))))) rfl (OpQ.y (OpY.pure rfl)) ?_
    refine Run.done ?_
    refine Run.seq ?_
    refine Run.cond (b := decide ((((k : Nat) : Int)) < (((n : Nat) : Int)))) rfl (fun h8 => ?_) (fun h8 => ?_)
    · have p8 := h8; try simp only [decide_eq_true_eq, decide_eq_false_iff_not, beq_iff_eq, bne_iff_ne, beq_eq_false_iff_ne, ne_eq, gt_iff_lt, ge_iff_le, Int.not_lt, Int.not_le, bne_eq_false_iff_eq, Bool.not_eq_true', Bool.not_eq_false', Bool.and_eq_true, Bool.and_eq_false_iff, Bool.or_eq_true, Bool.or_eq_false_iff, Decidable.not_not, List.cons.injEq, and_true] at p8
      have hltk : k < n := by omega
      obtain ⟨b, o, rfl⟩ := ha.opn (by omega)
      refine Run.skip ?_
      refine Run.seq ?_
      refine Run.block ?_
      refine Run.seq ?_
      refine Run.region ?_
      refine Run.q (v := .int .i64 (((k : Nat) : Int))) rfl (OpQ.y (OpY.pure rfl)) ?_
      refine Run.q (v := .pointer (some ⟨b, o + k, none⟩)) rfl (OpQ.y (OpY.index (kk := k) Tsl_34 rfl rfl (by omega) (by omega) (by first | rfl | omega))) ?_
      refine Run.q (v := .int .i64 (ix xs (k))) rfl (OpQ.y (OpY.load1 Tone_3 rfl (Cells.arg (k := k) ha rfl (by omega) (pre1 (by omega))))) ?_
      refine Run.q (v := .int .i64 (((k : Nat) : Int))) rfl (OpQ.y (OpY.pure rfl)) ?_
      refine Run.q (v := .int .i64 (ix xs (k))) rfl (OpQ.y (OpY.pure rfl)) ?_
      refine Run.done ?_
      refine Run.seq ?_
      refine Run.region ?_
      refine Run.q (v := .slice (some ⟨b, o, none⟩) n c) rfl (OpQ.y (OpY.pure rfl)) ?_
      refine Run.q (v := .int .i64 (((k : Nat) : Int))) rfl (OpQ.y (OpY.pure rfl)) ?_
      refine Run.q (v := .slice (some ⟨b, o, none⟩) k c) rfl (OpQ.y (OpY.sliceHN (h := k) Tsl_34 rfl rfl rfl (by omega))) ?_
      refine Run.q (v := .int .i64 (ix xs (k))) rfl (OpQ.y (OpY.pure rfl)) ?_
      refine Run.q (v := .bool (hasI (xs.take (k * 1)) (ix xs (k)) k)) rfl (OpQ.call (vs := [.slice (some ⟨b, o, none⟩) k c, .int .i64 (ix xs (k))]) (caps := []) Tcall_59 rfl rfl (fun w hs => l1Has_spec ((hs.sl ha).take (by omega)))) ?_
      refine Run.done ?_
      refine Run.cond (b := hasI (xs.take (k * 1)) (ix xs (k)) k) rfl (fun h16 => ?_) (fun h16 => ?_)
      · have p16 := h16; try simp only [decide_eq_true_eq, decide_eq_false_iff_not, beq_iff_eq, bne_iff_ne, beq_eq_false_iff_ne, ne_eq, gt_iff_lt, ge_iff_le, Int.not_lt, Int.not_le, bne_eq_false_iff_eq, Bool.not_eq_true', Bool.not_eq_false', Bool.and_eq_true, Bool.and_eq_false_iff, Bool.or_eq_true, Bool.or_eq_false_iff, Decidable.not_not, List.cons.injEq, and_true] at p16
        refine Run.seq ?_
        have hres : pmOk xs n = false := by
          rw [hasI_take] at p16
          unfold pmOk isPm
          rw [anyI_true (p := fun i => hasI xs (ix xs i) i) hltk p16]; simp
        refine Run.region ?_
        refine Run.q (v := .bool false) rfl (OpQ.y (OpY.pure rfl)) ?_
        refine Run.done ?_
        refine Run.ret ?_
        refine ⟨.bool false, [], Out.one rfl rfl, (Some'.weak (.nil _)), ?_⟩
        show _ = _; rw [hres]
      · have p16 := h16; try simp only [decide_eq_true_eq, decide_eq_false_iff_not, beq_iff_eq, bne_iff_ne, beq_eq_false_iff_ne, ne_eq, gt_iff_lt, ge_iff_le, Int.not_lt, Int.not_le, bne_eq_false_iff_eq, Bool.not_eq_true', Bool.not_eq_false', Bool.and_eq_true, Bool.and_eq_false_iff, Bool.or_eq_true, Bool.or_eq_false_iff, Decidable.not_not, List.cons.injEq, and_true] at p16
        refine Run.skip ?_
        refine Run.blockEnd ?_
        have hgood : hasI xs (ix xs k) k = false := by rw [hasI_take] at p16; exact p16
        refine Run.region ?_
        refine Run.q (v := .int .i64 ((((k : Nat) : Int)) + 1)) rfl (OpQ.y (OpY.add rfl rfl rfl (by omega) (by omega))) ?_
        refine Run.q (v := .int .i64 ((((k : Nat) : Int)) + 1)) rfl (OpQ.y (OpY.pure rfl)) ?_
        refine Run.done ?_
        refine Run.goal ⟨(by repeat (first | exact Same.refl _ _ | refine Same.put rfl ?_ | refine Same.over rfl rfl ?_)), k + 1, ?_, ?_, ?_, ?_⟩
        · refine ⟨by omega, ?_⟩
          intro i hi
          rcases Nat.lt_succ_iff_lt_or_eq.1 hi with h | h
          · exact hinv.2 i h
          · rw [h]; exact hgood
        · omega
        · exact ⟨(by first | rfl | (congr 1; omega) | simp), trivial⟩
        · exact (Some'.weak (.nil _))
    · have p8 := h8; try simp only [decide_eq_true_eq, decide_eq_false_iff_not, beq_iff_eq, bne_iff_ne, beq_eq_false_iff_ne, ne_eq, gt_iff_lt, ge_iff_le, Int.not_lt, Int.not_le, bne_eq_false_iff_eq, Bool.not_eq_true', Bool.not_eq_false', Bool.and_eq_true, Bool.and_eq_false_iff, Bool.or_eq_true, Bool.or_eq_false_iff, Decidable.not_not, List.cons.injEq, and_true] at p8
      have hknk : k = n := by omega
      have hno : anyI (fun i => hasI xs (ix xs i) i) n = false := by rw [← hknk]; exact anyI_false hinv.2
      refine Run.exit rfl ?_
      refine Run.seq ?_
      refine Run.region ?_
      refine Run.q (v := .slice A n c) rfl (OpQ.y (OpY.pure rfl)) ?_
      refine Run.q (v := .int .i64 (((n : Nat) : Int))) rfl (OpQ.y (OpY.len Tsl_34 rfl)) ?_
      refine Run.q (v := .bool (within (n : Int) 1 5)) rfl (OpQ.call (vs := [.int .i64 (((n : Nat) : Int)), .int .i64 1, .int .i64 5]) (caps := []) Tcall_41 rfl rfl (fun w hs => l1In_spec _ _ _ w)) ?_
      rcases Bool.eq_false_or_eq_true (within (n : Int) 1 5) with h21 | h21
      · refine Run.q (v := .bool true) rfl (OpQ.y (OpY.moveB rfl h21)) ?_
        have p21 := h21; try simp only [decide_eq_true_eq, decide_eq_false_iff_not, beq_iff_eq, bne_iff_ne, beq_eq_false_iff_ne, ne_eq, gt_iff_lt, ge_iff_le, Int.not_lt, Int.not_le, bne_eq_false_iff_eq, Bool.not_eq_true', Bool.not_eq_false', Bool.and_eq_true, Bool.and_eq_false_iff, Bool.or_eq_true, Bool.or_eq_false_iff, Decidable.not_not, List.cons.injEq, and_true] at p21
        refine Run.q (v := .slice A n c) rfl (OpQ.y (OpY.pure rfl)) ?_
        refine Run.q (v := .slice A n c) rfl (OpQ.y (OpY.pure rfl)) ?_
        refine Run.q (v := .int .i64 (((n : Nat) : Int))) rfl (OpQ.y (OpY.len Tsl_34 rfl)) ?_
        refine Run.q (v := .int .i64 ((((n : Nat) : Int)) - 1)) rfl (OpQ.y (OpY.sub rfl rfl rfl (by omega) (by omega))) ?_
        refine Run.q (v := .bool (!anyI (fun i => !within (ix xs i) 0 ((n : Int) - 1)) n)) rfl (OpQ.call (vs := [.slice A n c, .int .i64 0, .int .i64 ((((n : Nat) : Int)) - 1)]) (caps := []) Tcall_57 rfl rfl (fun w hs => l1All_spec (hs.sl ha))) ?_
        refine Run.q (v := .bool (!anyI (fun i => !within (ix xs i) 0 ((n : Int) - 1)) n)) rfl (OpQ.y (OpY.pure rfl)) ?_
        refine Run.q (v := .bool (!anyI (fun i => !within (ix xs i) 0 ((n : Int) - 1)) n)) rfl (OpQ.y (OpY.pure rfl)) ?_
        refine Run.done ?_
        refine Run.ret ?_
        refine ⟨.bool (!anyI (fun i => !within (ix xs i) 0 ((n : Int) - 1)) n), [], Out.one rfl rfl, (Some'.weak (.nil _)), ?_⟩
        show _ = _
        unfold pmOk isPm
        first | (rw [hno, h21, Bool.true_and]; rfl) | (rw [h21]; rfl)
      · refine Run.q (v := .bool false) rfl (OpQ.y (OpY.moveB rfl h21)) ?_
        have p21 := h21; try simp only [decide_eq_true_eq, decide_eq_false_iff_not, beq_iff_eq, bne_iff_ne, beq_eq_false_iff_ne, ne_eq, gt_iff_lt, ge_iff_le, Int.not_lt, Int.not_le, bne_eq_false_iff_eq, Bool.not_eq_true', Bool.not_eq_false', Bool.and_eq_true, Bool.and_eq_false_iff, Bool.or_eq_true, Bool.or_eq_false_iff, Decidable.not_not, List.cons.injEq, and_true] at p21
        refine Run.pass rfl ?_
        refine Run.pass rfl ?_
        refine Run.pass rfl ?_
        refine Run.pass rfl ?_
        refine Run.pass rfl ?_
        refine Run.q (v := .bool false) rfl (OpQ.y (OpY.pure rfl)) ?_
        refine Run.q (v := .bool false) rfl (OpQ.y (OpY.pure rfl)) ?_
        refine Run.done ?_
        refine Run.ret ?_
        refine ⟨.bool false, [], Out.one rfl rfl, (Some'.weak (.nil _)), ?_⟩
        show _ = _
        unfold pmOk isPm
        first | (rw [hno, h21, Bool.true_and]; rfl) | (rw [h21]; rfl)

set_option maxHeartbeats 1000000 in
set_option maxRecDepth 20000 in
theorem sPermutationGates_spec {va : Value} {n : Nat} {xs : List Int} {w : World} (ha : Sl w va 1 n (ints xs)) : Calls Try.prog 31 #[va] w (Post No w fun v H => ∃ u, (pmR n xs).length ≤ 5 ∧ v = .tuple #[u, .bool (pmOk xs n)] ∧ H = [.own u 50 3 (pmR n xs).length (ints (flSW (pmR n xs)))]) := by
  have hle := pmR_le n xs
  obtain ⟨A, c, rfl, _, _⟩ := ha.form0
  refine enter (n := 9) (args := [.slice A n c]) Try.func31 rfl rfl (St.empty _ _) ?_
  refine Run.seq ?_
  refine Run.region ?_
  refine Run.q (v := .slice none 0 0) rfl (OpQ.y (OpY.pure rfl)) ?_
  refine Run.q (v := .bool false) rfl (OpQ.y (OpY.pure rfl)) ?_
  refine Run.done ?_
  refine Run.seq ?_
  refine Run.seq ?_
  refine Run.region ?_
  refine Run.q (v := .slice A n c) rfl (OpQ.y (OpY.pure rfl)) ?_
  refine Run.q (v := .bool (pmOk xs n)) rfl (OpQ.call (vs := [.slice A n c]) (caps := []) Tcall_63 rfl rfl (fun w hs => l20Permutation_spec (hs.sl ha))) ?_
  refine Run.q (v := .bool (!(pmOk xs n))) rfl (OpQ.y (OpY.pure rfl)) ?_
  refine Run.done ?_
  refine Run.cond (b := !(pmOk xs n)) rfl (fun h6 => ?_) (fun h6 => ?_)
  · have p6 := h6; try simp only [decide_eq_true_eq, decide_eq_false_iff_not, beq_iff_eq, bne_iff_ne, beq_eq_false_iff_ne, ne_eq, gt_iff_lt, ge_iff_le, Int.not_lt, Int.not_le, bne_eq_false_iff_eq, Bool.not_eq_true', Bool.not_eq_false', Bool.and_eq_true, Bool.and_eq_false_iff, Bool.or_eq_true, Bool.or_eq_false_iff, Decidable.not_not, List.cons.injEq, and_true] at p6
    refine Run.seq ?_
    have hok : pmOk xs n = false := by simp_all [pmOk]
    have hr : pmR n xs = [] := by rw [pmR, hok]; rfl
    refine Run.region ?_
    refine Run.q (v := .slice none 0 0) rfl (OpQ.y (OpY.pure rfl)) ?_
    refine Run.q (v := .bool false) rfl (OpQ.y (OpY.pure rfl)) ?_
    refine Run.done ?_
    refine Run.ret ?_
    refine ⟨.tuple #[.slice none 0 0, .bool false], [.own (.slice none 0 0) 50 3 ((pmR n xs).length) (ints (flSW (pmR n xs)))], Out.two rfl rfl rfl, ((Weak.nilOwn 50 3).trans (Some'.weak (.takeEq (by first | (rw [hr]; done) | (simp only [hr]; rfl)) (.nil _)))), ?_⟩
    exact ⟨_, hle, by rw [hok], rfl⟩
  · have p6 := h6; try simp only [decide_eq_true_eq, decide_eq_false_iff_not, beq_iff_eq, bne_iff_ne, beq_eq_false_iff_ne, ne_eq, gt_iff_lt, ge_iff_le, Int.not_lt, Int.not_le, bne_eq_false_iff_eq, Bool.not_eq_true', Bool.not_eq_false', Bool.and_eq_true, Bool.and_eq_false_iff, Bool.or_eq_true, Bool.or_eq_false_iff, Decidable.not_not, List.cons.injEq, and_true] at p6
    refine Run.skip ?_
    refine Run.seq ?_
    have hok : pmOk xs n = true := by simp_all [pmOk]
    have hpm : isPm xs n = true := by simp_all [pmOk]
    have hwn : within (n : Int) 1 5 = true := by simp_all [pmOk]
    have hwn2 := within_iff.1 hwn
    have hr : pmR n xs = (pmS n xs n).2 := by rw [pmR, if_pos hok]
    refine Run.region ?_
    refine Run.q (v := .slice A n c) rfl (OpQ.y (OpY.pure rfl)) ?_
    refine Run.step rfl (OpStep.call (vs := [.slice A n c]) (caps := []) Tcall_64 rfl rfl (fun w hs => l20Swaps_spec (by omega) (by omega) hpm (hs.sl ha)) ?_)
    rintro u _ rfl
    show Run _ _ (putF _ _ _ u) [.own u 50 3 ((pmS n xs n).2.length) (ints (flSW (pmS n xs n).2))]
    refine Run.q (v := u) rfl (OpQ.y (OpY.pure rfl)) ?_
    refine Run.q (v := .bool true) rfl (OpQ.y (OpY.pure rfl)) ?_
    refine Run.done ?_
    refine Run.ret ?_
    refine ⟨.tuple #[u, .bool true], [.own u 50 3 ((pmR n xs).length) (ints (flSW (pmR n xs)))], Out.two rfl rfl rfl, (Some'.weak (.takeEq (by first | (rw [hr]; done) | (simp only [hr]; rfl)) (.nil _))), ?_⟩
    exact ⟨_, hle, by rw [hok], rfl⟩

set_option maxHeartbeats 1000000 in
set_option maxRecDepth 20000 in
theorem PermutationGates_spec {va : Value} {n : Nat} {xs : List Int} {w : World} (ha : Sl w va 1 n (ints xs)) : Calls Try.prog 30 #[va] w (Post No w fun v H => ∃ u, (pmR n xs).length ≤ 5 ∧ v = .tuple #[u, .bool (pmOk xs n)] ∧ H = [.own u 50 3 (pmR n xs).length (ints (flSW (pmR n xs)))]) := by
  have hle := pmR_le n xs
  obtain ⟨A, c, rfl, _, _⟩ := ha.form0
  refine enter (n := 15) (args := [.slice A n c]) Try.func30 rfl rfl (St.empty _ _) ?_
  refine Run.seq ?_
  refine Run.region ?_
  refine Run.q (v := .slice none 0 0) rfl (OpQ.y (OpY.pure rfl)) ?_
  refine Run.q (v := .bool false) rfl (OpQ.y (OpY.pure rfl)) ?_
  refine Run.done ?_
  refine Run.seq ?_
  refine Run.seq ?_
  refine Run.region ?_
  refine Run.q (v := .slice A n c) rfl (OpQ.y (OpY.pure rfl)) ?_
  refine Run.q (v := .int .i64 (((n : Nat) : Int))) rfl (OpQ.y (OpY.len Tsl_34 rfl)) ?_
  refine Run.q (v := .bool (within (n : Int) 1 5)) rfl (OpQ.call (vs := [.int .i64 (((n : Nat) : Int)), .int .i64 1, .int .i64 5]) (caps := []) Tcall_39 rfl rfl (fun w hs => within_spec _ _ _ w)) ?_
  refine Run.q (v := .bool (!(within (n : Int) 1 5))) rfl (OpQ.y (OpY.pure rfl)) ?_
  rcases Bool.eq_false_or_eq_true (!(within (n : Int) 1 5)) with h8 | h8
  · refine Run.q (v := .bool true) rfl (OpQ.y (OpY.moveB rfl h8)) ?_
    have p8 := h8; try simp only [decide_eq_true_eq, decide_eq_false_iff_not, beq_iff_eq, bne_iff_ne, beq_eq_false_iff_ne, ne_eq, gt_iff_lt, ge_iff_le, Int.not_lt, Int.not_le, bne_eq_false_iff_eq, Bool.not_eq_true', Bool.not_eq_false', Bool.and_eq_true, Bool.and_eq_false_iff, Bool.or_eq_true, Bool.or_eq_false_iff, Decidable.not_not, List.cons.injEq, and_true] at p8
    refine Run.pass rfl ?_
    refine Run.pass rfl ?_
    refine Run.pass rfl ?_
    refine Run.q (v := .bool true) rfl (OpQ.y (OpY.pure rfl)) ?_
    refine Run.done ?_
    refine Run.cond (b := true) rfl (fun _ => ?_) (fun h => nomatch h)
    refine Run.seq ?_
    have hok : pmOk xs n = false := by simp_all [pmOk]
    have hr : pmR n xs = [] := by rw [pmR, hok]; rfl
    refine Run.region ?_
    refine Run.q (v := .slice none 0 0) rfl (OpQ.y (OpY.pure rfl)) ?_
    refine Run.q (v := .bool false) rfl (OpQ.y (OpY.pure rfl)) ?_
    refine Run.done ?_
    refine Run.ret ?_
    refine ⟨.tuple #[.slice none 0 0, .bool false], [.own (.slice none 0 0) 50 3 ((pmR n xs).length) (ints (flSW (pmR n xs)))], Out.two rfl rfl rfl, ((Weak.nilOwn 50 3).trans (Some'.weak (.takeEq (by first | (rw [hr]; done) | (simp only [hr]; rfl)) (.nil _)))), ?_⟩
    exact ⟨_, hle, by rw [hok], rfl⟩
  · refine Run.q (v := .bool false) rfl (OpQ.y (OpY.moveB rfl h8)) ?_
    have p8 := h8; try simp only [decide_eq_true_eq, decide_eq_false_iff_not, beq_iff_eq, bne_iff_ne, beq_eq_false_iff_ne, ne_eq, gt_iff_lt, ge_iff_le, Int.not_lt, Int.not_le, bne_eq_false_iff_eq, Bool.not_eq_true', Bool.not_eq_false', Bool.and_eq_true, Bool.and_eq_false_iff, Bool.or_eq_true, Bool.or_eq_false_iff, Decidable.not_not, List.cons.injEq, and_true] at p8
    have hw8 := within_iff.1 p8
    refine Run.q (v := .slice A n c) rfl (OpQ.y (OpY.pure rfl)) ?_
    refine Run.q (v := .bool (isPm xs n)) rfl (OpQ.call (vs := [.slice A n c]) (caps := []) Tcall_61 rfl rfl (fun w hs => isPermutation_spec (by omega) (by omega) (hs.sl ha))) ?_
    refine Run.q (v := .bool (!(isPm xs n))) rfl (OpQ.y (OpY.pure rfl)) ?_
    refine Run.q (v := .bool (!(isPm xs n))) rfl (OpQ.y (OpY.pure rfl)) ?_
    refine Run.done ?_
    refine Run.cond (b := !(isPm xs n)) rfl (fun h12 => ?_) (fun h12 => ?_)
    · have p12 := h12; try simp only [decide_eq_true_eq, decide_eq_false_iff_not, beq_iff_eq, bne_iff_ne, beq_eq_false_iff_ne, ne_eq, gt_iff_lt, ge_iff_le, Int.not_lt, Int.not_le, bne_eq_false_iff_eq, Bool.not_eq_true', Bool.not_eq_false', Bool.and_eq_true, Bool.and_eq_false_iff, Bool.or_eq_true, Bool.or_eq_false_iff, Decidable.not_not, List.cons.injEq, and_true] at p12
      refine Run.seq ?_
      have hok : pmOk xs n = false := by simp_all [pmOk]
      have hr : pmR n xs = [] := by rw [pmR, hok]; rfl
      refine Run.region ?_
      refine Run.q (v := .slice none 0 0) rfl (OpQ.y (OpY.pure rfl)) ?_
      refine Run.q (v := .bool false) rfl (OpQ.y (OpY.pure rfl)) ?_
      refine Run.done ?_
      refine Run.ret ?_
      refine ⟨.tuple #[.slice none 0 0, .bool false], [.own (.slice none 0 0) 50 3 ((pmR n xs).length) (ints (flSW (pmR n xs)))], Out.two rfl rfl rfl, ((Weak.nilOwn 50 3).trans (Some'.weak (.takeEq (by first | (rw [hr]; done) | (simp only [hr]; rfl)) (.nil _)))), ?_⟩
      exact ⟨_, hle, by rw [hok], rfl⟩
    · have p12 := h12; try simp only [decide_eq_true_eq, decide_eq_false_iff_not, beq_iff_eq, bne_iff_ne, beq_eq_false_iff_ne, ne_eq, gt_iff_lt, ge_iff_le, Int.not_lt, Int.not_le, bne_eq_false_iff_eq, Bool.not_eq_true', Bool.not_eq_false', Bool.and_eq_true, Bool.and_eq_false_iff, Bool.or_eq_true, Bool.or_eq_false_iff, Decidable.not_not, List.cons.injEq, and_true] at p12
      refine Run.skip ?_
      refine Run.seq ?_
      have hok : pmOk xs n = true := by simp_all [pmOk]
      have hpm : isPm xs n = true := by simp_all [pmOk]
      have hwn : within (n : Int) 1 5 = true := by simp_all [pmOk]
      have hwn2 := within_iff.1 hwn
      have hr : pmR n xs = (pmS n xs n).2 := by rw [pmR, if_pos hok]
      refine Run.region ?_
      refine Run.q (v := .slice A n c) rfl (OpQ.y (OpY.pure rfl)) ?_
      refine Run.step rfl (OpStep.call (vs := [.slice A n c]) (caps := []) Tcall_62 rfl rfl (fun w hs => permutation_spec (by omega) (by omega) hpm (hs.sl ha)) ?_)
      rintro u _ rfl
      show Run _ _ (putF _ _ _ u) [.own u 50 3 ((pmS n xs n).2.length) (ints (flSW (pmS n xs n).2))]
      refine Run.q (v := u) rfl (OpQ.y (OpY.pure rfl)) ?_
      refine Run.q (v := .bool true) rfl (OpQ.y (OpY.pure rfl)) ?_
      refine Run.done ?_
      refine Run.ret ?_
      refine ⟨.tuple #[u, .bool true], [.own u 50 3 ((pmR n xs).length) (ints (flSW (pmR n xs)))], Out.two rfl rfl rfl, (Some'.weak (.takeEq (by first | (rw [hr]; done) | (simp only [hr]; rfl)) (.nil _))), ?_⟩
      exact ⟨_, hle, by rw [hok], rfl⟩

end Go.Proofs.Ytgghmjijjdboeaa
