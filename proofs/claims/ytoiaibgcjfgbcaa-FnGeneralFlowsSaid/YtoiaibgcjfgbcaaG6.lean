/- Walks: open graphs: neighbours, odd neighbours, layers. -/
import Derived.Test.YtoiaibgcjfgbcaaG3
import Derived.Test.YtoiaibgcjfgbcaaG4
import Derived.Test.YtoiaibgcjfgbcaaG5
import Derived.Test.YtoiaibgcjfgbcaaProg
set_option linter.unusedSimpArgs false
set_option linter.unusedVariables false
namespace Go.Proofs.Ytoiaibgcjfgbcaa
open Go Go.RowKit
namespace FwaT
theorem Tagg_26 : aggOf Try.prog 26 = some 4 := by kernel_rfl
theorem Tagg_80 : aggOf Try.prog 80 = some 2 := by kernel_rfl
theorem Tcall_29 : callable Try.prog 29 = true := by kernel_rfl
theorem Tcall_48 : callable Try.prog 48 = true := by kernel_rfl
theorem Tcall_50 : callable Try.prog 50 = true := by kernel_rfl
theorem Tcall_51 : callable Try.prog 51 = true := by kernel_rfl
theorem Tcall_54 : callable Try.prog 54 = true := by kernel_rfl
theorem Tcall_55 : callable Try.prog 55 = true := by kernel_rfl
theorem Tcall_56 : callable Try.prog 56 = true := by kernel_rfl
theorem Tcall_60 : callable Try.prog 60 = true := by kernel_rfl
theorem Tcall_61 : callable Try.prog 61 = true := by kernel_rfl
theorem Tcall_73 : callable Try.prog 73 = true := by kernel_rfl
theorem Tfo_26_0 : fieldOff Try.prog 26 0 = some 0 := by kernel_rfl
theorem Tfo_26_1 : fieldOff Try.prog 26 1 = some 1 := by kernel_rfl
theorem Tfo_26_2 : fieldOff Try.prog 26 2 = some 2 := by kernel_rfl
theorem Tfo_26_3 : fieldOff Try.prog 26 3 = some 3 := by kernel_rfl
theorem Tfo_80_0 : fieldOff Try.prog 80 0 = some 0 := by kernel_rfl
theorem Tfo_80_1 : fieldOff Try.prog 80 1 = some 1 := by kernel_rfl
theorem Tint_52 : Try.prog.underlying 52 = some (.int .u64) := by kernel_rfl
theorem Tone_23 : oneOf Try.prog 23 = true := by kernel_rfl
theorem Tone_24 : oneOf Try.prog 24 = true := by kernel_rfl
theorem Tone_3 : oneOf Try.prog 3 = true := by kernel_rfl
theorem Tsize_80 : (Try.prog.info? 80).map (·.size) = some 2 := by kernel_rfl
theorem Tsl_23 : sliceOf Try.prog 23 = some (80, 2, 16, [.int .i64 0, .int .i64 0]) := by kernel_rfl
theorem Tsl_24 : sliceOf Try.prog 24 = some (3, 1, 8, [.int .i64 0]) := by kernel_rfl
theorem Tsome_3 : (Try.prog.underlying 3).isSome = true := by kernel_rfl
theorem Tzero_80 : zeroOf Try.prog 80 = some [.int .i64 0, .int .i64 0] := by kernel_rfl
end FwaT
open FwaT
theorem bits_xor_nat {a b : Nat} (ha : a < 9223372036854775808) (hb : b < 9223372036854775808) : bits .xor .i64 (a : Int) (b : Int) = ((a ^^^ b : Nat) : Int) := by
  have h1 : a ^^^ b < 9223372036854775808 := Nat.xor_lt_two_pow (n := 63) ha hb
  have h2 : (BitVec.ofInt 64 (a : Int) ^^^ BitVec.ofInt 64 (b : Int)).toNat = a ^^^ b := by
    rw [BitVec.toNat_xor, BitVec.toNat_ofInt, BitVec.toNat_ofInt]
    congr 1 <;> omega
  show IntKind.i64.wrap ((BitVec.ofInt 64 (a : Int) ^^^ BitVec.ofInt 64 (b : Int)).toNat : Int) = _
  rw [h2, IntKind.wrap_i64]; omega
theorem bits_or_nat {a b : Nat} (ha : a < 9223372036854775808) (hb : b < 9223372036854775808) : bits .or .i64 (a : Int) (b : Int) = ((a ||| b : Nat) : Int) := by
  have h1 : a ||| b < 9223372036854775808 := Nat.or_lt_two_pow (n := 63) ha hb
  have h2 : (BitVec.ofInt 64 (a : Int) ||| BitVec.ofInt 64 (b : Int)).toNat = a ||| b := by
    rw [BitVec.toNat_or, BitVec.toNat_ofInt, BitVec.toNat_ofInt]
    congr 1 <;> omega
  show IntKind.i64.wrap ((BitVec.ofInt 64 (a : Int) ||| BitVec.ofInt 64 (b : Int)).toNat : Int) = _
  rw [h2, IntKind.wrap_i64]; omega
section
variable {E : Env} {f : Fr} {H : List Res} {d : Option Tmp} {ty : TypeId} {pos : String} {after : Array Edge} {gd : Option (Nat × Bool)}
theorem OpY.xorNat {t t' : TypeId} {x y : Operand} {a b : Int} {m n : Nat} (hx : f.eval x = .int .i64 a) (hy : f.eval y = .int .i64 b) (ha : a = (m : Nat)) (hb : b = (n : Nat)) (hm : m < 9223372036854775808) (hn : n < 9223372036854775808) :
    OpY E ⟨d, .binOp .xor t x y t', ty, pos, after, gd⟩ f H (.int .i64 ((m ^^^ n : Nat) : Int)) := by
  have := OpY.xor (E := E) (H := H) (d := d) (ty := ty) (pos := pos) (after := after) (gd := gd) (t := t) (t' := t') hx hy
  rw [ha, hb, bits_xor_nat hm hn] at this; exact this
theorem OpY.orNat {t t' : TypeId} {x y : Operand} {a b : Int} {m n : Nat} (hx : f.eval x = .int .i64 a) (hy : f.eval y = .int .i64 b) (ha : a = (m : Nat)) (hb : b = (n : Nat)) (hm : m < 9223372036854775808) (hn : n < 9223372036854775808) :
    OpY E ⟨d, .binOp .or t x y t', ty, pos, after, gd⟩ f H (.int .i64 ((m ||| n : Nat) : Int)) := by
  have := OpY.or (E := E) (H := H) (d := d) (ty := ty) (pos := pos) (after := after) (gd := gd) (t := t) (t' := t') hx hy
  rw [ha, hb, bits_or_nat hm hn] at this; exact this
theorem OpY.shlOne {t t' : TypeId} {x y : Operand} {b : Int} {n q : Nat} {k : IntKind} (hx : f.eval x = .int .i64 1) (hy : f.eval y = .int k b) (hb : b = (n : Nat)) (hn : n ≤ 62) (hq : q = 2 ^ n) :
    OpY E ⟨d, .binOp .shl t x y t', ty, pos, after, gd⟩ f H (.int .i64 (q : Int)) := by
  subst hq
  have h1 : 2 ^ n ≤ 2 ^ 62 := Nat.pow_le_pow_right (by omega) hn
  have h2 : (2 : Nat) ^ 62 = 4611686018427387904 := by decide
  have h3 : ((2 ^ n : Nat) : Int) ≤ 4611686018427387904 := by
    rw [h2] at h1
    exact Int.ofNat_le.2 h1
  have h4 : (0 : Int) ≤ ((2 ^ n : Nat) : Int) := Int.natCast_nonneg _
  exact OpY.shl (n := n) hx hy hb (by omega) (by push_cast; rw [Int.one_mul]) (Int.le_trans (by decide) h4) (Int.le_trans h3 (by decide))
end
theorem bitN (a k : Nat) : bitI ((a : Nat) : Int) k = a.testBit k := by rw [bitI_nat, Nat.testBit_eq_decide_div_mod_eq]
theorem pow10 {n : Nat} (h : n ≤ 10) : 2 ^ n ≤ 1024 := Nat.le_trans (Nat.pow_le_pow_right (by omega) h) (by decide)
theorem pow_q {k n : Nat} (hn10 : n ≤ 10) (h : k < n) : ∃ q : Nat, q = 2 ^ k ∧ 1 ≤ q ∧ q ≤ 512 := ⟨_, rfl, Nat.two_pow_pos _, Nat.le_trans (Nat.pow_le_pow_right (by omega) (show k ≤ 9 by omega)) (by decide)⟩
/-- The bits of a set, in order. -/
def setN (a n : Nat) : List Int := filterL (fun k => a.testBit k) n
theorem filterL_cut {p : Nat → Bool} {n : Nat} (h : ∀ i, n ≤ i → p i = false) : ∀ j, filterL p (n + j) = filterL p n
  | 0 => rfl
  | j + 1 => by rw [show n + (j + 1) = (n + j) + 1 by omega, filterL, if_neg (by rw [h (n + j) (by omega)]; decide), filterL_cut h j, List.append_nil]
theorem setL_nat {a n : Nat} (h : a < 2 ^ n) (hn : n ≤ 24) : setL ((a : Nat) : Int) = setN a n := by
  have e : setL ((a : Nat) : Int) = filterL (fun k => a.testBit k) 24 := filterL_congr fun i _ => bitN a i
  rw [e, show (24 : Nat) = n + (24 - n) by omega]
  exact filterL_cut (fun i hi => Nat.testBit_lt_two_pow (Nat.lt_of_lt_of_le h (Nat.pow_le_pow_right (by omega) hi))) _
def xorP (p : Nat → Bool) : Nat → Bool
  | 0 => false
  | k + 1 => xorP p k ^^ p k
theorem len_par (p : Nat → Bool) : ∀ k, ((filterL p k).length % 2 = 1) ↔ xorP p k = true
  | 0 => by simp [filterL, xorP]
  | k + 1 => by
    have ih := len_par p k
    rw [filterL, xorP]
    cases hp : p k with
    | true =>
      rw [if_pos rfl, List.length_append]
      simp only [List.length_cons, List.length_nil, Bool.xor_true, Bool.not_eq_true']
      rw [← Bool.not_eq_true, ← ih]; omega
    | false =>
      rw [if_neg (by decide), List.append_nil, Bool.xor_false]; exact ih
theorem oddB_xor (es : List Int) (m set u : Nat) : ∀ k, oddB es m set u k = xorP (fun v => set.testBit v && jn es u v m) k
  | 0 => rfl
  | k + 1 => by rw [oddB, xorP, oddB_xor es m set u k]
theorem par_odd {n m : Nat} {es : List Int} (hn10 : n ≤ 10) (hes : edgesOk (n : Int) es m = true) (v set : Nat) : ((setL ((ngK es v m &&& set : Nat) : Int)).length % 2 = 1) ↔ oddB es m set v n = true := by
  have hlt : ngK es v m &&& set < 2 ^ n := Nat.lt_of_le_of_lt Nat.and_le_left (ng_lt hes v m (Nat.le_refl m))
  rw [setL_nat hlt (by omega), setN, len_par, oddB_xor]
  have e : (fun k => (ngK es v m &&& set).testBit k) = fun k => set.testBit k && jn es v k m := by
    funext k
    rw [Nat.testBit_and, ng_bit hes k v m (Nat.le_refl m), jn_comm, Bool.and_comm]
  rw [e]
/-- The sum of the neighbours of the nodes of a list. -/
def xorF (es : List Int) (m : Nat) (l : List Int) : Nat := l.foldl (fun a x => a ^^^ ngK es x.toNat m) 0
theorem xorF_snoc (es : List Int) (m : Nat) (l : List Int) (x : Int) : xorF es m (l ++ [x]) = xorF es m l ^^^ ngK es x.toNat m := by simp [xorF, List.foldl_append]
theorem xorF_take {es l : List Int} {m k : Nat} (h : k < l.length) : xorF es m (l.take (k + 1)) = xorF es m (l.take k) ^^^ ngK es (ix l k).toNat m := by
  rw [← List.take_append_getElem h, xorF_snoc]
  simp [ix, List.getD, h]
theorem xorF_bit {n m : Nat} {es : List Int} (hes : edgesOk (n : Int) es m = true) (set u : Nat) : ∀ k, (xorF es m (filterL (fun k => set.testBit k) k)).testBit u = oddB es m set u k
  | 0 => by simp [filterL, xorF, oddB]
  | k + 1 => by
    rw [filterL, oddB]
    cases hb : set.testBit k with
    | true =>
      rw [if_pos rfl, xorF_snoc, Nat.testBit_xor, xorF_bit hes set u k, Int.toNat_natCast, ng_bit hes u k m (Nat.le_refl m), Bool.true_and]
    | false =>
      rw [if_neg (by decide), List.append_nil, xorF_bit hes set u k, Bool.false_and, Bool.xor_false]
theorem xorF_lt {n m : Nat} {es : List Int} (hes : edgesOk (n : Int) es m = true) : ∀ l : List Int, xorF es m l < 2 ^ n := by
  intro l
  have key : ∀ (l : List Int) (a : Nat), a < 2 ^ n → l.foldl (fun a x => a ^^^ ngK es x.toNat m) a < 2 ^ n := by
    intro l
    induction l with
    | nil => intro a h; exact h
    | cons x l ih => intro a h; exact ih _ (Nat.xor_lt_two_pow h (ng_lt hes _ m (Nat.le_refl m)))
  exact key l 0 (Nat.two_pow_pos n)
theorem xorF_odd {n m : Nat} {es : List Int} (hes : edgesOk (n : Int) es m = true) (set : Nat) : xorF es m (setN set n) = oddM es m n set n := by
  refine Nat.eq_of_testBit_eq fun u => ?_
  by_cases hu : u < n
  · rw [oddM_bit, decide_eq_true hu, Bool.true_and]; exact xorF_bit hes set u n
  · rw [oddM_bit, decide_eq_false hu, Bool.false_and]
    exact Nat.testBit_lt_two_pow (Nat.lt_of_lt_of_le (xorF_lt hes _) (Nat.pow_le_pow_right (by omega) (by omega)))
def parI (x : Int) : Int := (((setL x).length % 2 : Nat) : Int)
theorem par_odd2 {n m : Nat} {es : List Int} (hn10 : n ≤ 10) (hes : edgesOk (n : Int) es m = true) (v set : Nat) : parI ((ngK es v m &&& set : Nat) : Int) = 1 ↔ oddB es m set v n = true := by
  rw [← par_odd hn10 hes v set, parI]
  generalize (setL ((ngK es v m &&& set : Nat) : Int)).length = a
  omega
def rsAt (lo hi : Int) (xs : List Int) (i : Nat) : Bool := within (ix xs i) lo hi && decide (0 < i → ix xs (i - 1) < ix xs i)
theorem risB_rs (l : List Int) (n k : Nat) : risB l n k = allI (rsAt 0 ((n : Int) - 1) l) k := rfl
def ogB (n : Nat) (es : List Int) (m : Nat) (is : List Int) (ni : Nat) (os : List Int) (no : Nat) : Bool := ((within (n : Int) 1 10 && edgesOk (n : Int) es m) && risB is n ni) && risB os n no
theorem og_ok {n m ni no : Nat} {es is os : List Int} (h : ogB n es m is ni os no = true) : 1 ≤ n ∧ n ≤ 10 ∧ edgesOk (n : Int) es m = true ∧ risB is n ni = true ∧ risB os n no = true := by
  simp only [ogB, Bool.and_eq_true, within_iff] at h
  exact ⟨by omega, by omega, h.1.1.2, h.1.2, h.2⟩
theorem ris_in {l : List Int} {n k : Nat} (h : risB l n k = true) : ∀ i, i < k → 0 ≤ ix l i ∧ ix l i < n := fun i hi => ⟨(ris_at h hi).1, (ris_at h hi).2.1⟩
theorem bef_set {ly : List Int} {v set n : Nat} (hs : set < 2 ^ n) : befB ly v set n = true ↔ ∀ i, i < (setN set n).length → ix ly v > ix ly (ix (setN set n) i).toNat := by
  rw [bef_iff]
  constructor
  · intro h i hi
    obtain ⟨u, h1, h2, h3⟩ := filterL_get hi
    rw [show ix (setN set n) i = (u : Int) from h3, Int.toNat_natCast]
    exact h u h1 h2
  · intro h u hu hb
    obtain ⟨i, h1, h2⟩ := filterL_mem (p := fun k => set.testBit k) hu hb
    have := h i h1
    rw [show ix (setN set n) i = (u : Int) from h2, Int.toNat_natCast] at this
    exact this
theorem set_at {set n i : Nat} (hi : i < (setN set n).length) : ∃ u : Nat, u < n ∧ set.testBit u = true ∧ ix (setN set n) i = (u : Int) := filterL_get hi
theorem clr_lt {a v n : Nat} (h : a < 2 ^ n) : clr a v < 2 ^ n := by
  refine Nat.lt_pow_two_of_testBit _ fun i hi => ?_
  rw [clr_bit, Nat.testBit_lt_two_pow (Nat.lt_of_lt_of_le h (Nat.pow_le_pow_right (by omega) hi))]; rfl
theorem bits_andNotN {a b : Nat} (ha : a < 9223372036854775808) (hb : b < 9223372036854775808) : bits .andNot .i64 (a : Int) (b : Int) = ((a ^^^ (a &&& b) : Nat) : Int) := by
  have h1 : a ^^^ (a &&& b) < 9223372036854775808 := Nat.xor_lt_two_pow (n := 63) ha (Nat.and_lt_two_pow (n := 63) _ hb)
  have h2 : (BitVec.ofInt 64 (a : Int) &&& ~~~ BitVec.ofInt 64 (b : Int)).toNat = a ^^^ (a &&& b) := by
    refine Nat.eq_of_testBit_eq fun i => ?_
    rw [Nat.testBit_xor, Nat.testBit_and]
    by_cases hi : i < 64
    · have e1 : (BitVec.ofInt 64 (a : Int)).getLsbD i = a.testBit i := by
        rw [BitVec.getLsbD, BitVec.toNat_ofInt]; congr 1; omega
      have e2 : (BitVec.ofInt 64 (b : Int)).getLsbD i = b.testBit i := by
        rw [BitVec.getLsbD, BitVec.toNat_ofInt]; congr 1; omega
      show (BitVec.ofInt 64 (a : Int) &&& ~~~ BitVec.ofInt 64 (b : Int)).getLsbD i = _
      rw [BitVec.getLsbD_and, BitVec.getLsbD_not, e1, e2]
      simp only [hi, decide_true, Bool.true_and]
      cases a.testBit i <;> cases b.testBit i <;> rfl
    · have h3 : a.testBit i = false := Nat.testBit_lt_two_pow (Nat.lt_of_lt_of_le ha (show 2 ^ 63 ≤ 2 ^ i from Nat.pow_le_pow_right (by omega) (by omega)))
      rw [h3]
      exact Nat.testBit_lt_two_pow (Nat.lt_of_lt_of_le (BitVec.isLt _) (Nat.pow_le_pow_right (by omega) (by omega)))
  show IntKind.i64.wrap ((BitVec.ofInt 64 (a : Int) &&& ~~~ BitVec.ofInt 64 (b : Int)).toNat : Int) = _
  rw [h2, IntKind.wrap_i64]; omega
section
variable {E : Env} {f : Fr} {H : List Res} {d : Option Tmp} {ty : TypeId} {pos : String} {after : Array Edge} {gd : Option (Nat × Bool)} {t t' : TypeId} {x y : Operand} {m n q : Nat}
theorem OpY.andNotNat (hx : f.eval x = .int .i64 (m : Nat)) (hy : f.eval y = .int .i64 (n : Nat)) (hm : m < 9223372036854775808) (hn : n < 9223372036854775808) (hq : m ^^^ (m &&& n) = q) :
    OpY E ⟨d, .binOp .andNot t x y t', ty, pos, after, gd⟩ f H (.int .i64 (q : Int)) := by
  have := OpY.andNot (E := E) (H := H) (d := d) (ty := ty) (pos := pos) (after := after) (gd := gd) (t := t) (t' := t') hx hy
  rw [bits_andNotN hm hn, hq] at this
  exact this
theorem OpY.andNat2 (hx : f.eval x = .int .i64 (m : Nat)) (hy : f.eval y = .int .i64 (n : Nat)) (hm : m < 9223372036854775808) (hn : n < 9223372036854775808) :
    OpY E ⟨d, .binOp .and t x y t', ty, pos, after, gd⟩ f H (.int .i64 ((m &&& n : Nat) : Int)) := by
  have := OpY.and (E := E) (H := H) (d := d) (ty := ty) (pos := pos) (after := after) (gd := gd) (t := t) (t' := t') hx hy
  rw [bits_nat (.inr rfl) hm hn] at this
  exact this
end
set_option maxHeartbeats 1000000 in
set_option maxRecDepth 20000 in
theorem isIncreasing_spec {va : Value} {n k0 : Nat} {xs : List Int} {w : World} (hn100 : n ≤ 100) (ha : Sl w va 1 k0 (ints xs)) : Calls Try.prog 51 #[va, .int .i64 (n : Int)] w (Post No w fun v _ => v = .bool (risB xs n k0)) := by
 have hxl := ha.len
 have hn := ha.le
 obtain ⟨A, c, rfl, _, _⟩ := ha.form0
 refine enter (n := 33) (args := [.slice A k0 c, .int .i64 (((n : Nat) : Int))]) Try.func51 rfl rfl (St.empty _ _) ?_
 refine Run.sr ?_
 refine Run.p (.bool false) rfl rfl ?_
 refine Run.done ?_
 refine Run.seq ?_
 refine Run.sr ?_
 refine Run.p (.slice A k0 c) rfl rfl ?_
 refine Run.y (.int .i64 (((k0 : Nat) : Int))) rfl (OpY.len Tsl_24 rfl) ?_
 refine Run.p (.int .i64 0) rfl rfl ?_
 refine Run.done ?_
 refine Run.block ?_
 refine Run.loop (ι := Nat) [4, 5, 6, 9, 10, 11, 12, 13, 14, 15, 16, 17, 18, 19, 20, 21, 22, 23, 24, 25, 26, 27, 28, 29, 30, 31, 32] (fun k => [(9, .int .i64 (((k : Nat) : Int)))]) (fun k => []) (fun k => k ≤ k0 ∧ (∀ i, i < k → rsAt 0 ((n : Int) - 1) xs i = true)) (fun k => k0 - k) 0 ?_ ?_ ?_ ?_
 ·exact ⟨Nat.zero_le _, by first | trivial | (intro i hi; omega)⟩
 ·exact ⟨rfl, trivial⟩
 ·exact (Some'.weak (.nil _))
 ·rintro k fr hinv
  show Run _ _ (over _ _ [(9, .int .i64 (((k : Nat) : Int)))] fr) []
  try dsimp only at hinv
  refine Run.sr ?_
  refine Run.p (.bool (decide ((((k : Nat) : Int)) < (((k0 : Nat) : Int))))) rfl rfl ?_
  refine Run.done ?_
  refine Run.seq ?_
  refine Run.cond (b := decide ((((k : Nat) : Int)) < (((k0 : Nat) : Int)))) rfl (fun h10 => ?_) (fun h10 => ?_)
  ·have p10 := h10; try simp only [bs] at p10
   have hltk : k < k0 := by omega
   obtain ⟨b, o, rfl⟩ := ha.opn (by omega)
   refine Run.skip ?_
   refine Run.seq ?_
   refine Run.block ?_
   refine Run.sr ?_
   refine Run.p (.int .i64 (((k : Nat) : Int))) rfl rfl ?_
   refine Run.y (.pointer (some ⟨b, o + k, none⟩)) rfl (OpY.index (kk := k) Tsl_24 rfl rfl (by omega) (by omega) (by first | rfl | omega)) ?_
   refine Run.y (.int .i64 (ix xs (k))) rfl (OpY.load1 Tone_3 rfl (Cells.arg (k := k) ha rfl (by omega) (pre1 (by omega)))) ?_
   refine Run.p (.int .i64 (((k : Nat) : Int))) rfl rfl ?_
   refine Run.p (.int .i64 (ix xs (k))) rfl rfl ?_
   refine Run.dsr ?_
   refine Run.p (.int .i64 (ix xs (k))) rfl rfl ?_
   refine Run.p (.int .i64 (((n : Nat) : Int))) rfl rfl ?_
   refine Run.y (.int .i64 ((((n : Nat) : Int)) - 1)) rfl (OpY.sub rfl rfl rfl (by omega) (by omega)) ?_
   refine Run.q (v := .bool (within (ix xs k) 0 ((n : Int) - 1))) rfl (OpQ.call (vs := [.int .i64 (ix xs (k)), .int .i64 0, .int .i64 ((((n : Nat) : Int)) - 1)]) (caps := []) Tcall_48 rfl rfl (fun w hs => within_spec _ _ _ w)) ?_
   refine Run.p (.bool (!(within (ix xs k) 0 ((n : Int) - 1)))) rfl rfl ?_
   rcases Bool.eq_false_or_eq_true (!(within (ix xs k) 0 ((n : Int) - 1))) with h19 | h19
   ·refine Run.q (v := .bool true) rfl (OpQ.y (OpY.moveB rfl h19)) ?_
    have p19 := h19; try simp only [bs] at p19
    refine Run.pass rfl ?_
    refine Run.pass rfl ?_
    refine Run.pass rfl ?_
    refine Run.pass rfl ?_
    refine Run.pass rfl ?_
    refine Run.pass rfl ?_
    refine Run.pass rfl ?_
    refine Run.pass rfl ?_
    refine Run.pass rfl ?_
    refine Run.pass rfl ?_
    refine Run.pass rfl ?_
    refine Run.p (.bool true) rfl rfl ?_
    refine Run.done ?_
    refine Run.cond (b := true) rfl (fun _ => ?_) (fun h => nomatch h)
    refine Run.seq ?_
    have hres : allI (rsAt 0 ((n : Int) - 1) xs) k0 = false := by
     refine allI_false hltk ?_
     simp only [rsAt, Bool.and_eq_false_iff, decide_eq_false_iff_not]
     simp_all <;> omega
    refine Run.region ?_
    refine Run.p (.bool false) rfl rfl ?_
    refine Run.done ?_
    refine Run.ret ?_
    refine ⟨.bool false, [], Out.one rfl rfl, (Some'.weak (.nil _)), ?_⟩
    show _ = _; rw [risB_rs, hres]
   ·refine Run.q (v := .bool false) rfl (OpQ.y (OpY.moveB rfl h19)) ?_
    have p19 := h19; try simp only [bs] at p19
    refine Run.p (.int .i64 (((k : Nat) : Int))) rfl rfl ?_
    refine Run.p (.bool (decide ((((k : Nat) : Int)) > 0))) rfl rfl ?_
    rcases Bool.eq_false_or_eq_true (decide ((((k : Nat) : Int)) > 0)) with h22 | h22
    ·refine Run.q (v := .bool true) rfl (OpQ.y (OpY.moveB rfl h22)) ?_
     have p22 := h22; try simp only [bs] at p22
     refine Run.p (.slice (some ⟨b, o, none⟩) k0 c) rfl rfl ?_
     refine Run.p (.int .i64 (((k : Nat) : Int))) rfl rfl ?_
     refine Run.y (.int .i64 ((((k : Nat) : Int)) - 1)) rfl (OpY.sub rfl rfl rfl (by omega) (by omega)) ?_
     refine Run.y (.pointer (some ⟨b, o + (k - 1), none⟩)) rfl (OpY.index (kk := (k - 1)) Tsl_24 rfl rfl (by omega) (by omega) (by first | rfl | omega)) ?_
     refine Run.y (.int .i64 (ix xs ((k - 1)))) rfl (OpY.load1 Tone_3 rfl (Cells.arg (k := (k - 1)) ha rfl (by omega) (pre1 (by omega)))) ?_
     refine Run.p (.int .i64 (ix xs (k))) rfl rfl ?_
     refine Run.p (.bool (decide ((ix xs ((k - 1))) ≥ (ix xs (k))))) rfl rfl ?_
     refine Run.p (.bool (decide ((ix xs ((k - 1))) ≥ (ix xs (k))))) rfl rfl ?_
     refine Run.p (.bool (decide ((ix xs ((k - 1))) ≥ (ix xs (k))))) rfl rfl ?_
     refine Run.done ?_
     refine Run.cond (b := decide ((ix xs ((k - 1))) ≥ (ix xs (k)))) rfl (fun h31 => ?_) (fun h31 => ?_)
     ·have p31 := h31; try simp only [bs] at p31
      refine Run.seq ?_
      have hres : allI (rsAt 0 ((n : Int) - 1) xs) k0 = false := by
       refine allI_false hltk ?_
       simp only [rsAt, Bool.and_eq_false_iff, decide_eq_false_iff_not]
       simp_all <;> omega
      refine Run.region ?_
      refine Run.p (.bool false) rfl rfl ?_
      refine Run.done ?_
      refine Run.ret ?_
      refine ⟨.bool false, [], Out.one rfl rfl, (Some'.weak (.nil _)), ?_⟩
      show _ = _; rw [risB_rs, hres]
     ·have p31 := h31; try simp only [bs] at p31
      refine Run.skip ?_
      refine Run.blockEnd ?_
      have hgood : rsAt 0 ((n : Int) - 1) xs k = true := by
       simp only [rsAt, Bool.and_eq_true, decide_eq_true_eq]
       refine ⟨?_, ?_⟩ <;> simp_all <;> omega
      refine Run.region ?_
      refine Run.y (.int .i64 ((((k : Nat) : Int)) + 1)) rfl (OpY.add rfl rfl rfl (by omega) (by omega)) ?_
      refine Run.p (.int .i64 ((((k : Nat) : Int)) + 1)) rfl rfl ?_
      refine Run.done ?_
      refine Run.goal ⟨(by repeat (first | exact Same.refl _ _ | refine Same.put rfl ?_ | refine Same.over rfl rfl ?_)), k + 1, ?_, ?_, ?_, ?_⟩
      ·refine ⟨by omega, ?_⟩
       intro i hi
       rcases Nat.lt_succ_iff_lt_or_eq.1 hi with h | h
       ·exact hinv.2 i h
       ·rw [h]; exact hgood
      ·omega
      ·exact ⟨(by first | rfl | (congr 1; omega) | simp), trivial⟩
      ·exact (Some'.weak (.nil _))
    ·refine Run.q (v := .bool false) rfl (OpQ.y (OpY.moveB rfl h22)) ?_
     have p22 := h22; try simp only [bs] at p22
     refine Run.pass rfl ?_
     refine Run.pass rfl ?_
     refine Run.pass rfl ?_
     refine Run.pass rfl ?_
     refine Run.pass rfl ?_
     refine Run.pass rfl ?_
     refine Run.pass rfl ?_
     refine Run.p (.bool false) rfl rfl ?_
     refine Run.p (.bool false) rfl rfl ?_
     refine Run.done ?_
     refine Run.cond (b := false) rfl (fun h => nomatch h) (fun _ => ?_)
     refine Run.skip ?_
     refine Run.blockEnd ?_
     have hgood : rsAt 0 ((n : Int) - 1) xs k = true := by
      simp only [rsAt, Bool.and_eq_true, decide_eq_true_eq]
      refine ⟨?_, ?_⟩ <;> simp_all <;> omega
     refine Run.region ?_
     refine Run.y (.int .i64 ((((k : Nat) : Int)) + 1)) rfl (OpY.add rfl rfl rfl (by omega) (by omega)) ?_
     refine Run.p (.int .i64 ((((k : Nat) : Int)) + 1)) rfl rfl ?_
     refine Run.done ?_
     refine Run.goal ⟨(by repeat (first | exact Same.refl _ _ | refine Same.put rfl ?_ | refine Same.over rfl rfl ?_)), k + 1, ?_, ?_, ?_, ?_⟩
     ·refine ⟨by omega, ?_⟩
      intro i hi
      rcases Nat.lt_succ_iff_lt_or_eq.1 hi with h | h
      ·exact hinv.2 i h
      ·rw [h]; exact hgood
     ·omega
     ·exact ⟨(by first | rfl | (congr 1; omega) | simp), trivial⟩
     ·exact (Some'.weak (.nil _))
  ·have p10 := h10; try simp only [bs] at p10
   have hknk : k = k0 := by omega
   have hres : allI (rsAt 0 ((n : Int) - 1) xs) k0 = true := allI_iff.2 (by rw [← hknk]; exact hinv.2)
   refine Run.exit rfl ?_
   refine Run.sr ?_
   refine Run.p (.bool true) rfl rfl ?_
   refine Run.done ?_
   refine Run.ret ?_
   refine ⟨.bool true, [], Out.one rfl rfl, (Some'.weak (.nil _)), ?_⟩
   show _ = _; rw [risB_rs, hres]

set_option maxHeartbeats 1000000 in
set_option maxRecDepth 20000 in
theorem l1Rising_spec {va : Value} {n : Nat} {xs : List Int} {lo hi : Int} {w : World} (ha : Sl w va 1 n (ints xs)) : Calls Try.prog 56 #[va, .int .i64 lo, .int .i64 hi] w (Post No w fun v _ => v = .bool (allI (rsAt lo hi xs) n)) := by
 have hxl := ha.len
 have hn := ha.le
 obtain ⟨A, c, rfl, _, _⟩ := ha.form0
 refine enter (n := 35) (args := [.slice A n c, .int .i64 lo, .int .i64 hi]) Try.func56 rfl rfl (St.empty _ _) ?_
 refine Run.sr ?_
 refine Run.p (.bool false) rfl rfl ?_
 refine Run.done ?_
 refine Run.seq ?_
 refine Run.sr ?_
 refine Run.p (.slice A n c) rfl rfl ?_
 refine Run.y (.int .i64 (((n : Nat) : Int))) rfl (OpY.len Tsl_24 rfl) ?_
 refine Run.p (.int .i64 0) rfl rfl ?_
 refine Run.done ?_
 refine Run.block ?_
 refine Run.loop (ι := Nat) [6, 7, 8, 11, 12, 13, 14, 15, 16, 17, 18, 19, 20, 21, 22, 23, 24, 25, 26, 27, 28, 29, 30, 31, 32, 33, 34] (fun k => [(11, .int .i64 (((k : Nat) : Int)))]) (fun k => []) (fun k => k ≤ n ∧ (∀ i, i < k → rsAt lo hi xs i = true)) (fun k => n - k) 0 ?_ ?_ ?_ ?_
 ·exact ⟨Nat.zero_le _, by first | trivial | (intro i hi; omega)⟩
 ·exact ⟨rfl, trivial⟩
 ·exact (Some'.weak (.nil _))
 ·rintro k fr hinv
  show Run _ _ (over _ _ [(11, .int .i64 (((k : Nat) : Int)))] fr) []
  try dsimp only at hinv
  refine Run.sr ?_
  refine Run.p (.bool (decide ((((k : Nat) : Int)) < (((n : Nat) : Int))))) rfl rfl ?_
  refine Run.done ?_
  refine Run.seq ?_
  refine Run.cond (b := decide ((((k : Nat) : Int)) < (((n : Nat) : Int)))) rfl (fun h12 => ?_) (fun h12 => ?_)
  ·have p12 := h12; try simp only [bs] at p12
   have hltk : k < n := by omega
   obtain ⟨b, o, rfl⟩ := ha.opn (by omega)
   refine Run.skip ?_
   refine Run.seq ?_
   refine Run.block ?_
   refine Run.sr ?_
   refine Run.p (.int .i64 (((k : Nat) : Int))) rfl rfl ?_
   refine Run.y (.pointer (some ⟨b, o + k, none⟩)) rfl (OpY.index (kk := k) Tsl_24 rfl rfl (by omega) (by omega) (by first | rfl | omega)) ?_
   refine Run.y (.int .i64 (ix xs (k))) rfl (OpY.load1 Tone_3 rfl (Cells.arg (k := k) ha rfl (by omega) (pre1 (by omega)))) ?_
   refine Run.p (.int .i64 (((k : Nat) : Int))) rfl rfl ?_
   refine Run.p (.int .i64 (ix xs (k))) rfl rfl ?_
   refine Run.dsr ?_
   refine Run.p (.int .i64 (ix xs (k))) rfl rfl ?_
   refine Run.p (.int .i64 lo) rfl rfl ?_
   refine Run.p (.int .i64 hi) rfl rfl ?_
   refine Run.q (v := .bool (within (ix xs k) lo hi)) rfl (OpQ.call (vs := [.int .i64 (ix xs (k)), .int .i64 lo, .int .i64 hi]) (caps := []) Tcall_55 rfl rfl (fun w hs => l1In_spec _ _ _ w)) ?_
   refine Run.p (.bool (!(within (ix xs k) lo hi))) rfl rfl ?_
   rcases Bool.eq_false_or_eq_true (!(within (ix xs k) lo hi)) with h21 | h21
   ·refine Run.q (v := .bool true) rfl (OpQ.y (OpY.moveB rfl h21)) ?_
    have p21 := h21; try simp only [bs] at p21
    refine Run.pass rfl ?_
    refine Run.pass rfl ?_
    refine Run.pass rfl ?_
    refine Run.pass rfl ?_
    refine Run.pass rfl ?_
    refine Run.pass rfl ?_
    refine Run.pass rfl ?_
    refine Run.pass rfl ?_
    refine Run.pass rfl ?_
    refine Run.pass rfl ?_
    refine Run.pass rfl ?_
    refine Run.p (.bool true) rfl rfl ?_
    refine Run.done ?_
    refine Run.cond (b := true) rfl (fun _ => ?_) (fun h => nomatch h)
    refine Run.seq ?_
    have hres : allI (rsAt lo hi xs) n = false := by
     refine allI_false hltk ?_
     simp only [rsAt, Bool.and_eq_false_iff, decide_eq_false_iff_not]
     simp_all <;> omega
    refine Run.region ?_
    refine Run.p (.bool false) rfl rfl ?_
    refine Run.done ?_
    refine Run.ret ?_
    refine ⟨.bool false, [], Out.one rfl rfl, (Some'.weak (.nil _)), ?_⟩
    show _ = _; rw [hres]
   ·refine Run.q (v := .bool false) rfl (OpQ.y (OpY.moveB rfl h21)) ?_
    have p21 := h21; try simp only [bs] at p21
    refine Run.p (.int .i64 (((k : Nat) : Int))) rfl rfl ?_
    refine Run.p (.bool (decide ((((k : Nat) : Int)) > 0))) rfl rfl ?_
    rcases Bool.eq_false_or_eq_true (decide ((((k : Nat) : Int)) > 0)) with h24 | h24
    ·refine Run.q (v := .bool true) rfl (OpQ.y (OpY.moveB rfl h24)) ?_
     have p24 := h24; try simp only [bs] at p24
     refine Run.p (.slice (some ⟨b, o, none⟩) n c) rfl rfl ?_
     refine Run.p (.int .i64 (((k : Nat) : Int))) rfl rfl ?_
     refine Run.y (.int .i64 ((((k : Nat) : Int)) - 1)) rfl (OpY.sub rfl rfl rfl (by omega) (by omega)) ?_
     refine Run.y (.pointer (some ⟨b, o + (k - 1), none⟩)) rfl (OpY.index (kk := (k - 1)) Tsl_24 rfl rfl (by omega) (by omega) (by first | rfl | omega)) ?_
     refine Run.y (.int .i64 (ix xs ((k - 1)))) rfl (OpY.load1 Tone_3 rfl (Cells.arg (k := (k - 1)) ha rfl (by omega) (pre1 (by omega)))) ?_
     refine Run.p (.int .i64 (ix xs (k))) rfl rfl ?_
     refine Run.p (.bool (decide ((ix xs ((k - 1))) ≥ (ix xs (k))))) rfl rfl ?_
     refine Run.p (.bool (decide ((ix xs ((k - 1))) ≥ (ix xs (k))))) rfl rfl ?_
     refine Run.p (.bool (decide ((ix xs ((k - 1))) ≥ (ix xs (k))))) rfl rfl ?_
     refine Run.done ?_
     refine Run.cond (b := decide ((ix xs ((k - 1))) ≥ (ix xs (k)))) rfl (fun h33 => ?_) (fun h33 => ?_)
     ·have p33 := h33; try simp only [bs] at p33
      refine Run.seq ?_
      have hres : allI (rsAt lo hi xs) n = false := by
       refine allI_false hltk ?_
       simp only [rsAt, Bool.and_eq_false_iff, decide_eq_false_iff_not]
       simp_all <;> omega
      refine Run.region ?_
      refine Run.p (.bool false) rfl rfl ?_
      refine Run.done ?_
      refine Run.ret ?_
      refine ⟨.bool false, [], Out.one rfl rfl, (Some'.weak (.nil _)), ?_⟩
      show _ = _; rw [hres]
     ·have p33 := h33; try simp only [bs] at p33
      refine Run.skip ?_
      refine Run.blockEnd ?_
      have hgood : rsAt lo hi xs k = true := by
       simp only [rsAt, Bool.and_eq_true, decide_eq_true_eq]
       refine ⟨?_, ?_⟩ <;> simp_all <;> omega
      refine Run.region ?_
      refine Run.y (.int .i64 ((((k : Nat) : Int)) + 1)) rfl (OpY.add rfl rfl rfl (by omega) (by omega)) ?_
      refine Run.p (.int .i64 ((((k : Nat) : Int)) + 1)) rfl rfl ?_
      refine Run.done ?_
      refine Run.goal ⟨(by repeat (first | exact Same.refl _ _ | refine Same.put rfl ?_ | refine Same.over rfl rfl ?_)), k + 1, ?_, ?_, ?_, ?_⟩
      ·refine ⟨by omega, ?_⟩
       intro i hi
       rcases Nat.lt_succ_iff_lt_or_eq.1 hi with h | h
       ·exact hinv.2 i h
       ·rw [h]; exact hgood
      ·omega
      ·exact ⟨(by first | rfl | (congr 1; omega) | simp), trivial⟩
      ·exact (Some'.weak (.nil _))
    ·refine Run.q (v := .bool false) rfl (OpQ.y (OpY.moveB rfl h24)) ?_
     have p24 := h24; try simp only [bs] at p24
     refine Run.pass rfl ?_
     refine Run.pass rfl ?_
     refine Run.pass rfl ?_
     refine Run.pass rfl ?_
     refine Run.pass rfl ?_
     refine Run.pass rfl ?_
     refine Run.pass rfl ?_
     refine Run.p (.bool false) rfl rfl ?_
     refine Run.p (.bool false) rfl rfl ?_
     refine Run.done ?_
     refine Run.cond (b := false) rfl (fun h => nomatch h) (fun _ => ?_)
     refine Run.skip ?_
     refine Run.blockEnd ?_
     have hgood : rsAt lo hi xs k = true := by
      simp only [rsAt, Bool.and_eq_true, decide_eq_true_eq]
      refine ⟨?_, ?_⟩ <;> simp_all <;> omega
     refine Run.region ?_
     refine Run.y (.int .i64 ((((k : Nat) : Int)) + 1)) rfl (OpY.add rfl rfl rfl (by omega) (by omega)) ?_
     refine Run.p (.int .i64 ((((k : Nat) : Int)) + 1)) rfl rfl ?_
     refine Run.done ?_
     refine Run.goal ⟨(by repeat (first | exact Same.refl _ _ | refine Same.put rfl ?_ | refine Same.over rfl rfl ?_)), k + 1, ?_, ?_, ?_, ?_⟩
     ·refine ⟨by omega, ?_⟩
      intro i hi
      rcases Nat.lt_succ_iff_lt_or_eq.1 hi with h | h
      ·exact hinv.2 i h
      ·rw [h]; exact hgood
     ·omega
     ·exact ⟨(by first | rfl | (congr 1; omega) | simp), trivial⟩
     ·exact (Some'.weak (.nil _))
  ·have p12 := h12; try simp only [bs] at p12
   have hknk : k = n := by omega
   have hres : allI (rsAt lo hi xs) n = true := allI_iff.2 (by rw [← hknk]; exact hinv.2)
   refine Run.exit rfl ?_
   refine Run.sr ?_
   refine Run.p (.bool true) rfl rfl ?_
   refine Run.done ?_
   refine Run.ret ?_
   refine ⟨.bool true, [], Out.one rfl rfl, (Some'.weak (.nil _)), ?_⟩
   show _ = _; rw [hres]

set_option maxHeartbeats 1000000 in
set_option maxRecDepth 20000 in
theorem IsValidOpenGraph_spec {ve vi vo : Value} {n m ni no : Nat} {es is os : List Int} {w : World} (hn11 : n ≤ 11) (he : Sl w ve 2 m (ints es)) (hi : Sl w vi 1 ni (ints is)) (ho : Sl w vo 1 no (ints os)) : Calls Try.prog 24 #[.agg #[.int .i64 (n : Int), ve, vi, vo]] w (Post No w fun v _ => v = .bool (ogB n es m is ni os no)) := by
 refine enter (n := 27) (args := [.agg #[.int .i64 (((n : Nat) : Int)), ve, vi, vo]]) Try.func24 rfl rfl (St.empty _ _) ?_
 refine Run.sr ?_
 refine Run.step rfl (OpStep.box (us := [.int .i64 (((n : Nat) : Int)), ve, vi, vo]) rfl fun b1 => ?_)
 refine Run.p (.bool false) rfl rfl ?_
 refine Run.dsr ?_
 refine Run.y (.pointer (some ⟨b1, 0, none⟩)) rfl (OpY.fieldAddr Tfo_26_0 rfl rfl) ?_
 refine Run.y (.int .i64 (((n : Nat) : Int))) rfl (OpY.load1 Tone_3 rfl (Cells.blk (.head _) ⟨rfl, trivial⟩)) ?_
 refine Run.q (v := .bool (within (n : Int) 1 10)) rfl (OpQ.call (vs := [.int .i64 (((n : Nat) : Int)), .int .i64 1, .int .i64 10]) (caps := []) Tcall_48 rfl rfl (fun w hs => within_spec _ _ _ w)) ?_
 rcases Bool.eq_false_or_eq_true (within (n : Int) 1 10) with h6 | h6
 ·refine Run.q (v := .bool true) rfl (OpQ.y (OpY.moveB rfl h6)) ?_
  have p6 := h6; try simp only [bs] at p6
  refine Run.y (.pointer (some ⟨b1, 0, none⟩)) rfl (OpY.fieldAddr Tfo_26_0 rfl rfl) ?_
  refine Run.y (.int .i64 (((n : Nat) : Int))) rfl (OpY.load1 Tone_3 rfl (Cells.blk (.head _) ⟨rfl, trivial⟩)) ?_
  refine Run.y (.pointer (some ⟨b1, 1, none⟩)) rfl (OpY.fieldAddr Tfo_26_1 rfl rfl) ?_
  refine Run.y (ve) rfl (OpY.load1 Tone_23 rfl (Cells.blk (.head _) ⟨rfl, trivial⟩)) ?_
  refine Run.q (v := .bool (edgesOk (n : Int) es m)) rfl (OpQ.call (vs := [.int .i64 (((n : Nat) : Int)), ve]) (caps := []) Tcall_50 rfl rfl (fun w hs => areEdges_spec (hs.sl he))) ?_
  refine Run.p (.bool (edgesOk (n : Int) es m)) rfl rfl ?_
  rcases Bool.eq_false_or_eq_true (edgesOk (n : Int) es m) with h13 | h13
  ·refine Run.q (v := .bool true) rfl (OpQ.y (OpY.moveB rfl h13)) ?_
   have p13 := h13; try simp only [bs] at p13
   refine Run.y (.pointer (some ⟨b1, 2, none⟩)) rfl (OpY.fieldAddr Tfo_26_2 rfl rfl) ?_
   refine Run.y (vi) rfl (OpY.load1 Tone_24 rfl (Cells.blk (.head _) ⟨rfl, trivial⟩)) ?_
   refine Run.y (.pointer (some ⟨b1, 0, none⟩)) rfl (OpY.fieldAddr Tfo_26_0 rfl rfl) ?_
   refine Run.y (.int .i64 (((n : Nat) : Int))) rfl (OpY.load1 Tone_3 rfl (Cells.blk (.head _) ⟨rfl, trivial⟩)) ?_
   refine Run.q (v := .bool (risB is n ni)) rfl (OpQ.call (vs := [vi, .int .i64 (((n : Nat) : Int))]) (caps := []) Tcall_51 rfl rfl (fun w hs => isIncreasing_spec (by omega) (hs.sl hi))) ?_
   refine Run.p (.bool (risB is n ni)) rfl rfl ?_
   rcases Bool.eq_false_or_eq_true (risB is n ni) with h20 | h20
   ·refine Run.q (v := .bool true) rfl (OpQ.y (OpY.moveB rfl h20)) ?_
    have p20 := h20; try simp only [bs] at p20
    refine Run.y (.pointer (some ⟨b1, 3, none⟩)) rfl (OpY.fieldAddr Tfo_26_3 rfl rfl) ?_
    refine Run.y (vo) rfl (OpY.load1 Tone_24 rfl (Cells.blk (.head _) ⟨rfl, trivial⟩)) ?_
    refine Run.y (.pointer (some ⟨b1, 0, none⟩)) rfl (OpY.fieldAddr Tfo_26_0 rfl rfl) ?_
    refine Run.y (.int .i64 (((n : Nat) : Int))) rfl (OpY.load1 Tone_3 rfl (Cells.blk (.head _) ⟨rfl, trivial⟩)) ?_
    refine Run.q (v := .bool (risB os n no)) rfl (OpQ.call (vs := [vo, .int .i64 (((n : Nat) : Int))]) (caps := []) Tcall_51 rfl rfl (fun w hs => isIncreasing_spec (by omega) (hs.sl ho))) ?_
    refine Run.p (.bool (risB os n no)) rfl rfl ?_
    refine Run.p (.bool (risB os n no)) rfl rfl ?_
    refine Run.done ?_
    refine Run.ret ?_
    refine ⟨.bool (risB os n no), [], Out.one rfl rfl, (Some'.weak (.nil _)), ?_⟩
    show _ = _; simp_all [ogB]
   ·refine Run.q (v := .bool false) rfl (OpQ.y (OpY.moveB rfl h20)) ?_
    have p20 := h20; try simp only [bs] at p20
    refine Run.pass rfl ?_
    refine Run.pass rfl ?_
    refine Run.pass rfl ?_
    refine Run.pass rfl ?_
    refine Run.pass rfl ?_
    refine Run.p (.bool false) rfl rfl ?_
    refine Run.p (.bool false) rfl rfl ?_
    refine Run.done ?_
    refine Run.ret ?_
    refine ⟨.bool false, [], Out.one rfl rfl, (Some'.weak (.nil _)), ?_⟩
    show _ = _; simp_all [ogB]
  ·refine Run.q (v := .bool false) rfl (OpQ.y (OpY.moveB rfl h13)) ?_
   have p13 := h13; try simp only [bs] at p13
   refine Run.pass rfl ?_
   refine Run.pass rfl ?_
   refine Run.pass rfl ?_
   refine Run.pass rfl ?_
   refine Run.pass rfl ?_
   refine Run.p (.bool false) rfl rfl ?_
   refine Run.p (.bool false) rfl rfl ?_
   refine Run.pass rfl ?_
   refine Run.pass rfl ?_
   refine Run.pass rfl ?_
   refine Run.pass rfl ?_
   refine Run.pass rfl ?_
   refine Run.p (.bool false) rfl rfl ?_
   refine Run.p (.bool false) rfl rfl ?_
   refine Run.done ?_
   refine Run.ret ?_
   refine ⟨.bool false, [], Out.one rfl rfl, (Some'.weak (.nil _)), ?_⟩
   show _ = _; simp_all [ogB]
 ·refine Run.q (v := .bool false) rfl (OpQ.y (OpY.moveB rfl h6)) ?_
  have p6 := h6; try simp only [bs] at p6
  refine Run.pass rfl ?_
  refine Run.pass rfl ?_
  refine Run.pass rfl ?_
  refine Run.pass rfl ?_
  refine Run.pass rfl ?_
  refine Run.p (.bool false) rfl rfl ?_
  refine Run.p (.bool false) rfl rfl ?_
  refine Run.pass rfl ?_
  refine Run.pass rfl ?_
  refine Run.pass rfl ?_
  refine Run.pass rfl ?_
  refine Run.pass rfl ?_
  refine Run.p (.bool false) rfl rfl ?_
  refine Run.p (.bool false) rfl rfl ?_
  refine Run.pass rfl ?_
  refine Run.pass rfl ?_
  refine Run.pass rfl ?_
  refine Run.pass rfl ?_
  refine Run.pass rfl ?_
  refine Run.p (.bool false) rfl rfl ?_
  refine Run.p (.bool false) rfl rfl ?_
  refine Run.done ?_
  refine Run.ret ?_
  refine ⟨.bool false, [], Out.one rfl rfl, (Some'.weak (.nil _)), ?_⟩
  show _ = _; simp_all [ogB]

set_option maxHeartbeats 1000000 in
set_option maxRecDepth 20000 in
theorem l19Good_spec {ve vi vo : Value} {n m ni no : Nat} {es is os : List Int} {w : World} (hn11 : n ≤ 11) (he : Sl w ve 2 m (ints es)) (hi : Sl w vi 1 ni (ints is)) (ho : Sl w vo 1 no (ints os)) (hsm : ∀ x ∈ es, 0 ≤ x ∧ x ≤ 100) : Calls Try.prog 32 #[.agg #[.int .i64 (n : Int), ve, vi, vo]] w (Post No w fun v _ => v = .bool (ogB n es m is ni os no)) := by
 have hxl := he.len
 have hem := he.le
 obtain ⟨Ae, ce, rfl, _, _⟩ := he.form0
 refine enter (n := 66) (args := [.agg #[.int .i64 (((n : Nat) : Int)), .slice Ae m ce, vi, vo]]) Try.func32 rfl rfl (St.empty _ _) ?_
 refine Run.sr ?_
 refine Run.step rfl (OpStep.box (us := [.int .i64 (((n : Nat) : Int)), .slice Ae m ce, vi, vo]) rfl fun b1 => ?_)
 refine Run.p (.bool false) rfl rfl ?_
 refine Run.done ?_
 refine Run.seq ?_
 refine Run.sr ?_
 refine Run.y (.pointer (some ⟨b1, 0, none⟩)) rfl (OpY.fieldAddr Tfo_26_0 rfl rfl) ?_
 refine Run.y (.int .i64 (((n : Nat) : Int))) rfl (OpY.load1 Tone_3 rfl (Cells.blk (.head _) ⟨rfl, trivial⟩)) ?_
 refine Run.q (v := .bool (within (((n : Nat) : Int)) 1 10)) rfl (OpQ.call (vs := [.int .i64 (((n : Nat) : Int)), .int .i64 1, .int .i64 10]) (caps := []) Tcall_55 rfl rfl (fun w hs => l1In_spec _ _ _ w)) ?_
 refine Run.p (.bool (!(within (((n : Nat) : Int)) 1 10))) rfl rfl ?_
 rcases Bool.eq_false_or_eq_true (!(within (((n : Nat) : Int)) 1 10)) with h10 | h10
 ·refine Run.q (v := .bool true) rfl (OpQ.y (OpY.moveB rfl h10)) ?_
  have p10 := h10; try simp only [bs] at p10
  refine Run.pass rfl ?_
  refine Run.pass rfl ?_
  refine Run.pass rfl ?_
  refine Run.pass rfl ?_
  refine Run.pass rfl ?_
  refine Run.pass rfl ?_
  refine Run.pass rfl ?_
  refine Run.p (.bool true) rfl rfl ?_
  refine Run.p (.bool true) rfl rfl ?_
  refine Run.pass rfl ?_
  refine Run.pass rfl ?_
  refine Run.pass rfl ?_
  refine Run.pass rfl ?_
  refine Run.pass rfl ?_
  refine Run.pass rfl ?_
  refine Run.pass rfl ?_
  refine Run.p (.bool true) rfl rfl ?_
  refine Run.done ?_
  refine Run.cond (b := true) rfl (fun _ => ?_) (fun h => nomatch h)
  refine Run.sr ?_
  refine Run.p (.bool false) rfl rfl ?_
  refine Run.done ?_
  refine Run.ret ?_
  refine ⟨.bool false, [], Out.one rfl rfl, (Some'.weak (.nil _)), ?_⟩
  show _ = _; simp_all [ogB]
 ·refine Run.q (v := .bool false) rfl (OpQ.y (OpY.moveB rfl h10)) ?_
  have p10 := h10; try simp only [bs] at p10
  refine Run.y (.pointer (some ⟨b1, 2, none⟩)) rfl (OpY.fieldAddr Tfo_26_2 rfl rfl) ?_
  refine Run.y (vi) rfl (OpY.load1 Tone_24 rfl (Cells.blk (.head _) ⟨rfl, trivial⟩)) ?_
  refine Run.y (.pointer (some ⟨b1, 0, none⟩)) rfl (OpY.fieldAddr Tfo_26_0 rfl rfl) ?_
  refine Run.y (.int .i64 (((n : Nat) : Int))) rfl (OpY.load1 Tone_3 rfl (Cells.blk (.head _) ⟨rfl, trivial⟩)) ?_
  refine Run.y (.int .i64 ((((n : Nat) : Int)) - 1)) rfl (OpY.sub rfl rfl rfl (by omega) (by omega)) ?_
  refine Run.q (v := .bool (risB is n ni)) rfl (OpQ.call (vs := [vi, .int .i64 0, .int .i64 ((((n : Nat) : Int)) - 1)]) (caps := []) Tcall_56 rfl rfl (fun w hs => (by have h := l1Rising_spec (lo := 0) (hi := (n : Int) - 1) (hs.sl hi); rw [← risB_rs] at h; exact h))) ?_
  refine Run.p (.bool (!(risB is n ni))) rfl rfl ?_
  refine Run.p (.bool (!(risB is n ni))) rfl rfl ?_
  rcases Bool.eq_false_or_eq_true (!(risB is n ni)) with h19 | h19
  ·refine Run.q (v := .bool true) rfl (OpQ.y (OpY.moveB rfl h19)) ?_
   have p19 := h19; try simp only [bs] at p19
   refine Run.pass rfl ?_
   refine Run.pass rfl ?_
   refine Run.pass rfl ?_
   refine Run.pass rfl ?_
   refine Run.pass rfl ?_
   refine Run.pass rfl ?_
   refine Run.pass rfl ?_
   refine Run.p (.bool true) rfl rfl ?_
   refine Run.done ?_
   refine Run.cond (b := true) rfl (fun _ => ?_) (fun h => nomatch h)
   refine Run.sr ?_
   refine Run.p (.bool false) rfl rfl ?_
   refine Run.done ?_
   refine Run.ret ?_
   refine ⟨.bool false, [], Out.one rfl rfl, (Some'.weak (.nil _)), ?_⟩
   show _ = _; simp_all [ogB]
  ·refine Run.q (v := .bool false) rfl (OpQ.y (OpY.moveB rfl h19)) ?_
   have p19 := h19; try simp only [bs] at p19
   refine Run.y (.pointer (some ⟨b1, 3, none⟩)) rfl (OpY.fieldAddr Tfo_26_3 rfl rfl) ?_
   refine Run.y (vo) rfl (OpY.load1 Tone_24 rfl (Cells.blk (.head _) ⟨rfl, trivial⟩)) ?_
   refine Run.y (.pointer (some ⟨b1, 0, none⟩)) rfl (OpY.fieldAddr Tfo_26_0 rfl rfl) ?_
   refine Run.y (.int .i64 (((n : Nat) : Int))) rfl (OpY.load1 Tone_3 rfl (Cells.blk (.head _) ⟨rfl, trivial⟩)) ?_
   refine Run.y (.int .i64 ((((n : Nat) : Int)) - 1)) rfl (OpY.sub rfl rfl rfl (by omega) (by omega)) ?_
   refine Run.q (v := .bool (risB os n no)) rfl (OpQ.call (vs := [vo, .int .i64 0, .int .i64 ((((n : Nat) : Int)) - 1)]) (caps := []) Tcall_56 rfl rfl (fun w hs => (by have h := l1Rising_spec (lo := 0) (hi := (n : Int) - 1) (hs.sl ho); rw [← risB_rs] at h; exact h))) ?_
   refine Run.p (.bool (!(risB os n no))) rfl rfl ?_
   refine Run.p (.bool (!(risB os n no))) rfl rfl ?_
   refine Run.done ?_
   refine Run.cond (b := !(risB os n no)) rfl (fun h27 => ?_) (fun h27 => ?_)
   ·have p27 := h27; try simp only [bs] at p27
    refine Run.sr ?_
    refine Run.p (.bool false) rfl rfl ?_
    refine Run.done ?_
    refine Run.ret ?_
    refine ⟨.bool false, [], Out.one rfl rfl, (Some'.weak (.nil _)), ?_⟩
    show _ = _; simp_all [ogB]
   ·have p27 := h27; try simp only [bs] at p27
    refine Run.skip ?_
    refine Run.sr ?_
    refine Run.p (.int .i64 (-1)) rfl rfl ?_
    refine Run.done ?_
    refine Run.seq ?_
    refine Run.sr ?_
    refine Run.y (.pointer (some ⟨b1, 1, none⟩)) rfl (OpY.fieldAddr Tfo_26_1 rfl rfl) ?_
    refine Run.y (.slice Ae m ce) rfl (OpY.load1 Tone_23 rfl (Cells.blk (.head _) ⟨rfl, trivial⟩)) ?_
    refine Run.y (.int .i64 (((m : Nat) : Int))) rfl (OpY.len Tsl_23 rfl) ?_
    refine Run.p (.int .i64 0) rfl rfl ?_
    refine Run.done ?_
    refine Run.block ?_
    refine Run.loop (ι := Nat × Int) [2, 3, 5, 31, 32, 33, 34, 35, 36, 37, 38, 39, 40, 41, 42, 43, 44, 45, 46, 47, 48, 49, 50, 51, 52, 53, 54, 55, 56, 57, 58, 59, 60, 61, 62, 63, 64, 65] (fun ⟨k, lst⟩ => [(3, .int .i64 lst), (31, .int .i64 (((k : Nat) : Int)))]) (fun ⟨k, lst⟩ => [.blk b1 26 [.int .i64 (((n : Nat) : Int)), .slice Ae m ce, vi, vo]]) (fun ⟨k, lst⟩ => k ≤ m ∧ ((∀ i, i < k → edgeOk (n : Int) es i) ∧ lst = (if k = 0 then -1 else ix es ((k - 1) * 2) * 10 + ix es ((k - 1) * 2 + 1)))) (fun ⟨k, lst⟩ => m - k) (0, -1) ?_ ?_ ?_ ?_
    ·exact ⟨Nat.zero_le _, fun i hi => by omega, rfl⟩
    ·exact ⟨rfl, rfl, trivial⟩
    ·exact (Some'.weak (.take (.nil _)))
    ·rintro ⟨k, lst⟩ fr hinv
     show Run _ _ (over _ _ [(3, .int .i64 lst), (31, .int .i64 (((k : Nat) : Int)))] fr) [.blk b1 26 [.int .i64 (((n : Nat) : Int)), .slice Ae m ce, vi, vo]]
     try dsimp only at hinv
     refine Run.sr ?_
     refine Run.p (.bool (decide ((((k : Nat) : Int)) < (((m : Nat) : Int))))) rfl rfl ?_
     refine Run.done ?_
     refine Run.seq ?_
     refine Run.cond (b := decide ((((k : Nat) : Int)) < (((m : Nat) : Int)))) rfl (fun h32 => ?_) (fun h32 => ?_)
     ·have p32 := h32; try simp only [bs] at p32
      have hltk : k < m := by omega
      obtain ⟨b, o, rfl⟩ := he.opn (by omega)
      have hs0 := hsm _ (ix_mem (show k * 2 < es.length by omega))
      have hs1 := hsm _ (ix_mem (show k * 2 + 1 < es.length by omega))
      have hlst : lst = (if k = 0 then -1 else ix es ((k - 1) * 2) * 10 + ix es ((k - 1) * 2 + 1)) := hinv.2.2
      have hprev : 0 < k → edgeOk (n : Int) es (k - 1) := fun h0 => hinv.2.1 (k - 1) (by omega)
      refine Run.skip ?_
      refine Run.seq ?_
      refine Run.block ?_
      refine Run.sr ?_
      refine Run.y (.pointer (some ⟨b, o + k * 2, none⟩)) rfl (OpY.index (kk := k) Tsl_23 rfl rfl (by omega) (by omega) (by first | rfl | omega)) ?_
      refine Run.y (.agg #[.int .i64 (ix es (k * 2)), .int .i64 (ix es (k * 2 + 1))]) rfl (OpY.loadN (cs := [.int .i64 (ix es (k * 2)), .int .i64 (ix es (k * 2 + 1))]) Tagg_80 rfl (Cells.arg (k := k * 2) he rfl (by omega) (pre2 (by omega)))) ?_
      refine Run.step rfl (OpStep.alloc (zs := [.int .i64 0, .int .i64 0]) Tzero_80 fun b2 => ?_)
      refine Run.step rfl (OpStep.storeAll (us := [.int .i64 (ix es (k * 2)), .int .i64 (ix es (k * 2 + 1))]) Tsize_80 rfl rfl rfl (.here _) rfl ?_)
      refine Run.done ?_
      refine Run.seq ?_
      refine Run.sr ?_
      refine Run.y (.pointer (some ⟨b2, 0, none⟩)) rfl (OpY.fieldAddr Tfo_80_0 rfl rfl) ?_
      refine Run.y (.int .i64 (ix es (k * 2))) rfl (OpY.load1 Tone_3 rfl (Cells.blk (.head _) ⟨rfl, trivial⟩)) ?_
      refine Run.y (.pointer (some ⟨b2, 1, none⟩)) rfl (OpY.fieldAddr Tfo_80_1 rfl rfl) ?_
      refine Run.y (.int .i64 (ix es (k * 2 + 1))) rfl (OpY.load1 Tone_3 rfl (Cells.blk (.head _) ⟨rfl, trivial⟩)) ?_
      refine Run.y (.int .i64 ((ix es (k * 2 + 1)) - 1)) rfl (OpY.sub rfl rfl rfl (by omega) (by omega)) ?_
      refine Run.q (v := .bool (within (ix es (k * 2)) 0 ((ix es (k * 2 + 1)) - 1))) rfl (OpQ.call (vs := [.int .i64 (ix es (k * 2)), .int .i64 0, .int .i64 ((ix es (k * 2 + 1)) - 1)]) (caps := []) Tcall_55 rfl rfl (fun w hs => l1In_spec _ _ _ w)) ?_
      refine Run.p (.bool (!(within (ix es (k * 2)) 0 ((ix es (k * 2 + 1)) - 1)))) rfl rfl ?_
      rcases Bool.eq_false_or_eq_true (!(within (ix es (k * 2)) 0 ((ix es (k * 2 + 1)) - 1))) with h42 | h42
      ·refine Run.q (v := .bool true) rfl (OpQ.y (OpY.moveB rfl h42)) ?_
       have p42 := h42; try simp only [bs] at p42
       refine Run.pass rfl ?_
       refine Run.pass rfl ?_
       refine Run.pass rfl ?_
       refine Run.pass rfl ?_
       refine Run.pass rfl ?_
       refine Run.p (.bool true) rfl rfl ?_
       refine Run.p (.bool true) rfl rfl ?_
       refine Run.pass rfl ?_
       refine Run.pass rfl ?_
       refine Run.pass rfl ?_
       refine Run.pass rfl ?_
       refine Run.pass rfl ?_
       refine Run.pass rfl ?_
       refine Run.pass rfl ?_
       refine Run.pass rfl ?_
       refine Run.p (.bool true) rfl rfl ?_
       refine Run.done ?_
       refine Run.cond (b := true) rfl (fun _ => ?_) (fun h => nomatch h)
       refine Run.seq ?_
       have hbad : edgesOk (n : Int) es m = false := by
        simp only [edgesOk, decide_eq_false_iff_not]; intro h; have h1 := h k hltk
        have hw10 : within (n : Int) 1 10 = true := by simp_all
        rw [within_iff] at hw10
        by_cases hk0 : k = 0
        ·rw [if_pos hk0] at hlst
         simp only [edgeOk, within, Bool.and_eq_false_iff, Bool.and_eq_true, decide_eq_true_eq, decide_eq_false_iff_not, Bool.not_eq_true', Bool.not_eq_false'] at *; omega
        ·rw [if_neg hk0] at hlst
         have h2 := hprev (by omega)
         simp only [edgeOk, within, Bool.and_eq_false_iff, Bool.and_eq_true, decide_eq_true_eq, decide_eq_false_iff_not, Bool.not_eq_true', Bool.not_eq_false'] at *; omega
       refine Run.region ?_
       refine Run.p (.bool false) rfl rfl ?_
       refine Run.done ?_
       refine Run.ret ?_
       refine ⟨.bool false, [], Out.one rfl rfl, (Some'.weak (.nil _)), ?_⟩
       show _ = _; simp_all [ogB]
      ·refine Run.q (v := .bool false) rfl (OpQ.y (OpY.moveB rfl h42)) ?_
       have p42 := h42; try simp only [bs] at p42
       refine Run.y (.pointer (some ⟨b2, 1, none⟩)) rfl (OpY.fieldAddr Tfo_80_1 rfl rfl) ?_
       refine Run.y (.int .i64 (ix es (k * 2 + 1))) rfl (OpY.load1 Tone_3 rfl (Cells.blk (.head _) ⟨rfl, trivial⟩)) ?_
       refine Run.y (.pointer (some ⟨b1, 0, none⟩)) rfl (OpY.fieldAddr Tfo_26_0 rfl rfl) ?_
       refine Run.y (.int .i64 (((n : Nat) : Int))) rfl (OpY.load1 Tone_3 rfl (Cells.blk (.tail _ (List.Mem.head _)) ⟨rfl, trivial⟩)) ?_
       refine Run.p (.bool (decide ((ix es (k * 2 + 1)) ≥ (((n : Nat) : Int))))) rfl rfl ?_
       refine Run.p (.bool (decide ((ix es (k * 2 + 1)) ≥ (((n : Nat) : Int))))) rfl rfl ?_
       rcases Bool.eq_false_or_eq_true (decide ((ix es (k * 2 + 1)) ≥ (((n : Nat) : Int)))) with h49 | h49
       ·refine Run.q (v := .bool true) rfl (OpQ.y (OpY.moveB rfl h49)) ?_
        have p49 := h49; try simp only [bs] at p49
        refine Run.pass rfl ?_
        refine Run.pass rfl ?_
        refine Run.pass rfl ?_
        refine Run.pass rfl ?_
        refine Run.pass rfl ?_
        refine Run.pass rfl ?_
        refine Run.pass rfl ?_
        refine Run.pass rfl ?_
        refine Run.p (.bool true) rfl rfl ?_
        refine Run.done ?_
        refine Run.cond (b := true) rfl (fun _ => ?_) (fun h => nomatch h)
        refine Run.seq ?_
        have hbad : edgesOk (n : Int) es m = false := by
         simp only [edgesOk, decide_eq_false_iff_not]; intro h; have h1 := h k hltk
         have hw10 : within (n : Int) 1 10 = true := by simp_all
         rw [within_iff] at hw10
         by_cases hk0 : k = 0
         ·rw [if_pos hk0] at hlst
          simp only [edgeOk, within, Bool.and_eq_false_iff, Bool.and_eq_true, decide_eq_true_eq, decide_eq_false_iff_not, Bool.not_eq_true', Bool.not_eq_false'] at *; omega
         ·rw [if_neg hk0] at hlst
          have h2 := hprev (by omega)
          simp only [edgeOk, within, Bool.and_eq_false_iff, Bool.and_eq_true, decide_eq_true_eq, decide_eq_false_iff_not, Bool.not_eq_true', Bool.not_eq_false'] at *; omega
        refine Run.region ?_
        refine Run.p (.bool false) rfl rfl ?_
        refine Run.done ?_
        refine Run.ret ?_
        refine ⟨.bool false, [], Out.one rfl rfl, (Some'.weak (.nil _)), ?_⟩
        show _ = _; simp_all [ogB]
       ·refine Run.q (v := .bool false) rfl (OpQ.y (OpY.moveB rfl h49)) ?_
        have p49 := h49; try simp only [bs] at p49
        refine Run.y (.pointer (some ⟨b2, 0, none⟩)) rfl (OpY.fieldAddr Tfo_80_0 rfl rfl) ?_
        refine Run.y (.int .i64 (ix es (k * 2))) rfl (OpY.load1 Tone_3 rfl (Cells.blk (.head _) ⟨rfl, trivial⟩)) ?_
        refine Run.y (.int .i64 ((ix es (k * 2)) * 10)) rfl (OpY.mul rfl rfl rfl (by omega) (by omega)) ?_
        refine Run.y (.pointer (some ⟨b2, 1, none⟩)) rfl (OpY.fieldAddr Tfo_80_1 rfl rfl) ?_
        refine Run.y (.int .i64 (ix es (k * 2 + 1))) rfl (OpY.load1 Tone_3 rfl (Cells.blk (.head _) ⟨rfl, trivial⟩)) ?_
        refine Run.y (.int .i64 (((ix es (k * 2)) * 10) + (ix es (k * 2 + 1)))) rfl (OpY.add rfl rfl rfl (by omega) (by omega)) ?_
        refine Run.p (.int .i64 lst) rfl rfl ?_
        refine Run.p (.bool (decide ((((ix es (k * 2)) * 10) + (ix es (k * 2 + 1))) ≤ lst))) rfl rfl ?_
        refine Run.p (.bool (decide ((((ix es (k * 2)) * 10) + (ix es (k * 2 + 1))) ≤ lst))) rfl rfl ?_
        refine Run.done ?_
        refine Run.cond (b := decide ((((ix es (k * 2)) * 10) + (ix es (k * 2 + 1))) ≤ lst)) rfl (fun h58 => ?_) (fun h58 => ?_)
        ·have p58 := h58; try simp only [bs] at p58
         refine Run.seq ?_
         have hbad : edgesOk (n : Int) es m = false := by
          simp only [edgesOk, decide_eq_false_iff_not]; intro h; have h1 := h k hltk
          have hw10 : within (n : Int) 1 10 = true := by simp_all
          rw [within_iff] at hw10
          by_cases hk0 : k = 0
          ·rw [if_pos hk0] at hlst
           simp only [edgeOk, within, Bool.and_eq_false_iff, Bool.and_eq_true, decide_eq_true_eq, decide_eq_false_iff_not, Bool.not_eq_true', Bool.not_eq_false'] at *; omega
          ·rw [if_neg hk0] at hlst
           have h2 := hprev (by omega)
           simp only [edgeOk, within, Bool.and_eq_false_iff, Bool.and_eq_true, decide_eq_true_eq, decide_eq_false_iff_not, Bool.not_eq_true', Bool.not_eq_false'] at *; omega
         refine Run.region ?_
         refine Run.p (.bool false) rfl rfl ?_
         refine Run.done ?_
         refine Run.ret ?_
         refine ⟨.bool false, [], Out.one rfl rfl, (Some'.weak (.nil _)), ?_⟩
         show _ = _; simp_all [ogB]
        ·have p58 := h58; try simp only [bs] at p58
         refine Run.skip ?_
         have hgood : edgeOk (n : Int) es k := by
          have hw10 : within (n : Int) 1 10 = true := by simp_all
          rw [within_iff] at hw10
          by_cases hk0 : k = 0
          ·rw [if_pos hk0] at hlst
           simp only [edgeOk, within, Bool.and_eq_false_iff, Bool.and_eq_true, decide_eq_true_eq, decide_eq_false_iff_not, Bool.not_eq_true', Bool.not_eq_false'] at *; omega
          ·rw [if_neg hk0] at hlst
           have h2 := hprev (by omega)
           simp only [edgeOk, within, Bool.and_eq_false_iff, Bool.and_eq_true, decide_eq_true_eq, decide_eq_false_iff_not, Bool.not_eq_true', Bool.not_eq_false'] at *; omega
         refine Run.region ?_
         refine Run.y (.pointer (some ⟨b2, 0, none⟩)) rfl (OpY.fieldAddr Tfo_80_0 rfl rfl) ?_
         refine Run.y (.int .i64 (ix es (k * 2))) rfl (OpY.load1 Tone_3 rfl (Cells.blk (.head _) ⟨rfl, trivial⟩)) ?_
         refine Run.y (.int .i64 ((ix es (k * 2)) * 10)) rfl (OpY.mul rfl rfl rfl (by omega) (by omega)) ?_
         refine Run.y (.pointer (some ⟨b2, 1, none⟩)) rfl (OpY.fieldAddr Tfo_80_1 rfl rfl) ?_
         refine Run.y (.int .i64 (ix es (k * 2 + 1))) rfl (OpY.load1 Tone_3 rfl (Cells.blk (.head _) ⟨rfl, trivial⟩)) ?_
         refine Run.y (.int .i64 (((ix es (k * 2)) * 10) + (ix es (k * 2 + 1)))) rfl (OpY.add rfl rfl rfl (by omega) (by omega)) ?_
         refine Run.p (.int .i64 (((ix es (k * 2)) * 10) + (ix es (k * 2 + 1)))) rfl rfl ?_
         refine Run.done ?_
         refine Run.blockEnd ?_
         refine Run.region ?_
         refine Run.y (.int .i64 ((((k : Nat) : Int)) + 1)) rfl (OpY.add rfl rfl rfl (by omega) (by omega)) ?_
         refine Run.p (.int .i64 ((((k : Nat) : Int)) + 1)) rfl rfl ?_
         refine Run.done ?_
         refine Run.goal ⟨(by repeat (first | exact Same.refl _ _ | refine Same.put rfl ?_ | refine Same.over rfl rfl ?_)), (k + 1, ((ix es (k * 2)) * 10) + (ix es (k * 2 + 1))), ?_, ?_, ?_, ?_⟩
         ·exact ⟨by omega, fun i hi => by
          rcases Nat.lt_succ_iff_lt_or_eq.1 hi with h | h
          ·exact hinv.2.1 i h
          ·rw [h]; exact hgood, by rw [if_neg (by omega), show k + 1 - 1 = k by omega]⟩
         ·show m - (k + 1) < m - k; omega
         ·exact ⟨(by first | rfl | (congr 1; omega) | simp), (by first | rfl | (congr 1; omega) | simp), trivial⟩
         ·exact (Some'.weak (.skip (.takeEq (by first | rfl | simp) (.nil _))))
     ·have p32 := h32; try simp only [bs] at p32
      have hknk : k = m := by omega
      have hall : edgesOk (n : Int) es m = true := by simp only [edgesOk, decide_eq_true_eq]; rw [← hknk]; exact hinv.2.1
      refine Run.exit rfl ?_
      refine Run.sr ?_
      refine Run.p (.bool true) rfl rfl ?_
      refine Run.done ?_
      refine Run.ret ?_
      refine ⟨.bool true, [], Out.one rfl rfl, (Some'.weak (.nil _)), ?_⟩
      show _ = _; simp_all [ogB]

set_option maxHeartbeats 1000000 in
set_option maxRecDepth 20000 in
theorem around_spec {ve vi vo : Value} {n m v : Nat} {es : List Int} {w : World} (hn10 : n ≤ 10) (hes : edgesOk (n : Int) es m = true) (he : Sl w ve 2 m (ints es)) : Calls Try.prog 29 #[.agg #[.int .i64 (n : Int), ve, vi, vo], .int .i64 (v : Int)] w (Post No w fun r _ => r = .int .i64 ((ngK es v m : Nat) : Int)) := by
 have hxl := he.len
 have hem := he.le
 obtain ⟨Ae, ce, rfl, _, _⟩ := he.form0
 refine enter (n := 36) (args := [.agg #[.int .i64 (((n : Nat) : Int)), .slice Ae m ce, vi, vo], .int .i64 (((v : Nat) : Int))]) Try.func29 rfl rfl (St.empty _ _) ?_
 refine Run.sr ?_
 refine Run.step rfl (OpStep.box (us := [.int .i64 (((n : Nat) : Int)), .slice Ae m ce, vi, vo]) rfl fun b1 => ?_)
 refine Run.p (.int .i64 0) rfl rfl ?_
 refine Run.dsr ?_
 refine Run.p (.int .i64 0) rfl rfl ?_
 refine Run.done ?_
 refine Run.seq ?_
 refine Run.sr ?_
 refine Run.y (.pointer (some ⟨b1, 1, none⟩)) rfl (OpY.fieldAddr Tfo_26_1 rfl rfl) ?_
 refine Run.y (.slice Ae m ce) rfl (OpY.load1 Tone_23 rfl (Cells.blk (.head _) ⟨rfl, trivial⟩)) ?_
 refine Run.y (.int .i64 (((m : Nat) : Int))) rfl (OpY.len Tsl_23 rfl) ?_
 refine Run.p (.int .i64 0) rfl rfl ?_
 refine Run.done ?_
 refine Run.block ?_
 refine Run.loop (ι := Nat) [5, 7, 11, 12, 13, 14, 15, 16, 17, 18, 19, 20, 21, 22, 23, 24, 25, 26, 27, 28, 29, 30, 31, 32, 33, 34] (fun k => [(5, .int .i64 (((ngK es v k : Nat) : Int))), (11, .int .i64 (((k : Nat) : Int)))]) (fun k => [.blk b1 26 [.int .i64 (((n : Nat) : Int)), .slice Ae m ce, vi, vo]]) (fun k => k ≤ m ∧ (True)) (fun k => m - k) 0 ?_ ?_ ?_ ?_
 ·exact ⟨Nat.zero_le _, by first | trivial | (intro i hi; omega)⟩
 ·exact ⟨rfl, rfl, trivial⟩
 ·exact (Some'.weak (.take (.nil _)))
 ·rintro k fr hinv
  show Run _ _ (over _ _ [(5, .int .i64 (((ngK es v k : Nat) : Int))), (11, .int .i64 (((k : Nat) : Int)))] fr) [.blk b1 26 [.int .i64 (((n : Nat) : Int)), .slice Ae m ce, vi, vo]]
  try dsimp only at hinv
  refine Run.sr ?_
  refine Run.p (.bool (decide ((((k : Nat) : Int)) < (((m : Nat) : Int))))) rfl rfl ?_
  refine Run.done ?_
  refine Run.seq ?_
  refine Run.cond (b := decide ((((k : Nat) : Int)) < (((m : Nat) : Int)))) rfl (fun h12 => ?_) (fun h12 => ?_)
  ·have p12 := h12; try simp only [bs] at p12
   have hltk : k < m := by omega
   obtain ⟨b, o, rfl⟩ := he.opn (by omega)
   obtain ⟨hA0, hAB, hBn⟩ := edge_at hes hltk
   obtain ⟨ea, hA⟩ : ∃ a : Nat, ix es (k * 2) = (a : Int) := ⟨(ix es (k * 2)).toNat, by omega⟩
   obtain ⟨eb, hB⟩ : ∃ a : Nat, ix es (k * 2 + 1) = (a : Int) := ⟨(ix es (k * 2 + 1)).toNat, by omega⟩
   obtain ⟨qa, hqa, hqa1, hqa2⟩ := pow_q (k := ea) hn10 (by omega)
   obtain ⟨qb, hqb, hqb1, hqb2⟩ := pow_q (k := eb) hn10 (by omega)
   have hng := ng_lt hes v k (by omega)
   have hp10 := pow10 hn10
   refine Run.skip ?_
   refine Run.seq ?_
   refine Run.block ?_
   refine Run.sr ?_
   refine Run.y (.pointer (some ⟨b, o + k * 2, none⟩)) rfl (OpY.index (kk := k) Tsl_23 rfl rfl (by omega) (by omega) (by first | rfl | omega)) ?_
   refine Run.y (.agg #[.int .i64 (ix es (k * 2)), .int .i64 (ix es (k * 2 + 1))]) rfl (OpY.loadN (cs := [.int .i64 (ix es (k * 2)), .int .i64 (ix es (k * 2 + 1))]) Tagg_80 rfl (Cells.arg (k := k * 2) he rfl (by omega) (pre2 (by omega)))) ?_
   refine Run.step rfl (OpStep.alloc (zs := [.int .i64 0, .int .i64 0]) Tzero_80 fun b2 => ?_)
   refine Run.step rfl (OpStep.storeAll (us := [.int .i64 (ix es (k * 2)), .int .i64 (ix es (k * 2 + 1))]) Tsize_80 rfl rfl rfl (.here _) rfl ?_)
   refine Run.dsr ?_
   refine Run.p (.int .i64 (((v : Nat) : Int))) rfl rfl ?_
   refine Run.done ?_
   refine Run.block ?_
   refine Run.sr ?_
   refine Run.y (.pointer (some ⟨b2, 0, none⟩)) rfl (OpY.fieldAddr Tfo_80_0 rfl rfl) ?_
   refine Run.y (.int .i64 (ix es (k * 2))) rfl (OpY.load1 Tone_3 rfl (Cells.blk (.head _) ⟨rfl, trivial⟩)) ?_
   refine Run.p (.bool ((((v : Nat) : Int)) == (ix es (k * 2)))) rfl rfl ?_
   refine Run.p (.bool ((((v : Nat) : Int)) == (ix es (k * 2)))) rfl rfl ?_
   refine Run.done ?_
   refine Run.cond (b := (((v : Nat) : Int)) == (ix es (k * 2))) rfl (fun h16 => ?_) (fun h16 => ?_)
   ·have p16 := h16; try simp only [bs] at p16
    refine Run.region ?_
    refine Run.p (.int .i64 (((ngK es v k : Nat) : Int))) rfl rfl ?_
    refine Run.y (.pointer (some ⟨b2, 1, none⟩)) rfl (OpY.fieldAddr Tfo_80_1 rfl rfl) ?_
    refine Run.y (.int .i64 (ix es (k * 2 + 1))) rfl (OpY.load1 Tone_3 rfl (Cells.blk (.head _) ⟨rfl, trivial⟩)) ?_
    refine Run.y (.int .i64 (((qb : Nat) : Int))) rfl (OpY.shlOne rfl rfl hB (by omega) hqb) ?_
    refine Run.y (.int .i64 (((ngK es v k ||| qb : Nat) : Int))) rfl (OpY.orNat rfl rfl rfl rfl (by omega) (by omega)) ?_
    refine Run.p (.int .i64 (((ngK es v k ||| qb : Nat) : Int))) rfl rfl ?_
    refine Run.done ?_
    refine Run.blockEnd ?_
    refine Run.blockEnd ?_
    refine Run.region ?_
    refine Run.y (.int .i64 ((((k : Nat) : Int)) + 1)) rfl (OpY.add rfl rfl rfl (by omega) (by omega)) ?_
    refine Run.p (.int .i64 ((((k : Nat) : Int)) + 1)) rfl rfl ?_
    refine Run.done ?_
    refine Run.goal ⟨(by repeat (first | exact Same.refl _ _ | refine Same.put rfl ?_ | refine Same.over rfl rfl ?_)), k + 1, ?_, ?_, ?_, ?_⟩
    ·refine ⟨by omega, ?_⟩
     trivial
    ·omega
    ·exact ⟨(by show Value.int _ _ = Value.int _ _; congr 1; rw [ngK]; first | (rw [if_pos (by omega), hB, Int.toNat_natCast, ← hqb]; done) | (rw [if_neg (by omega), if_pos (by omega), hA, Int.toNat_natCast, ← hqa]; done) | (rw [if_neg (by omega), if_neg (by omega)]; done)), (by first | rfl | (congr 1; omega) | simp), trivial⟩
    ·exact (Some'.weak (.skip (.takeEq (by first | rfl | simp) (.nil _))))
   ·have p16 := h16; try simp only [bs] at p16
    refine Run.sr ?_
    refine Run.y (.pointer (some ⟨b2, 1, none⟩)) rfl (OpY.fieldAddr Tfo_80_1 rfl rfl) ?_
    refine Run.y (.int .i64 (ix es (k * 2 + 1))) rfl (OpY.load1 Tone_3 rfl (Cells.blk (.head _) ⟨rfl, trivial⟩)) ?_
    refine Run.p (.bool ((((v : Nat) : Int)) == (ix es (k * 2 + 1)))) rfl rfl ?_
    refine Run.p (.bool ((((v : Nat) : Int)) == (ix es (k * 2 + 1)))) rfl rfl ?_
    refine Run.done ?_
    refine Run.cond (b := (((v : Nat) : Int)) == (ix es (k * 2 + 1))) rfl (fun h25 => ?_) (fun h25 => ?_)
    ·have p25 := h25; try simp only [bs] at p25
     refine Run.region ?_
     refine Run.p (.int .i64 (((ngK es v k : Nat) : Int))) rfl rfl ?_
     refine Run.y (.pointer (some ⟨b2, 0, none⟩)) rfl (OpY.fieldAddr Tfo_80_0 rfl rfl) ?_
     refine Run.y (.int .i64 (ix es (k * 2))) rfl (OpY.load1 Tone_3 rfl (Cells.blk (.head _) ⟨rfl, trivial⟩)) ?_
     refine Run.y (.int .i64 (((qa : Nat) : Int))) rfl (OpY.shlOne rfl rfl hA (by omega) hqa) ?_
     refine Run.y (.int .i64 (((ngK es v k ||| qa : Nat) : Int))) rfl (OpY.orNat rfl rfl rfl rfl (by omega) (by omega)) ?_
     refine Run.p (.int .i64 (((ngK es v k ||| qa : Nat) : Int))) rfl rfl ?_
     refine Run.done ?_
     refine Run.blockEnd ?_
     refine Run.blockEnd ?_
     refine Run.region ?_
     refine Run.y (.int .i64 ((((k : Nat) : Int)) + 1)) rfl (OpY.add rfl rfl rfl (by omega) (by omega)) ?_
     refine Run.p (.int .i64 ((((k : Nat) : Int)) + 1)) rfl rfl ?_
     refine Run.done ?_
     refine Run.goal ⟨(by repeat (first | exact Same.refl _ _ | refine Same.put rfl ?_ | refine Same.over rfl rfl ?_)), k + 1, ?_, ?_, ?_, ?_⟩
     ·refine ⟨by omega, ?_⟩
      trivial
     ·omega
     ·exact ⟨(by show Value.int _ _ = Value.int _ _; congr 1; rw [ngK]; first | (rw [if_pos (by omega), hB, Int.toNat_natCast, ← hqb]; done) | (rw [if_neg (by omega), if_pos (by omega), hA, Int.toNat_natCast, ← hqa]; done) | (rw [if_neg (by omega), if_neg (by omega)]; done)), (by first | rfl | (congr 1; omega) | simp), trivial⟩
     ·exact (Some'.weak (.skip (.takeEq (by first | rfl | simp) (.nil _))))
    ·have p25 := h25; try simp only [bs] at p25
     refine Run.skip ?_
     refine Run.blockEnd ?_
     refine Run.blockEnd ?_
     refine Run.region ?_
     refine Run.y (.int .i64 ((((k : Nat) : Int)) + 1)) rfl (OpY.add rfl rfl rfl (by omega) (by omega)) ?_
     refine Run.p (.int .i64 ((((k : Nat) : Int)) + 1)) rfl rfl ?_
     refine Run.done ?_
     refine Run.goal ⟨(by repeat (first | exact Same.refl _ _ | refine Same.put rfl ?_ | refine Same.over rfl rfl ?_)), k + 1, ?_, ?_, ?_, ?_⟩
     ·refine ⟨by omega, ?_⟩
      trivial
     ·omega
     ·exact ⟨(by show Value.int _ _ = Value.int _ _; congr 1; rw [ngK]; first | (rw [if_pos (by omega), hB, Int.toNat_natCast, ← hqb]; done) | (rw [if_neg (by omega), if_pos (by omega), hA, Int.toNat_natCast, ← hqa]; done) | (rw [if_neg (by omega), if_neg (by omega)]; done)), (by first | rfl | (congr 1; omega) | simp), trivial⟩
     ·exact (Some'.weak (.skip (.takeEq (by first | rfl | simp) (.nil _))))
  ·have p12 := h12; try simp only [bs] at p12
   have hknk : k = m := by omega
   refine Run.exit rfl ?_
   refine Run.sr ?_
   refine Run.p (.int .i64 (((ngK es v k : Nat) : Int))) rfl rfl ?_
   refine Run.p (.int .i64 (((ngK es v k : Nat) : Int))) rfl rfl ?_
   refine Run.done ?_
   refine Run.ret ?_
   refine ⟨.int .i64 (((ngK es v k : Nat) : Int)), [], Out.one rfl rfl, (Some'.weak (.nil _)), ?_⟩
   show _ = _; rw [hknk]

set_option maxHeartbeats 1000000 in
set_option maxRecDepth 20000 in
theorem l19Near_spec {ve vi vo : Value} {n m v : Nat} {es : List Int} {w : World} (hn10 : n ≤ 10) (hes : edgesOk (n : Int) es m = true) (he : Sl w ve 2 m (ints es)) : Calls Try.prog 61 #[.agg #[.int .i64 (n : Int), ve, vi, vo], .int .i64 (v : Int)] w (Post No w fun r _ => r = .int .i64 ((ngK es v m : Nat) : Int)) := by
 have hxl := he.len
 have hem := he.le
 obtain ⟨Ae, ce, rfl, _, _⟩ := he.form0
 refine enter (n := 37) (args := [.agg #[.int .i64 (((n : Nat) : Int)), .slice Ae m ce, vi, vo], .int .i64 (((v : Nat) : Int))]) Try.func61 rfl rfl (St.empty _ _) ?_
 refine Run.sr ?_
 refine Run.step rfl (OpStep.box (us := [.int .i64 (((n : Nat) : Int)), .slice Ae m ce, vi, vo]) rfl fun b1 => ?_)
 refine Run.p (.int .i64 0) rfl rfl ?_
 refine Run.dsr ?_
 refine Run.p (.int .i64 0) rfl rfl ?_
 refine Run.done ?_
 refine Run.seq ?_
 refine Run.sr ?_
 refine Run.y (.pointer (some ⟨b1, 1, none⟩)) rfl (OpY.fieldAddr Tfo_26_1 rfl rfl) ?_
 refine Run.y (.slice Ae m ce) rfl (OpY.load1 Tone_23 rfl (Cells.blk (.head _) ⟨rfl, trivial⟩)) ?_
 refine Run.y (.int .i64 (((m : Nat) : Int))) rfl (OpY.len Tsl_23 rfl) ?_
 refine Run.p (.int .i64 0) rfl rfl ?_
 refine Run.done ?_
 refine Run.block ?_
 refine Run.loop (ι := Nat) [5, 7, 11, 12, 13, 14, 15, 16, 17, 18, 19, 20, 21, 22, 23, 24, 25, 26, 27, 28, 29, 30, 31, 32, 33, 34, 35] (fun k => [(5, .int .i64 (((ngK es v k : Nat) : Int))), (11, .int .i64 (((k : Nat) : Int)))]) (fun k => [.blk b1 26 [.int .i64 (((n : Nat) : Int)), .slice Ae m ce, vi, vo]]) (fun k => k ≤ m ∧ (True)) (fun k => m - k) 0 ?_ ?_ ?_ ?_
 ·exact ⟨Nat.zero_le _, by first | trivial | (intro i hi; omega)⟩
 ·exact ⟨rfl, rfl, trivial⟩
 ·exact (Some'.weak (.take (.nil _)))
 ·rintro k fr hinv
  show Run _ _ (over _ _ [(5, .int .i64 (((ngK es v k : Nat) : Int))), (11, .int .i64 (((k : Nat) : Int)))] fr) [.blk b1 26 [.int .i64 (((n : Nat) : Int)), .slice Ae m ce, vi, vo]]
  try dsimp only at hinv
  refine Run.sr ?_
  refine Run.p (.bool (decide ((((k : Nat) : Int)) < (((m : Nat) : Int))))) rfl rfl ?_
  refine Run.done ?_
  refine Run.seq ?_
  refine Run.cond (b := decide ((((k : Nat) : Int)) < (((m : Nat) : Int)))) rfl (fun h12 => ?_) (fun h12 => ?_)
  ·have p12 := h12; try simp only [bs] at p12
   have hltk : k < m := by omega
   obtain ⟨b, o, rfl⟩ := he.opn (by omega)
   obtain ⟨hA0, hAB, hBn⟩ := edge_at hes hltk
   obtain ⟨ea, hA⟩ : ∃ a : Nat, ix es (k * 2) = (a : Int) := ⟨(ix es (k * 2)).toNat, by omega⟩
   obtain ⟨eb, hB⟩ : ∃ a : Nat, ix es (k * 2 + 1) = (a : Int) := ⟨(ix es (k * 2 + 1)).toNat, by omega⟩
   obtain ⟨qa, hqa, hqa1, hqa2⟩ := pow_q (k := ea) hn10 (by omega)
   obtain ⟨qb, hqb, hqb1, hqb2⟩ := pow_q (k := eb) hn10 (by omega)
   have hng := ng_lt hes v k (by omega)
   have hp10 := pow10 hn10
   refine Run.skip ?_
   refine Run.seq ?_
   refine Run.block ?_
   refine Run.sr ?_
   refine Run.y (.pointer (some ⟨b, o + k * 2, none⟩)) rfl (OpY.index (kk := k) Tsl_23 rfl rfl (by omega) (by omega) (by first | rfl | omega)) ?_
   refine Run.y (.agg #[.int .i64 (ix es (k * 2)), .int .i64 (ix es (k * 2 + 1))]) rfl (OpY.loadN (cs := [.int .i64 (ix es (k * 2)), .int .i64 (ix es (k * 2 + 1))]) Tagg_80 rfl (Cells.arg (k := k * 2) he rfl (by omega) (pre2 (by omega)))) ?_
   refine Run.step rfl (OpStep.alloc (zs := [.int .i64 0, .int .i64 0]) Tzero_80 fun b2 => ?_)
   refine Run.step rfl (OpStep.storeAll (us := [.int .i64 (ix es (k * 2)), .int .i64 (ix es (k * 2 + 1))]) Tsize_80 rfl rfl rfl (.here _) rfl ?_)
   refine Run.done ?_
   refine Run.seq ?_
   refine Run.sr ?_
   refine Run.y (.pointer (some ⟨b2, 0, none⟩)) rfl (OpY.fieldAddr Tfo_80_0 rfl rfl) ?_
   refine Run.y (.int .i64 (ix es (k * 2))) rfl (OpY.load1 Tone_3 rfl (Cells.blk (.head _) ⟨rfl, trivial⟩)) ?_
   refine Run.p (.int .i64 (((v : Nat) : Int))) rfl rfl ?_
   refine Run.p (.bool ((ix es (k * 2)) == (((v : Nat) : Int)))) rfl rfl ?_
   refine Run.done ?_
   refine Run.cond (b := (ix es (k * 2)) == (((v : Nat) : Int))) rfl (fun h18 => ?_) (fun h18 => ?_)
   ·have p18 := h18; try simp only [bs] at p18
    refine Run.region ?_
    refine Run.p (.int .i64 (((ngK es v k : Nat) : Int))) rfl rfl ?_
    refine Run.y (.pointer (some ⟨b2, 1, none⟩)) rfl (OpY.fieldAddr Tfo_80_1 rfl rfl) ?_
    refine Run.y (.int .i64 (ix es (k * 2 + 1))) rfl (OpY.load1 Tone_3 rfl (Cells.blk (.head _) ⟨rfl, trivial⟩)) ?_
    refine Run.y (.int .u64 (((eb : Nat) : Int))) rfl (OpY.convIntEq Tsome_3 Tint_52 rfl (by first | (rw [hB]; rw [IntKind.wrap_u64]; omega) | (rw [hA]; rw [IntKind.wrap_u64]; omega))) ?_
    refine Run.y (.int .i64 (((qb : Nat) : Int))) rfl (OpY.shlOne rfl rfl rfl (by omega) hqb) ?_
    refine Run.y (.int .i64 (((ngK es v k ||| qb : Nat) : Int))) rfl (OpY.orNat rfl rfl rfl rfl (by omega) (by omega)) ?_
    refine Run.p (.int .i64 (((ngK es v k ||| qb : Nat) : Int))) rfl rfl ?_
    refine Run.dsr ?_
    refine Run.y (.pointer (some ⟨b2, 1, none⟩)) rfl (OpY.fieldAddr Tfo_80_1 rfl rfl) ?_
    refine Run.y (.int .i64 (ix es (k * 2 + 1))) rfl (OpY.load1 Tone_3 rfl (Cells.blk (.head _) ⟨rfl, trivial⟩)) ?_
    refine Run.p (.int .i64 (((v : Nat) : Int))) rfl rfl ?_
    refine Run.p (.bool ((ix es (k * 2 + 1)) == (((v : Nat) : Int)))) rfl rfl ?_
    refine Run.done ?_
    refine Run.cond (b := (ix es (k * 2 + 1)) == (((v : Nat) : Int))) rfl (fun h28 => ?_) (fun h28 => ?_)
    ·have p28 := h28; try simp only [bs] at p28
     exfalso
     omega --DONE
    ·have p28 := h28; try simp only [bs] at p28
     refine Run.skip ?_
     refine Run.blockEnd ?_
     refine Run.region ?_
     refine Run.y (.int .i64 ((((k : Nat) : Int)) + 1)) rfl (OpY.add rfl rfl rfl (by omega) (by omega)) ?_
     refine Run.p (.int .i64 ((((k : Nat) : Int)) + 1)) rfl rfl ?_
     refine Run.done ?_
     refine Run.goal ⟨(by repeat (first | exact Same.refl _ _ | refine Same.put rfl ?_ | refine Same.over rfl rfl ?_)), k + 1, ?_, ?_, ?_, ?_⟩
     ·refine ⟨by omega, ?_⟩
      trivial
     ·omega
     ·exact ⟨(by show Value.int _ _ = Value.int _ _; congr 1; rw [ngK]; first | (rw [if_pos (by omega), hB, Int.toNat_natCast, ← hqb]; done) | (rw [if_neg (by omega), if_pos (by omega), hA, Int.toNat_natCast, ← hqa]; done) | (rw [if_neg (by omega), if_neg (by omega)]; done)), (by first | rfl | (congr 1; omega) | simp), trivial⟩
     ·exact (Some'.weak (.skip (.takeEq (by first | rfl | simp) (.nil _))))
   ·have p18 := h18; try simp only [bs] at p18
    refine Run.skip ?_
    refine Run.sr ?_
    refine Run.y (.pointer (some ⟨b2, 1, none⟩)) rfl (OpY.fieldAddr Tfo_80_1 rfl rfl) ?_
    refine Run.y (.int .i64 (ix es (k * 2 + 1))) rfl (OpY.load1 Tone_3 rfl (Cells.blk (.head _) ⟨rfl, trivial⟩)) ?_
    refine Run.p (.int .i64 (((v : Nat) : Int))) rfl rfl ?_
    refine Run.p (.bool ((ix es (k * 2 + 1)) == (((v : Nat) : Int)))) rfl rfl ?_
    refine Run.done ?_
    refine Run.cond (b := (ix es (k * 2 + 1)) == (((v : Nat) : Int))) rfl (fun h28 => ?_) (fun h28 => ?_)
    ·have p28 := h28; try simp only [bs] at p28
     refine Run.region ?_
     refine Run.p (.int .i64 (((ngK es v k : Nat) : Int))) rfl rfl ?_
     refine Run.y (.pointer (some ⟨b2, 0, none⟩)) rfl (OpY.fieldAddr Tfo_80_0 rfl rfl) ?_
     refine Run.y (.int .i64 (ix es (k * 2))) rfl (OpY.load1 Tone_3 rfl (Cells.blk (.head _) ⟨rfl, trivial⟩)) ?_
     refine Run.y (.int .u64 (((ea : Nat) : Int))) rfl (OpY.convIntEq Tsome_3 Tint_52 rfl (by first | (rw [hB]; rw [IntKind.wrap_u64]; omega) | (rw [hA]; rw [IntKind.wrap_u64]; omega))) ?_
     refine Run.y (.int .i64 (((qa : Nat) : Int))) rfl (OpY.shlOne rfl rfl rfl (by omega) hqa) ?_
     refine Run.y (.int .i64 (((ngK es v k ||| qa : Nat) : Int))) rfl (OpY.orNat rfl rfl rfl rfl (by omega) (by omega)) ?_
     refine Run.p (.int .i64 (((ngK es v k ||| qa : Nat) : Int))) rfl rfl ?_
     refine Run.done ?_
     refine Run.blockEnd ?_
     refine Run.region ?_
     refine Run.y (.int .i64 ((((k : Nat) : Int)) + 1)) rfl (OpY.add rfl rfl rfl (by omega) (by omega)) ?_
     refine Run.p (.int .i64 ((((k : Nat) : Int)) + 1)) rfl rfl ?_
     refine Run.done ?_
     refine Run.goal ⟨(by repeat (first | exact Same.refl _ _ | refine Same.put rfl ?_ | refine Same.over rfl rfl ?_)), k + 1, ?_, ?_, ?_, ?_⟩
     ·refine ⟨by omega, ?_⟩
      trivial
     ·omega
     ·exact ⟨(by show Value.int _ _ = Value.int _ _; congr 1; rw [ngK]; first | (rw [if_pos (by omega), hB, Int.toNat_natCast, ← hqb]; done) | (rw [if_neg (by omega), if_pos (by omega), hA, Int.toNat_natCast, ← hqa]; done) | (rw [if_neg (by omega), if_neg (by omega)]; done)), (by first | rfl | (congr 1; omega) | simp), trivial⟩
     ·exact (Some'.weak (.skip (.takeEq (by first | rfl | simp) (.nil _))))
    ·have p28 := h28; try simp only [bs] at p28
     refine Run.skip ?_
     refine Run.blockEnd ?_
     refine Run.region ?_
     refine Run.y (.int .i64 ((((k : Nat) : Int)) + 1)) rfl (OpY.add rfl rfl rfl (by omega) (by omega)) ?_
     refine Run.p (.int .i64 ((((k : Nat) : Int)) + 1)) rfl rfl ?_
     refine Run.done ?_
     refine Run.goal ⟨(by repeat (first | exact Same.refl _ _ | refine Same.put rfl ?_ | refine Same.over rfl rfl ?_)), k + 1, ?_, ?_, ?_, ?_⟩
     ·refine ⟨by omega, ?_⟩
      trivial
     ·omega
     ·exact ⟨(by show Value.int _ _ = Value.int _ _; congr 1; rw [ngK]; first | (rw [if_pos (by omega), hB, Int.toNat_natCast, ← hqb]; done) | (rw [if_neg (by omega), if_pos (by omega), hA, Int.toNat_natCast, ← hqa]; done) | (rw [if_neg (by omega), if_neg (by omega)]; done)), (by first | rfl | (congr 1; omega) | simp), trivial⟩
     ·exact (Some'.weak (.skip (.takeEq (by first | rfl | simp) (.nil _))))
  ·have p12 := h12; try simp only [bs] at p12
   have hknk : k = m := by omega
   refine Run.exit rfl ?_
   refine Run.sr ?_
   refine Run.p (.int .i64 (((ngK es v k : Nat) : Int))) rfl rfl ?_
   refine Run.p (.int .i64 (((ngK es v k : Nat) : Int))) rfl rfl ?_
   refine Run.done ?_
   refine Run.ret ?_
   refine ⟨.int .i64 (((ngK es v k : Nat) : Int)), [], Out.one rfl rfl, (Some'.weak (.nil _)), ?_⟩
   show _ = _; rw [hknk]

set_option maxHeartbeats 1000000 in
set_option maxRecDepth 20000 in
theorem parityOf_spec {x : Int} {w : World} (h0 : 0 ≤ x) (h1 : x < 16777216) : Calls Try.prog 73 #[.int .i64 x] w (Post No w fun v _ => v = .int .i64 (parI x)) := by
 refine enter (n := 7) (args := [.int .i64 x]) Try.func73 rfl rfl (St.empty _ _) ?_
 refine Run.sr ?_
 refine Run.p (.int .i64 0) rfl rfl ?_
 refine Run.dsr ?_
 refine Run.p (.int .i64 x) rfl rfl ?_
 refine Run.y (.int .u64 x) rfl (OpY.convIntEq Tsome_3 Tint_52 rfl (by rw [IntKind.wrap_u64]; omega)) ?_
 refine Run.q (v := .int .i64 ((((setL x).length : Nat) : Int))) rfl (OpQ.call (vs := [.int .u64 x]) (caps := []) Tcall_54 rfl rfl (fun w hs => (by have h := OnesCount_spec x w; rw [popE_set h0 h1] at h; exact h))) ?_
 refine Run.y (.int .i64 (((((setL x).length : Nat) : Int)) % 2)) rfl (OpY.rem rfl rfl (by omega) (by omega)) ?_
 refine Run.p (.int .i64 (((((setL x).length : Nat) : Int)) % 2)) rfl rfl ?_
 refine Run.done ?_
 refine Run.ret ?_
 refine ⟨.int .i64 (((((setL x).length : Nat) : Int)) % 2), [], Out.one rfl rfl, (Some'.weak (.nil _)), ?_⟩
 show _ = _; rfl

set_option maxHeartbeats 1000000 in
set_option maxRecDepth 20000 in
theorem odd_spec {ve vi vo : Value} {n m set : Nat} {es : List Int} {w : World} (hn10 : n ≤ 10) (hset : set < 2 ^ n) (hes : edgesOk (n : Int) es m = true) (he : Sl w ve 2 m (ints es)) : Calls Try.prog 49 #[.agg #[.int .i64 (n : Int), ve, vi, vo], .int .i64 (set : Int)] w (Post No w fun r _ => r = .int .i64 ((oddM es m n set n : Nat) : Int)) := by
 have hp10 := pow10 hn10
 refine enter (n := 25) (args := [.agg #[.int .i64 (((n : Nat) : Int)), ve, vi, vo], .int .i64 (((set : Nat) : Int))]) Try.func49 rfl rfl (St.empty _ _) ?_
 refine Run.sr ?_
 refine Run.step rfl (OpStep.box (us := [.int .i64 (((n : Nat) : Int)), ve, vi, vo]) rfl fun b1 => ?_)
 refine Run.p (.int .i64 0) rfl rfl ?_
 refine Run.dsr ?_
 refine Run.p (.int .i64 0) rfl rfl ?_
 refine Run.done ?_
 refine Run.seq ?_
 refine Run.sr ?_
 refine Run.y (.pointer (some ⟨b1, 0, none⟩)) rfl (OpY.fieldAddr Tfo_26_0 rfl rfl) ?_
 refine Run.y (.int .i64 (((n : Nat) : Int))) rfl (OpY.load1 Tone_3 rfl (Cells.blk (.head _) ⟨rfl, trivial⟩)) ?_
 refine Run.p (.int .i64 0) rfl rfl ?_
 refine Run.done ?_
 refine Run.block ?_
 refine Run.loop (ι := Nat) [5, 6, 9, 10, 11, 12, 13, 14, 15, 16, 17, 18, 19, 20, 21, 22, 23] (fun k => [(5, .int .i64 (((oddM es m n set k : Nat) : Int))), (9, .int .i64 (((k : Nat) : Int)))]) (fun k => [.blk b1 26 [.int .i64 (((n : Nat) : Int)), ve, vi, vo]]) (fun k => k ≤ n) (fun k => n - k) 0 ?_ ?_ ?_ ?_
 ·exact Nat.zero_le _
 ·exact ⟨rfl, rfl, trivial⟩
 ·exact (Some'.weak (.take (.nil _)))
 ·rintro k fr hinv
  show Run _ _ (over _ _ [(5, .int .i64 (((oddM es m n set k : Nat) : Int))), (9, .int .i64 (((k : Nat) : Int)))] fr) [.blk b1 26 [.int .i64 (((n : Nat) : Int)), ve, vi, vo]]
  try dsimp only at hinv
  refine Run.sr ?_
  refine Run.p (.bool (decide ((((k : Nat) : Int)) < (((n : Nat) : Int))))) rfl rfl ?_
  refine Run.done ?_
  refine Run.seq ?_
  refine Run.cond (b := decide ((((k : Nat) : Int)) < (((n : Nat) : Int)))) rfl (fun h10 => ?_) (fun h10 => ?_)
  ·have p10 := h10; try simp only [bs] at p10
   have hkn : k < n := by omega
   have hng := ng_lt hes k m (Nat.le_refl m)
   have hal : ngK es k m &&& set < 2 ^ n := Nat.lt_of_le_of_lt Nat.and_le_left hng
   obtain ⟨q, hq, hq1, hq2⟩ := pow_q hn10 hkn
   have hol := oddM_lt es m n set k
   have hkp := pow10 (n := k) (by omega)
   have hpo := par_odd2 hn10 hes k set
   refine Run.skip ?_
   refine Run.seq ?_
   refine Run.block ?_
   refine Run.sr ?_
   refine Run.p (.int .i64 (((k : Nat) : Int))) rfl rfl ?_
   refine Run.p (.int .i64 (((k : Nat) : Int))) rfl rfl ?_
   refine Run.dsr ?_
   refine Run.y (.agg #[.int .i64 (((n : Nat) : Int)), ve, vi, vo]) rfl (OpY.loadN (cs := [.int .i64 (((n : Nat) : Int)), ve, vi, vo]) Tagg_26 rfl (Cells.blk (.head _) ⟨rfl, rfl, rfl, rfl, trivial⟩)) ?_
   refine Run.p (.int .i64 (((k : Nat) : Int))) rfl rfl ?_
   refine Run.q (v := .int .i64 (((ngK es k m : Nat) : Int))) rfl (OpQ.call (vs := [.agg #[.int .i64 (((n : Nat) : Int)), ve, vi, vo], .int .i64 (((k : Nat) : Int))]) (caps := []) Tcall_29 rfl rfl (fun w hs => around_spec (v := k) hn10 hes (hs.sl he))) ?_
   refine Run.p (.int .i64 (((set : Nat) : Int))) rfl rfl ?_
   refine Run.y (.int .i64 (((ngK es k m &&& set : Nat) : Int))) rfl (OpY.andNat2 rfl rfl (by omega) (by omega)) ?_
   refine Run.q (v := .int .i64 (parI ((ngK es k m &&& set : Nat) : Int))) rfl (OpQ.call (vs := [.int .i64 (((ngK es k m &&& set : Nat) : Int))]) (caps := []) Tcall_73 rfl rfl (fun w hs => parityOf_spec (x := ((ngK es k m &&& set : Nat) : Int)) (by omega) (by omega))) ?_
   refine Run.p (.bool ((parI ((ngK es k m &&& set : Nat) : Int)) == 1)) rfl rfl ?_
   refine Run.done ?_
   refine Run.cond (b := (parI ((ngK es k m &&& set : Nat) : Int)) == 1) rfl (fun h18 => ?_) (fun h18 => ?_)
   ·have p18 := h18; try simp only [bs] at p18
    have hb : oddB es m set k n = true := hpo.1 p18
    refine Run.region ?_
    refine Run.p (.int .i64 (((oddM es m n set k : Nat) : Int))) rfl rfl ?_
    refine Run.p (.int .i64 (((k : Nat) : Int))) rfl rfl ?_
    refine Run.y (.int .i64 (((q : Nat) : Int))) rfl (OpY.shlOne rfl rfl rfl (by omega) hq) ?_
    refine Run.y (.int .i64 (((oddM es m n set k ||| q : Nat) : Int))) rfl (OpY.orNat rfl rfl rfl rfl (by omega) (by omega)) ?_
    refine Run.p (.int .i64 (((oddM es m n set k ||| q : Nat) : Int))) rfl rfl ?_
    refine Run.done ?_
    refine Run.blockEnd ?_
    refine Run.region ?_
    refine Run.y (.int .i64 ((((k : Nat) : Int)) + 1)) rfl (OpY.add rfl rfl rfl (by omega) (by omega)) ?_
    refine Run.p (.int .i64 ((((k : Nat) : Int)) + 1)) rfl rfl ?_
    refine Run.done ?_
    refine Run.goal ⟨(by repeat (first | exact Same.refl _ _ | refine Same.put rfl ?_ | refine Same.over rfl rfl ?_)), k + 1, ?_, ?_, ?_, ?_⟩
    ·omega
    ·omega
    ·exact ⟨(by first | exact congrArg (fun z : Nat => Value.int .i64 (z : Int)) (show oddM es m n set k ||| q = oddM es m n set (k + 1) from by rw [oddM, if_pos hb, hq]) | exact congrArg (fun z : Nat => Value.int .i64 (z : Int)) (show oddM es m n set k = oddM es m n set (k + 1) from by rw [oddM, if_neg hb])), (by first | rfl | (congr 1; omega) | simp), trivial⟩
    ·exact (Some'.weak (.take (.nil _)))
   ·have p18 := h18; try simp only [bs] at p18
    have hb : ¬ oddB es m set k n = true := fun h => p18 (hpo.2 h)
    refine Run.skip ?_
    refine Run.blockEnd ?_
    refine Run.region ?_
    refine Run.y (.int .i64 ((((k : Nat) : Int)) + 1)) rfl (OpY.add rfl rfl rfl (by omega) (by omega)) ?_
    refine Run.p (.int .i64 ((((k : Nat) : Int)) + 1)) rfl rfl ?_
    refine Run.done ?_
    refine Run.goal ⟨(by repeat (first | exact Same.refl _ _ | refine Same.put rfl ?_ | refine Same.over rfl rfl ?_)), k + 1, ?_, ?_, ?_, ?_⟩
    ·omega
    ·omega
    ·exact ⟨(by first | exact congrArg (fun z : Nat => Value.int .i64 (z : Int)) (show oddM es m n set k ||| q = oddM es m n set (k + 1) from by rw [oddM, if_pos hb, hq]) | exact congrArg (fun z : Nat => Value.int .i64 (z : Int)) (show oddM es m n set k = oddM es m n set (k + 1) from by rw [oddM, if_neg hb])), (by first | rfl | (congr 1; omega) | simp), trivial⟩
    ·exact (Some'.weak (.take (.nil _)))
  ·have p10 := h10; try simp only [bs] at p10
   have hkn : k = n := by omega
   refine Run.exit rfl ?_
   refine Run.sr ?_
   refine Run.p (.int .i64 (((oddM es m n set k : Nat) : Int))) rfl rfl ?_
   refine Run.p (.int .i64 (((oddM es m n set k : Nat) : Int))) rfl rfl ?_
   refine Run.done ?_
   refine Run.ret ?_
   refine ⟨.int .i64 (((oddM es m n set k : Nat) : Int)), [], Out.one rfl rfl, (Some'.weak (.nil _)), ?_⟩
   show _ = _; rw [hkn]

set_option maxHeartbeats 1000000 in
set_option maxRecDepth 20000 in
theorem l19Odd_spec {ve vi vo : Value} {n m set : Nat} {es : List Int} {w : World} (hn10 : n ≤ 10) (hset : set < 2 ^ n) (hes : edgesOk (n : Int) es m = true) (he : Sl w ve 2 m (ints es)) : Calls Try.prog 69 #[.agg #[.int .i64 (n : Int), ve, vi, vo], .int .i64 (set : Int)] w (Post No w fun r _ => r = .int .i64 ((oddM es m n set n : Nat) : Int)) := by
 have hp10 := pow10 hn10
 have hslt := hset
 refine enter (n := 22) (args := [.agg #[.int .i64 (((n : Nat) : Int)), ve, vi, vo], .int .i64 (((set : Nat) : Int))]) Try.func69 rfl rfl (St.empty _ _) ?_
 refine Run.sr ?_
 refine Run.step rfl (OpStep.box (us := [.int .i64 (((n : Nat) : Int)), ve, vi, vo]) rfl fun b1 => ?_)
 refine Run.p (.int .i64 0) rfl rfl ?_
 refine Run.dsr ?_
 refine Run.p (.int .i64 0) rfl rfl ?_
 refine Run.done ?_
 refine Run.seq ?_
 refine Run.sr ?_
 refine Run.p (.int .i64 (((set : Nat) : Int))) rfl rfl ?_
 refine Run.step rfl (OpStep.call (vs := [.int .i64 (((set : Nat) : Int))]) (caps := []) Tcall_60 rfl rfl (fun w hs => (by have h := l1Set_spec (x := ((set : Nat) : Int)) (w := w) (by omega) (by omega); rw [setL_nat hslt (by omega)] at h; exact h)) ?_)
 rintro us _ ⟨hs24, rfl⟩
 show Run _ _ (putF _ _ _ us) [.own us 3 1 ((setN (set) n).length) (ints (setN (set) n)), .blk b1 26 [.int .i64 (((n : Nat) : Int)), ve, vi, vo]]
 refine Run.formOwn (.head _) (fun A_us1 c_us1 hv hcapc_us1 hmaxc_us1 => ?_) (fun _ _ _ => ⟨nofun, nofun, nofun⟩)
 subst hv
 refine Run.y (.int .i64 ((((setN (set) n).length : Nat) : Int))) rfl (OpY.len Tsl_24 rfl) ?_
 refine Run.p (.int .i64 0) rfl rfl ?_
 refine Run.done ?_
 refine Run.block ?_
 refine Run.loop (ι := Nat) [5, 7, 11, 12, 13, 14, 15, 16, 17, 18, 19, 20] (fun k => [(5, .int .i64 (((xorF es m ((setN set n).take k) : Nat) : Int))), (11, .int .i64 (((k : Nat) : Int)))]) (fun k => [.own (.slice A_us1 ((setN (set) n).length) c_us1) 3 1 ((setN (set) n).length) (ints (setN (set) n)), .blk b1 26 [.int .i64 (((n : Nat) : Int)), ve, vi, vo]]) (fun k => k ≤ (setN set n).length) (fun k => (setN set n).length - k) 0 ?_ ?_ ?_ ?_
 ·exact Nat.zero_le _
 ·exact ⟨rfl, rfl, trivial⟩
 ·exact (Some'.weak (.take (.take (.nil _))))
 ·rintro k fr hinv
  show Run _ _ (over _ _ [(5, .int .i64 (((xorF es m ((setN set n).take k) : Nat) : Int))), (11, .int .i64 (((k : Nat) : Int)))] fr) [.own (.slice A_us1 ((setN (set) n).length) c_us1) 3 1 ((setN (set) n).length) (ints (setN (set) n)), .blk b1 26 [.int .i64 (((n : Nat) : Int)), ve, vi, vo]]
  try dsimp only at hinv
  refine Run.sr ?_
  refine Run.p (.bool (decide ((((k : Nat) : Int)) < ((((setN (set) n).length : Nat) : Int))))) rfl rfl ?_
  refine Run.done ?_
  refine Run.seq ?_
  refine Run.cond (b := decide ((((k : Nat) : Int)) < ((((setN (set) n).length : Nat) : Int)))) rfl (fun h12 => ?_) (fun h12 => ?_)
  ·have p12 := h12; try simp only [bs] at p12
   have hkl : k < (setN set n).length := by omega
   obtain ⟨u, hun, hub, hu⟩ := set_at hkl
   have hng := ng_lt hes u m (Nat.le_refl m)
   have hxl := xorF_lt hes ((setN set n).take k)
   refine Run.openOwn (.head _) (by omega) (fun gs cs hvgs hcapgs _ => ?_) (fun _ _ _ => ⟨nofun, nofun, nofun⟩)
   injection hvgs with hAgs _ hcgs; subst hAgs; subst hcgs
   refine Run.skip ?_
   refine Run.seq ?_
   refine Run.block ?_
   refine Run.sr ?_
   refine Run.y (.pointer (some ⟨gs, k, none⟩)) rfl (OpY.index (kk := k) Tsl_24 rfl rfl (by omega) (by omega) (by first | rfl | omega)) ?_
   refine Run.y (.int .i64 (ix (setN (set) n) (k))) rfl (OpY.load1 Tone_3 rfl (Cells.own0 (.head _) (pre1 (by omega)))) ?_
   refine Run.p (.int .i64 (ix (setN (set) n) (k))) rfl rfl ?_
   refine Run.dr ?_
   refine Run.p (.int .i64 (((xorF es m ((setN set n).take k) : Nat) : Int))) rfl rfl ?_
   refine Run.y (.agg #[.int .i64 (((n : Nat) : Int)), ve, vi, vo]) rfl (OpY.loadN (cs := [.int .i64 (((n : Nat) : Int)), ve, vi, vo]) Tagg_26 rfl (Cells.blk (.tail _ (List.Mem.head _)) ⟨rfl, rfl, rfl, rfl, trivial⟩)) ?_
   refine Run.p (.int .i64 (ix (setN (set) n) (k))) rfl rfl ?_
   refine Run.q (v := .int .i64 (((ngK es u m : Nat) : Int))) rfl (OpQ.call (vs := [.agg #[.int .i64 (((n : Nat) : Int)), ve, vi, vo], .int .i64 (ix (setN (set) n) (k))]) (caps := []) Tcall_61 rfl rfl (fun w hs => (by have h := l19Near_spec (v := u) (ve := ve) (vi := vi) (vo := vo) hn10 hes (hs.sl he); rw [← hu] at h; exact h))) ?_
   refine Run.y (.int .i64 (((xorF es m ((setN set n).take k) ^^^ ngK es u m : Nat) : Int))) rfl (OpY.xorNat rfl rfl rfl rfl (by omega) (by omega)) ?_
   refine Run.p (.int .i64 (((xorF es m ((setN set n).take k) ^^^ ngK es u m : Nat) : Int))) rfl rfl ?_
   refine Run.done ?_
   refine Run.blockEnd ?_
   refine Run.region ?_
   refine Run.y (.int .i64 ((((k : Nat) : Int)) + 1)) rfl (OpY.add rfl rfl rfl (by omega) (by omega)) ?_
   refine Run.p (.int .i64 ((((k : Nat) : Int)) + 1)) rfl rfl ?_
   refine Run.done ?_
   refine Run.goal ⟨(by repeat (first | exact Same.refl _ _ | refine Same.put rfl ?_ | refine Same.over rfl rfl ?_)), k + 1, ?_, ?_, ?_, ?_⟩
   ·omega
   ·omega
   ·exact ⟨(by show Value.int _ _ = Value.int _ _; congr 1; rw [xorF_take hkl, hu, Int.toNat_natCast]), (by first | rfl | (congr 1; omega) | simp), trivial⟩
   ·exact (Some'.weak (.takeEq (by first | rfl | simp) (.take (.nil _))))
  ·have p12 := h12; try simp only [bs] at p12
   have hkn : (setN set n).take k = setN set n := List.take_of_length_le (by omega)
   refine Run.exit rfl ?_
   refine Run.sr ?_
   refine Run.p (.int .i64 (((xorF es m ((setN set n).take k) : Nat) : Int))) rfl rfl ?_
   refine Run.p (.int .i64 (((xorF es m ((setN set n).take k) : Nat) : Int))) rfl rfl ?_
   refine Run.done ?_
   refine Run.ret ?_
   refine ⟨.int .i64 (((xorF es m ((setN set n).take k) : Nat) : Int)), [], Out.one rfl rfl, (Some'.weak (.nil _)), ?_⟩
   show _ = _; rw [hkn, xorF_odd hes]

end Go.Proofs.Ytoiaibgcjfgbcaa
