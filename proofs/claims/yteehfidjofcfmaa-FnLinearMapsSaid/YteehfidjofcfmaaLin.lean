/- Walks: the rank of rows, and which linear maps are valid. -/
import Derived.Test.YteehfidjofcfmaaGf2
import Derived.Test.YteehfidjofcfmaaCg3
import Derived.Test.YteehfidjofcfmaaEl
import Derived.Test.YteehfidjofcfmaaShelf
import Derived.Test.YteehfidjofcfmaaProg
set_option linter.unusedSimpArgs false
set_option linter.unusedVariables false
namespace Go.Proofs.Yteehfidjofcfmaa
open Go Go.RowKit
namespace LinT
theorem Tcall_112 : callable Try.prog 112 = true := by kernel_rfl
theorem Tone_3 : oneOf Try.prog 3 = true := by kernel_rfl
theorem Tsl_22 : sliceOf Try.prog 22 = some (3, 1, 8, [.int .i64 0]) := by kernel_rfl
end LinT
open LinT

theorem bitI_nl (r : List Nat) (i b : Nat) : bitI (ix (nl r) i) b = (nx r i).testBit b := by
  rw [ix_nl, bitI, Nat.testBit_eq_decide_div_mod_eq, Int.shiftRight_eq_div_pow]
  congr 1
  rw [show ((nx r i : Int) / ((2 ^ b : Nat) : Int)) % 2 = ((nx r i / 2 ^ b % 2 : Nat) : Int) by norm_cast]
  rw [eq_iff_iff]; omega
theorem bits_xor_nat {a b : Nat} (ha : a < 9223372036854775808) (hb : b < 9223372036854775808) : bits .xor .i64 (a : Int) (b : Int) = ((a ^^^ b : Nat) : Int) := by
  have h1 : a ^^^ b < 9223372036854775808 := Nat.xor_lt_two_pow (n := 63) ha hb
  have h2 : (BitVec.ofInt 64 (a : Int) ^^^ BitVec.ofInt 64 (b : Int)).toNat = a ^^^ b := by
    rw [BitVec.toNat_xor, BitVec.toNat_ofInt, BitVec.toNat_ofInt]
    congr 1 <;> omega
  show IntKind.i64.wrap ((BitVec.ofInt 64 (a : Int) ^^^ BitVec.ofInt 64 (b : Int)).toNat : Int) = _
  rw [h2, IntKind.wrap_i64]; omega
theorem bits_or_nat {a b : Nat} (ha : a < 9223372036854775808) (hb : b < 9223372036854775808) : bits .or .i64 (a : Int) (b : Int) = ((a ||| b : Nat) : Int) := by
  have h1 : a ||| b < 9223372036854775808 := Nat.or_lt_two_pow (n := 63) ha hb
  have h2 : (BitVec.ofInt 64 (a : Int) ||| BitVec.ofInt 64 (b : Int)).toNat = a ||| b := by
    rw [BitVec.toNat_or, BitVec.toNat_ofInt, BitVec.toNat_ofInt]
    congr 1 <;> omega
  show IntKind.i64.wrap ((BitVec.ofInt 64 (a : Int) ||| BitVec.ofInt 64 (b : Int)).toNat : Int) = _
  rw [h2, IntKind.wrap_i64]; omega
section
variable {E : Env} {f : Fr} {H : List Res} {d : Option Tmp} {ty : TypeId} {pos : String} {after : Array Edge} {gd : Option (Nat × Bool)}
theorem OpY.xorNat {t t' : TypeId} {x y : Operand} {a b : Int} {m n : Nat} (hx : f.eval x = .int .i64 a) (hy : f.eval y = .int .i64 b) (ha : a = (m : Nat)) (hb : b = (n : Nat)) (hm : m < 9223372036854775808) (hn : n < 9223372036854775808) :
    OpY E ⟨d, .binOp .xor t x y t', ty, pos, after, gd⟩ f H (.int .i64 ((m ^^^ n : Nat) : Int)) := by
  have := OpY.xor (E := E) (H := H) (d := d) (ty := ty) (pos := pos) (after := after) (gd := gd) (t := t) (t' := t') hx hy
  rw [ha, hb, bits_xor_nat hm hn] at this; exact this
theorem OpY.orNat {t t' : TypeId} {x y : Operand} {a b : Int} {m n : Nat} (hx : f.eval x = .int .i64 a) (hy : f.eval y = .int .i64 b) (ha : a = (m : Nat)) (hb : b = (n : Nat)) (hm : m < 9223372036854775808) (hn : n < 9223372036854775808) :
    OpY E ⟨d, .binOp .or t x y t', ty, pos, after, gd⟩ f H (.int .i64 ((m ||| n : Nat) : Int)) := by
  have := OpY.or (E := E) (H := H) (d := d) (ty := ty) (pos := pos) (after := after) (gd := gd) (t := t) (t' := t') hx hy
  rw [ha, hb, bits_or_nat hm hn] at this; exact this
theorem OpY.shlOne {t t' : TypeId} {x y : Operand} {b : Int} {n q : Nat} {k : IntKind} (hx : f.eval x = .int .i64 1) (hy : f.eval y = .int k b) (hb : b = (n : Nat)) (hn : n ≤ 62) (hq : q = 2 ^ n) :
    OpY E ⟨d, .binOp .shl t x y t', ty, pos, after, gd⟩ f H (.int .i64 (q : Int)) := by
  subst hq
  have h1 : 2 ^ n ≤ 2 ^ 62 := Nat.pow_le_pow_right (by omega) hn
  have h2 : (2 : Nat) ^ 62 = 4611686018427387904 := by decide
  have h3 : ((2 ^ n : Nat) : Int) ≤ 4611686018427387904 := by
    rw [h2] at h1
    exact Int.ofNat_le.2 h1
  have h4 : (0 : Int) ≤ ((2 ^ n : Nat) : Int) := Int.natCast_nonneg _
  exact OpY.shl (n := n) hx hy hb (by omega) (by push_cast; rw [Int.one_mul]) (Int.le_trans (by decide) h4) (Int.le_trans h3 (by decide))
end
/-- The search of the program: the first row with the bit. -/
theorem findI_idx (l : List Nat) (b : Nat) : findI (fun i => bitI (ix (nl l) i) b) l.length = if hasB b l then ((idxB b l : Nat) : Int) else -1 := by
  split
  · rename_i h
    have hlt : idxB b l < l.length := List.findIdx_lt_length_of_exists (by simpa [hasB, List.any_eq_true] using h)
    refine findI_hit (fun i hi => ?_) ?_ hlt
    · rw [bitI_nl]
      have := List.not_of_lt_findIdx hi
      have hil : i < l.length := by omega
      simpa [nx, List.getD, hil] using this
    · rw [bitI_nl]
      have := List.findIdx_getElem (xs := l) (p := fun x => x.testBit b) (w := (show l.findIdx (fun x => x.testBit b) < l.length from hlt))
      have hil : idxB b l < l.length := hlt
      have e : nx l (idxB b l) = l[idxB b l] := by simp [nx, List.getD, hil]
      rw [e]; exact this
  · rename_i h
    refine findI_none fun i hi => ?_
    rw [bitI_nl]
    simp only [hasB, List.any_eq_true, not_exists, not_and, Bool.not_eq_true] at h
    refine h _ ?_
    simp only [nx, List.getD, List.getElem?_eq_getElem hi, Option.getD_some]
    exact List.getElem_mem hi
theorem idxB_lt {b : Nat} {l : List Nat} (h : hasB b l = true) : idxB b l < l.length := List.findIdx_lt_length_of_exists (by simpa [hasB, List.any_eq_true] using h)
/-- The pivot is added to the first j rows that have the bit. -/
def addK (b p : Nat) (D : List Nat) : Nat → List Nat
  | 0 => D
  | j + 1 => if (nx (addK b p D j) j).testBit b = true then (addK b p D j).set j (nx (addK b p D j) j ^^^ p) else addK b p D j
@[simp] theorem addK_length (b p : Nat) (D : List Nat) : ∀ j, (addK b p D j).length = D.length
  | 0 => rfl
  | j + 1 => by simp only [addK]; split <;> simp [addK_length b p D j]
theorem nx_addK {b p : Nat} {D : List Nat} : ∀ {j i : Nat}, j ≤ D.length → i < D.length → nx (addK b p D j) i = if i < j ∧ (nx D i).testBit b = true then nx D i ^^^ p else nx D i
  | 0, i, _, _ => by simp [addK]
  | j + 1, i, hj, hi => by
    have hjj := nx_addK (b := b) (p := p) (D := D) (j := j) (i := j) (by omega) (by omega)
    rw [if_neg (fun h => absurd h.1 (Nat.lt_irrefl _))] at hjj
    have hji := nx_addK (b := b) (p := p) (D := D) (j := j) (i := i) (by omega) hi
    simp only [addK, hjj]
    by_cases hc : (nx D j).testBit b = true
    · rw [if_pos hc, nx_set (by simpa using hi), hji]
      by_cases e : j = i
      · subst e; rw [if_pos rfl, if_pos ⟨by omega, hc⟩]
      · rw [if_neg e]
        by_cases h2 : i < j ∧ (nx D i).testBit b = true
        · rw [if_pos h2, if_pos ⟨by omega, h2.2⟩]
        · rw [if_neg h2, if_neg fun h3 => h2 ⟨by omega, h3.2⟩]
    · rw [if_neg hc, hji]
      by_cases h2 : i < j ∧ (nx D i).testBit b = true
      · rw [if_pos h2, if_pos ⟨by omega, h2.2⟩]
      · rw [if_neg h2]
        by_cases e : j = i
        · subst e; rw [if_neg fun h3 => hc h3.2]
        · rw [if_neg fun h3 => h2 ⟨by omega, h3.2⟩]
theorem addK_all {b p : Nat} {D : List Nat} : addK b p D D.length = D.map fun y => if y.testBit b then y ^^^ p else y := by
  refine list_ext_nx (by simp) fun i hi => ?_
  have hi' : i < D.length := by simpa using hi
  rw [nx_addK (Nat.le_refl _) hi']
  have e : nx (D.map fun y => if y.testBit b then y ^^^ p else y) i = if (nx D i).testBit b then nx D i ^^^ p else nx D i := by simp [nx, List.getD, hi']
  rw [e]
  by_cases h : (nx D i).testBit b = true
  · rw [if_pos ⟨hi', h⟩, if_pos h]
  · rw [if_neg fun h2 => h h2.2, if_neg h]
theorem nl_erase (l : List Nat) (i : Nat) : (nl l).eraseIdx i = nl (l.eraseIdx i) := by
  simp only [nl, List.eraseIdx_eq_take_drop_succ, List.map_append, List.map_take, List.map_drop]
theorem nx_lt {l : List Nat} {k : Nat} (h : ∀ x ∈ l, x < 2 ^ k) (i : Nat) : nx l i < 2 ^ k := by
  by_cases hi : i < l.length
  · simp only [nx, List.getD, List.getElem?_eq_getElem hi, Option.getD_some]; exact h _ (List.getElem_mem hi)
  · rw [nx_ge (by omega)]; exact Nat.two_pow_pos k
theorem lt_nx {l : List Nat} {k : Nat} (h : ∀ i, i < l.length → nx l i < 2 ^ k) : ∀ x ∈ l, x < 2 ^ k := by
  intro x hx
  obtain ⟨i, hi, rfl⟩ := nx_mem hx
  exact h i hi
/-- Which rows are a valid map. -/
def linOk (xs : List Int) (n : Nat) : Bool := within (n : Int) 1 5 && !anyI (fun i => !within (ix xs i) 0 (((2 ^ n : Nat) : Int) - 1)) n && decide ((rkS (nats xs) 10).2 = n)
theorem rows_in {xs : List Int} {n : Nat} (hl : xs.length = n) (h : anyI (fun i => !within (ix xs i) 0 (((2 ^ n : Nat) : Int) - 1)) n = false) : nl (nats xs) = xs ∧ ∀ x ∈ nats xs, x < 2 ^ n := by
  have hr : ∀ x ∈ xs, 0 ≤ x ∧ x ≤ ((2 ^ n : Nat) : Int) - 1 := by
    intro x hx
    obtain ⟨i, hi, e⟩ := List.getElem_of_mem hx
    cases hw : within (ix xs i) 0 (((2 ^ n : Nat) : Int) - 1) with
    | true =>
      have h2 := within_iff.1 hw
      have e2 : ix xs i = x := by simp [ix, List.getD, hi, e]
      rw [e2] at h2; exact h2
    | false => rw [anyI_true (p := fun i => !within (ix xs i) 0 (((2 ^ n : Nat) : Int) - 1)) (show i < n by omega) (by rw [hw]; rfl)] at h; cases h
  refine ⟨nl_nats fun x hx => (hr x hx).1, fun x hx => ?_⟩
  obtain ⟨y, hy, rfl⟩ := List.mem_map.1 hx
  have := hr y hy
  omega
theorem pow5 {n : Nat} (h : n ≤ 5) : 2 ^ n ≤ 32 := Nat.pow_le_pow_right (n := 2) (by omega) h
theorem rank_same {r : List Nat} {n : Nat} (hl : r.length = n) (h5 : n ≤ 5) (hb : ∀ x ∈ r, x < 2 ^ n) : ((rkR n r 10).2 = n ↔ (rkS r 10).2 = n) := by
  have h10 : ∀ x ∈ r, x < 2 ^ 10 := fun x hx => Nat.lt_of_lt_of_le (hb x hx) (Nat.pow_le_pow_right (by omega) (by omega))
  rw [rkR_full (k := 10) hl (fun i _ => nx_lt h10 i), ← rkS_full h10, hl]
theorem setTake {xs : List Int} {i : Nat} : xs.take i ++ xs.drop (i + 1) = xs.eraseIdx i := (List.eraseIdx_eq_take_drop_succ ..).symm

set_option maxHeartbeats 1000000 in
set_option maxRecDepth 20000 in
theorem rankClo_spec {x : Int} {bb p : Nat} {w : World} (hc : Sl w (.slice (some ⟨p, 0, none⟩) 1 1) 1 1 [.int .i64 (bb : Nat)]) (hb : bb ≤ 64) : Calls Try.prog 112 #[.int .i64 x, .pointer (some ⟨p, 0, none⟩)] w (Post No w fun v _ => v = .bool (bitI x bb)) := by
  refine enter (n := 9) (args := [.int .i64 x, .pointer (some ⟨p, 0, none⟩)]) Try.func112 rfl rfl (St.empty _ _) ?_
  refine Run.seq ?_
  refine Run.region ?_
  refine Run.q (v := .bool false) rfl (OpQ.y (OpY.pure rfl)) ?_
  refine Run.done ?_
  refine Run.seq ?_
  refine Run.region ?_
  refine Run.q (v := .int .i64 x) rfl (OpQ.y (OpY.pure rfl)) ?_
  refine Run.q (v := .int .i64 (((bb : Nat) : Int))) rfl (OpQ.y (OpY.load1 Tone_3 rfl (Cells.env (k := 0) hc rfl (by decide) ⟨rfl, trivial⟩))) ?_
  refine Run.q (v := .int .i64 (x >>> bb)) rfl (OpQ.y (OpY.shr rfl rfl (by first | rfl | omega) (by omega))) ?_
  refine Run.q (v := .int .i64 ((x >>> bb) % 2)) rfl (OpQ.y (OpY.and1 rfl rfl)) ?_
  refine Run.q (v := .bool (((x >>> bb) % 2) == 1)) rfl (OpQ.y (OpY.pure rfl)) ?_
  refine Run.q (v := .bool (((x >>> bb) % 2) == 1)) rfl (OpQ.y (OpY.pure rfl)) ?_
  refine Run.done ?_
  refine Run.ret ?_
  refine ⟨.bool (((x >>> bb) % 2) == 1), [], Out.one rfl rfl, (Some'.weak (.nil _)), ?_⟩
  show _ = _; rw [bitI]; congr 1

set_option maxHeartbeats 1000000 in
set_option maxRecDepth 20000 in
theorem IndexFuncRank_spec {bb p : Nat} {va : Value} {n : Nat} {xs : List Int} {w : World} (ha : Sl w va 1 n (ints xs)) (hc : Sl w (.slice (some ⟨p, 0, none⟩) 1 1) 1 1 [.int .i64 (bb : Nat)]) (hb : bb ≤ 64) : Calls Try.prog 111 #[va, .func (.func 112) #[] #[.pointer (some ⟨p, 0, none⟩)]] w (Post No w fun v _ => v = .int .i64 (findI (fun i => bitI (ix xs i) bb) n)) := by
  have hxl := ha.len
  have hn := ha.le
  obtain ⟨A, c, rfl, _, _⟩ := ha.form0
  refine enter (n := 19) (args := [.slice A n c, .func (.func 112) #[] #[.pointer (some ⟨p, 0, none⟩)]]) Try.func111 rfl rfl (St.empty _ _) ?_
  refine Run.seq ?_
  refine Run.region ?_
  refine Run.q (v := .int .i64 0) rfl (OpQ.y (OpY.pure rfl)) ?_
  refine Run.done ?_
  refine Run.seq ?_
  refine Run.seq ?_
  refine Run.region ?_
  refine Run.q (v := .slice A n c) rfl (OpQ.y (OpY.pure rfl)) ?_
  refine Run.q (v := .int .i64 (((n : Nat) : Int))) rfl (OpQ.y (OpY.len Tsl_22 rfl)) ?_
  refine Run.q (v := .int .i64 0) rfl (OpQ.y (OpY.pure rfl)) ?_
  refine Run.done ?_
  refine Run.block ?_
  refine Run.loop (ι := Nat) [4, 5, 8, 9, 10, 11, 12, 13, 14, 15, 16, 17, 18] (fun k => [(8, .int .i64 (((k : Nat) : Int)))]) (fun k => []) (fun k => k ≤ n ∧ (∀ i, i < k → (bitI (ix xs i) bb) = false)) (fun k => n - k) 0 ?_ ?_ ?_ ?_
  · exact ⟨Nat.zero_le _, by first | trivial | (intro i hi; omega)⟩
  · exact ⟨rfl, trivial⟩
  · exact (Some'.weak (.nil _))
  · rintro k fr hinv
    show Run _ _ (over _ _ [(8, .int .i64 (((k : Nat) : Int)))] fr) []
    try dsimp only at hinv
    refine Run.seq ?_
    refine Run.region ?_
    refine Run.q (v := .bool (decide ((((k : Nat) : Int)) < (((n : Nat) : Int))))) rfl (OpQ.y (OpY.pure rfl)) ?_
    refine Run.done ?_
    refine Run.seq ?_
    refine Run.cond (b := decide ((((k : Nat) : Int)) < (((n : Nat) : Int)))) rfl (fun h9 => ?_) (fun h9 => ?_)
    · have p9 := h9; try simp only [bs] at p9
      have hltk : k < n := by omega
      obtain ⟨b, o, rfl⟩ := ha.opn (by omega)
      refine Run.skip ?_
      refine Run.seq ?_
      refine Run.block ?_
      refine Run.seq ?_
      refine Run.region ?_
      refine Run.q (v := .int .i64 (((k : Nat) : Int))) rfl (OpQ.y (OpY.pure rfl)) ?_
      refine Run.q (v := .int .i64 (((k : Nat) : Int))) rfl (OpQ.y (OpY.pure rfl)) ?_
      refine Run.done ?_
      refine Run.seq ?_
      refine Run.region ?_
      refine Run.q (v := .func (.func 112) #[] #[.pointer (some ⟨p, 0, none⟩)]) rfl (OpQ.y (OpY.pure rfl)) ?_
      refine Run.q (v := .slice (some ⟨b, o, none⟩) n c) rfl (OpQ.y (OpY.pure rfl)) ?_
      refine Run.q (v := .int .i64 (((k : Nat) : Int))) rfl (OpQ.y (OpY.pure rfl)) ?_
      refine Run.q (v := .pointer (some ⟨b, o + k, none⟩)) rfl (OpQ.y (OpY.index (kk := k) Tsl_22 rfl rfl (by omega) (by omega) (by first | rfl | omega))) ?_
      refine Run.q (v := .int .i64 (ix xs (k))) rfl (OpQ.y (OpY.load1 Tone_3 rfl (Cells.arg (k := k) ha rfl (by omega) (pre1 (by omega))))) ?_
      refine Run.q (v := .bool (bitI (ix xs k) bb)) rfl (OpQ.call (vs := [.int .i64 (ix xs (k)), .pointer (some ⟨p, 0, none⟩)]) (caps := [.pointer (some ⟨p, 0, none⟩)]) Tcall_112 rfl rfl (fun w hs => rankClo_spec (hs.sl hc) hb)) ?_
      refine Run.done ?_
      refine Run.cond (b := bitI (ix xs k) bb) rfl (fun h16 => ?_) (fun h16 => ?_)
      · have p16 := h16; try simp only [bs] at p16
        refine Run.seq ?_
        have hres : findI (fun i => bitI (ix xs i) bb) n = k := findI_hit hinv.2 h16 hltk
        refine Run.region ?_
        refine Run.q (v := .int .i64 (((k : Nat) : Int))) rfl (OpQ.y (OpY.pure rfl)) ?_
        refine Run.q (v := .int .i64 (((k : Nat) : Int))) rfl (OpQ.y (OpY.pure rfl)) ?_
        refine Run.done ?_
        refine Run.ret ?_
        refine ⟨.int .i64 (((k : Nat) : Int)), [], Out.one rfl rfl, (Some'.weak (.nil _)), ?_⟩
        show _ = _; rw [hres]
      · have p16 := h16; try simp only [bs] at p16
        refine Run.skip ?_
        refine Run.blockEnd ?_
        have hgood : (bitI (ix xs k) bb) = false := h16
        refine Run.region ?_
        refine Run.q (v := .int .i64 ((((k : Nat) : Int)) + 1)) rfl (OpQ.y (OpY.add rfl rfl rfl (by omega) (by omega))) ?_
        refine Run.q (v := .int .i64 ((((k : Nat) : Int)) + 1)) rfl (OpQ.y (OpY.pure rfl)) ?_
        refine Run.done ?_
        refine Run.goal ⟨(by repeat (first | exact Same.refl _ _ | refine Same.put rfl ?_ | refine Same.over rfl rfl ?_)), k + 1, ?_, ?_, ?_, ?_⟩
        · refine ⟨by omega, ?_⟩
          intro i hi
          rcases Nat.lt_succ_iff_lt_or_eq.1 hi with h | h
          · exact hinv.2 i h
          · rw [h]; exact hgood
        · omega
        · exact ⟨(by first | rfl | (congr 1; omega) | simp), trivial⟩
        · exact (Some'.weak (.nil _))
    · have p9 := h9; try simp only [bs] at p9
      have hknk : k = n := by omega
      have hres : findI (fun i => bitI (ix xs i) bb) n = -1 := by rw [← hknk]; exact findI_none hinv.2
      refine Run.exit rfl ?_
      refine Run.seq ?_
      refine Run.region ?_
      refine Run.q (v := .int .i64 (-1)) rfl (OpQ.y (OpY.pure rfl)) ?_
      refine Run.done ?_
      refine Run.ret ?_
      refine ⟨.int .i64 (-1), [], Out.one rfl rfl, (Some'.weak (.nil _)), ?_⟩
      show _ = _; rw [hres]


theorem DeleteInt_spec {va : Value} {n i : Nat} {zs : List Int} {w : World} (ho : (Res.own va 3 1 n (ints zs)).holds w) (hi : i < n) :
    Calls Try.prog 113 #[va, .int .i64 (i : Nat), .int .i64 ((i : Nat) + 1)] w (Post (Of [.own va 3 1 n (ints zs)]) w fun v H => H = [.own v 3 1 (n - 1) (ints (zs.eraseIdx i))]) := by
  have hst := St.start1 ho
  have hzl : zs.length = n := by simpa using ho.1
  rcases ho.2 with ⟨rfl, hn⟩ | ⟨g, cap, cur, rfl, h0, hg, h3, h4, h5, h6⟩
  · omega
  · have hc : ∀ j, j < zs.length → w.cell? ⟨g, 0 + j, none⟩ = some (.int .i64 (zs.getD j 0)) := by
      intro j hj
      have hj2 : j < cur.size := by rw [h5]; omega
      rw [cell_of_row w g (0 + j) cur _ (0, 0) hg]
      have h7 : (cur.toList.take (n * 1))[j]? = (ints zs)[j]? := by rw [h6]
      rw [List.getElem?_take_of_lt (by omega)] at h7
      simp only [Nat.zero_add]
      rw [← Array.getElem?_toList, h7]
      simp [ints, List.getD, hj]
    refine (Try.slices_Delete_int_cells g 0 n cap i (i + 1) zs w (by omega) h3 (by simpa [maxLen] using h4) (by omega) (by omega) hc (fun j _ => by simp [World.frozen?, hg])).mono ?_
    rintro e w' ⟨rfl, q, rfl⟩
    have hlen : ((zs.take n).take i ++ (zs.take n).drop (i + 1) ++ List.replicate (i + 1 - i) 0).length = n := by simp; omega
    have h8 := St.setCellsOwn (((zs.take n).take i ++ (zs.take n).drop (i + 1) ++ List.replicate (i + 1 - i) 0).map (Value.int .i64)) 0 _ _ (hst.drewN q)
    refine ⟨_, _, rfl, (Weak.ownTake (m := n - (i + 1 - i)) (by omega)) _ _ _ h8, ?_⟩
    rw [spl_all (by simp; omega)]
    congr 1
    have e1 : zs.take n = zs := List.take_of_length_le (by omega)
    have e2 : ((zs.take i ++ zs.drop (i + 1) ++ List.replicate (i + 1 - i) 0).map (Value.int .i64)).take ((n - (i + 1 - i)) * 1) = ints (zs.eraseIdx i) := by
      rw [← setTake]
      simp only [ints, List.map_append]
      rw [← List.map_append, List.take_append_of_le_length (by simp; omega), List.take_of_length_le (by simp; omega)]
    rw [e1, e2, show n - (i + 1 - i) = n - 1 by omega]

end Go.Proofs.Yteehfidjofcfmaa
