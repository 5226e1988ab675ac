/- Lists of truth values as cells. -/
import Derived.Test.YtekikmdjldincaaQ2
import Derived.Test.YtekikmdjldincaaProg
set_option linter.unusedSimpArgs false
set_option linter.unusedVariables false
namespace Go.Proofs.Ytekikmdjldincaa
open Go Go.RowKit
def bls (l : List Bool) : List Value := l.map Value.bool
def bx (l : List Bool) (i : Nat) : Bool := l.getD i false
theorem bls_get {l : List Bool} {i : Nat} (h : i < l.length) : (bls l)[i]? = some (.bool (bx l i)) := by simp [bls, bx, List.getD, h]
theorem preBl {l : List Bool} {i : Nat} (h : i < l.length) : Pre (bls l) i [.bool (bx l i)] := ⟨bls_get h, trivial⟩
theorem bls_length (l : List Bool) : (bls l).length = l.length := by simp [bls]
theorem bls_all (l : List Bool) : ∀ v ∈ bls l, v.oneCell' = true := by
  intro v hv
  obtain ⟨b, _, rfl⟩ := List.mem_map.1 hv
  rfl
theorem bls_rep (N : Nat) : (List.replicate N ([.bool false] : List Value)).flatten = bls (List.replicate N false) := by
  induction N with
  | zero => rfl
  | succ N ih => rw [List.replicate_succ, List.flatten_cons, ih]; simp [bls, List.replicate_succ]
theorem bls_set (l : List Bool) (c : Nat) (b : Bool) : spl (bls l) c [.bool b] = bls (l.set c b) := by
  show (bls l).set c (.bool b) = _
  simp [bls, List.map_set]
theorem bx_set {l : List Bool} {i j : Nat} (h : i < l.length) : bx (l.set i true) j = (bx l j || decide (i = j)) := by
  simp only [bx, List.getD, List.getElem?_set]
  by_cases e : i = j
  · subst e; simp [h]
  · simp [e]
theorem Sl.blen {w : World} {v : Value} {n : Nat} {ds : List Bool} (h : Sl w v 1 n (bls ds)) : ds.length = n := by
  have h1 := h.1; rw [bls_length] at h1; omega
theorem bits_or_natB {a b : Nat} (ha : a < 9223372036854775808) (hb : b < 9223372036854775808) : bits .or .i64 (a : Int) (b : Int) = ((a ||| b : Nat) : Int) := by
  have h1 : a ||| b < 9223372036854775808 := Nat.or_lt_two_pow (n := 63) ha hb
  have h2 : (BitVec.ofInt 64 (a : Int) ||| BitVec.ofInt 64 (b : Int)).toNat = a ||| b := by
    rw [BitVec.toNat_or, BitVec.toNat_ofInt, BitVec.toNat_ofInt]
    congr 1 <;> omega
  show IntKind.i64.wrap ((BitVec.ofInt 64 (a : Int) ||| BitVec.ofInt 64 (b : Int)).toNat : Int) = _
  rw [h2, IntKind.wrap_i64]; omega
section
variable {E : Env} {f : Fr} {H : List Res} {d : Option Tmp} {ty : TypeId} {pos : String} {after : Array Edge} {gd : Option (Nat × Bool)}
theorem OpY.orNatB {t t' : TypeId} {x y : Operand} {a b : Int} {m n : Nat} (hx : f.eval x = .int .i64 a) (hy : f.eval y = .int .i64 b) (ha : a = (m : Nat)) (hb : b = (n : Nat)) (hm : m < 9223372036854775808) (hn : n < 9223372036854775808) :
    OpY E ⟨d, .binOp .or t x y t', ty, pos, after, gd⟩ f H (.int .i64 ((m ||| n : Nat) : Int)) := by
  have := OpY.or (E := E) (H := H) (d := d) (ty := ty) (pos := pos) (after := after) (gd := gd) (t := t) (t' := t') hx hy
  rw [ha, hb, bits_or_natB hm hn] at this; exact this
theorem OpY.shlOneB {t t' : TypeId} {x y : Operand} {b : Int} {n q : Nat} {k : IntKind} (hx : f.eval x = .int .i64 1) (hy : f.eval y = .int k b) (hb : b = (n : Nat)) (hn : n ≤ 62) (hq : q = 2 ^ n) :
    OpY E ⟨d, .binOp .shl t x y t', ty, pos, after, gd⟩ f H (.int .i64 (q : Int)) := by
  subst hq
  have h1 : 2 ^ n ≤ 2 ^ 62 := Nat.pow_le_pow_right (by omega) hn
  have h2 : (2 : Nat) ^ 62 = 4611686018427387904 := by decide
  have h3 : ((2 ^ n : Nat) : Int) ≤ 4611686018427387904 := by
    rw [h2] at h1
    exact Int.ofNat_le.2 h1
  have h4 : (0 : Int) ≤ ((2 ^ n : Nat) : Int) := Int.natCast_nonneg _
  exact OpY.shl (n := n) hx hy hb (by omega) (by push_cast; rw [Int.one_mul]) (Int.le_trans (by decide) h4) (Int.le_trans h3 (by decide))
end
end Go.Proofs.Ytekikmdjldincaa
/- Plain functions: the first index with a property. -/
set_option linter.unusedSimpArgs false
set_option linter.unusedVariables false
namespace Go.Proofs.Ytekikmdjldincaa
open Go Go.RowKit
theorem ix_mem {xs : List Int} {i : Nat} (h : i < xs.length) : ix xs i ∈ xs := by
  simp [ix, List.getD, h]
def anyI (p : Nat → Bool) : Nat → Bool
  | 0 => false
  | n + 1 => anyI p n || p n
theorem anyI_iff {p : Nat → Bool} {n : Nat} : anyI p n = true ↔ ∃ i, i < n ∧ p i = true := by
  induction n with
  | zero => simp [anyI]
  | succ n ih =>
    simp only [anyI, Bool.or_eq_true, ih]
    constructor
    · rintro (⟨i, h1, h2⟩ | h)
      · exact ⟨i, by omega, h2⟩
      · exact ⟨n, by omega, h⟩
    · rintro ⟨i, h1, h2⟩
      by_cases h : i = n
      · subst h; exact .inr h2
      · exact .inl ⟨i, by omega, h2⟩
theorem anyI_false {p : Nat → Bool} {n : Nat} (h : ∀ i, i < n → p i = false) : anyI p n = false := by
  cases hb : anyI p n with
  | false => rfl
  | true => obtain ⟨i, h1, h2⟩ := anyI_iff.1 hb; rw [h i h1] at h2; cases h2
theorem anyI_true {p : Nat → Bool} {n i : Nat} (h : i < n) (hp : p i = true) : anyI p n = true := anyI_iff.2 ⟨i, h, hp⟩
theorem anyI_congr {p q : Nat → Bool} {n : Nat} (h : ∀ i, i < n → p i = q i) : anyI p n = anyI q n := by
  induction n with
  | zero => rfl
  | succ n ih => simp only [anyI]; rw [ih fun i hi => h i (by omega), h n (by omega)]
/-- The first index below n with the property, or -1. -/
def findI (p : Nat → Bool) : Nat → Int
  | 0 => -1
  | n + 1 => if anyI p n then findI p n else if p n then n else -1
theorem findI_none {p : Nat → Bool} {n : Nat} (h : ∀ i, i < n → p i = false) : findI p n = -1 := by
  cases n with
  | zero => rfl
  | succ n => rw [findI, anyI_false fun i hi => h i (by omega), h n (by omega)]; rfl
theorem findI_hit {p : Nat → Bool} {n k : Nat} (h : ∀ i, i < k → p i = false) (hk : p k = true) (hn : k < n) : findI p n = k := by
  induction n with
  | zero => omega
  | succ n ih =>
    by_cases e : k = n
    · subst e; rw [findI, anyI_false h, hk]; simp
    · have : anyI p n = true := anyI_true (by omega : k < n) hk
      rw [findI, this, if_pos rfl]; exact ih (by omega)
theorem findI_nonneg {p : Nat → Bool} {n : Nat} : 0 ≤ findI p n ↔ anyI p n = true := by
  induction n with
  | zero => simp [findI, anyI]
  | succ n ih =>
    simp only [findI, anyI, Bool.or_eq_true]
    split
    · rename_i h; simp [ih, h]
    · rename_i h
      split
      · rename_i h2; simp [h2] <;> omega
      · rename_i h2; simp [h, h2]
theorem findI_ge {p : Nat → Bool} {n : Nat} : decide (findI p n ≥ 0) = anyI p n := by
  rw [Bool.eq_iff_iff, decide_eq_true_iff]; exact findI_nonneg
def allI (p : Nat → Bool) (n : Nat) : Bool := !anyI (fun i => !p i) n
theorem allI_iff {p : Nat → Bool} {n : Nat} : allI p n = true ↔ ∀ i, i < n → p i = true := by
  simp only [allI, Bool.not_eq_true']
  constructor
  · intro h i hi
    cases hb : p i with
    | true => rfl
    | false => rw [anyI_true (p := fun i => !p i) hi (by simp [hb])] at h; cases h
  · intro h; exact anyI_false fun i hi => by simp [h i hi]
theorem allI_false {p : Nat → Bool} {n i : Nat} (hi : i < n) (h : p i = false) : allI p n = false := by
  cases hb : allI p n with
  | false => rfl
  | true => rw [allI_iff.1 hb i hi] at h; cases h
/-- A slice's front. -/
theorem Sl.take {w : World} {A : Option Addr} {size n c m : Nat} {xs : List Int} (h : Sl w (.slice A n c) size n (ints xs)) (hm : m ≤ n) : Sl w (.slice A m c) size m (ints (xs.take (m * size))) := by
  have hl := h.len
  obtain ⟨_, A', c', he, h1, h2, h3⟩ := h
  injection he with e1 e2 e3
  subst e1; subst e3
  have hle : m * size ≤ n * size := Nat.mul_le_mul_right _ hm
  refine ⟨by simp; omega, A, c, rfl, by omega, h2, fun h0 => ?_⟩
  obtain ⟨b, o, hA, hb, hr⟩ := h3 (by omega)
  refine ⟨b, o, hA, hb, fun j v hv => hr j v ?_⟩
  have : (ints xs)[j]? = (ints (xs.take (m * size)))[j]? := by
    have hj : j < m * size := by
      have := (List.getElem?_eq_some_iff.1 hv).1
      simp at this; omega
    simp [ints, List.getElem?_take, hj]
  rw [this]; exact hv
/-- The numbers k below n with the property. -/
def filterL (p : Nat → Bool) : Nat → List Int
  | 0 => []
  | k + 1 => filterL p k ++ (if p k then [(k : Int)] else [])
def hasI (xs : List Int) (x : Int) (n : Nat) : Bool := anyI (fun i => decide (ix xs i = x)) n
theorem ix_take {xs : List Int} {m i : Nat} (h : i < m) : ix (xs.take m) i = ix xs i := by
  simp [ix, List.getD, List.getElem?_take, h]
theorem hasI_take {xs : List Int} {x : Int} {m : Nat} : hasI (xs.take (m * 1)) x m = hasI xs x m := anyI_congr fun i hi => by rw [ix_take (by omega)]

end Go.Proofs.Ytekikmdjldincaa
/- Walks: valid gates and circuits, the qubits of a gate. -/
set_option linter.unusedSimpArgs false
set_option linter.unusedVariables false
namespace Go.Proofs.Ytekikmdjldincaa
open Go Go.RowKit
namespace CiT
theorem Tagg_39 : aggOf Try.prog 39 = some 2 := by kernel_rfl
theorem Tagg_81 : aggOf Try.prog 81 = some 3 := by kernel_rfl
theorem Tagg_83 : aggOf Try.prog 83 = some 3 := by kernel_rfl
theorem Tcall_102 : callable Try.prog 102 = true := by kernel_rfl
theorem Tcall_27 : callable Try.prog 27 = true := by kernel_rfl
theorem Tcall_29 : callable Try.prog 29 = true := by kernel_rfl
theorem Tcall_33 : callable Try.prog 33 = true := by kernel_rfl
theorem Tcall_39 : callable Try.prog 39 = true := by kernel_rfl
theorem Tcall_48 : callable Try.prog 48 = true := by kernel_rfl
theorem Tcall_59 : callable Try.prog 59 = true := by kernel_rfl
theorem Tcall_61 : callable Try.prog 61 = true := by kernel_rfl
theorem Tcall_73 : callable Try.prog 73 = true := by kernel_rfl
theorem Tcall_85 : callable Try.prog 85 = true := by kernel_rfl
theorem Tcall_91 : callable Try.prog 91 = true := by kernel_rfl
theorem Tcall_95 : callable Try.prog 95 = true := by kernel_rfl
theorem Tcall_96 : callable Try.prog 96 = true := by kernel_rfl
theorem Tcall_97 : callable Try.prog 97 = true := by kernel_rfl
theorem Tfo_27_0 : fieldOff Try.prog 27 0 = some 0 := by kernel_rfl
theorem Tfo_27_1 : fieldOff Try.prog 27 1 = some 1 := by kernel_rfl
theorem Tfo_39_0 : fieldOff Try.prog 39 0 = some 0 := by kernel_rfl
theorem Tfo_39_1 : fieldOff Try.prog 39 1 = some 1 := by kernel_rfl
theorem Tfo_81_0 : fieldOff Try.prog 81 0 = some 0 := by kernel_rfl
theorem Tfo_81_1 : fieldOff Try.prog 81 1 = some 1 := by kernel_rfl
theorem Tfo_81_2 : fieldOff Try.prog 81 2 = some 2 := by kernel_rfl
theorem Tfo_83_0 : fieldOff Try.prog 83 0 = some 0 := by kernel_rfl
theorem Tfo_83_1 : fieldOff Try.prog 83 1 = some 1 := by kernel_rfl
theorem Tfo_83_2 : fieldOff Try.prog 83 2 = some 2 := by kernel_rfl
theorem Tone_25 : oneOf Try.prog 25 = true := by kernel_rfl
theorem Tone_3 : oneOf Try.prog 3 = true := by kernel_rfl
theorem Tone_37 : oneOf Try.prog 37 = true := by kernel_rfl
theorem Tsize_3 : (Try.prog.info? 3).map (·.size) = some 1 := by kernel_rfl
theorem Tsize_37 : (Try.prog.info? 37).map (·.size) = some 1 := by kernel_rfl
theorem Tsize_39 : (Try.prog.info? 39).map (·.size) = some 2 := by kernel_rfl
theorem Tsize_81 : (Try.prog.info? 81).map (·.size) = some 3 := by kernel_rfl
theorem Tsl_25 : sliceOf Try.prog 25 = some (83, 3, 24, [.int .i64 0, .int .i64 0, .int .i64 0]) := by kernel_rfl
theorem Tsl_28 : sliceOf Try.prog 28 = some (3, 1, 8, [.int .i64 0]) := by kernel_rfl
theorem Tsl_37 : sliceOf Try.prog 37 = some (81, 3, 24, [.int .i64 0, .int .i64 0, .int .i64 0]) := by kernel_rfl
theorem Tzero_39 : zeroOf Try.prog 39 = some [.int .i64 0, .slice none 0 0] := by kernel_rfl
theorem Tzero_81 : zeroOf Try.prog 81 = some [.int .i64 0, .int .i64 0, .int .i64 0] := by kernel_rfl
end CiT
open CiT
set_option maxHeartbeats 1000000 in
set_option maxRecDepth 20000 in
theorem szGateS_spec {va : Value} {n : Nat} {xs : List Int} {left : Int} {w : World} (ha : Sl w va 3 n (ints xs)) (h0 : 0 ≤ left) (h1 : left ≤ 1048576) :
    Calls Try.prog 27 #[va, .int .i64 left] w (Post No w fun v _ => v = .int .i64 (szN left [n])) := by
  have hn := ha.le
  obtain ⟨A, c, rfl, _, _⟩ := ha.form0
  refine enter (n := 12) (args := [.slice A n c, .int .i64 left]) Try.func27 rfl rfl (St.empty _ _) ?_
  refine Run.seq ?_
  refine Run.region ?_
  refine Run.q (v := .int .i64 0) rfl (OpQ.y (OpY.pure rfl)) ?_
  refine Run.done ?_
  refine Run.seq ?_
  refine Run.region ?_
  refine Run.q (v := .int .i64 left) rfl (OpQ.y (OpY.pure rfl)) ?_
  refine Run.q (v := .slice A n c) rfl (OpQ.y (OpY.pure rfl)) ?_
  refine Run.q (v := .int .i64 (((n : Nat) : Int))) rfl (OpQ.y (OpY.len Tsl_25 rfl)) ?_
  refine Run.q (v := .int .i64 (left - (((n : Nat) : Int)))) rfl (OpQ.y (OpY.sub rfl rfl rfl (by omega) (by omega))) ?_
  refine Run.q (v := .int .i64 (left - (((n : Nat) : Int)))) rfl (OpQ.y (OpY.pure rfl)) ?_
  refine Run.done ?_
  refine Run.seq ?_
  refine Run.seq ?_
  refine Run.region ?_
  refine Run.q (v := .int .i64 (left - (((n : Nat) : Int)))) rfl (OpQ.y (OpY.pure rfl)) ?_
  refine Run.q (v := .bool (decide ((left - (((n : Nat) : Int))) < 0))) rfl (OpQ.y (OpY.pure rfl)) ?_
  refine Run.done ?_
  refine Run.cond (b := decide ((left - (((n : Nat) : Int))) < 0)) rfl (fun h10 => ?_) (fun h10 => ?_)
  · have p10 := h10; try simp only [bs] at p10
    refine Run.seq ?_
    refine Run.region ?_
    refine Run.q (v := .int .i64 (-1)) rfl (OpQ.y (OpY.pure rfl)) ?_
    refine Run.done ?_
    refine Run.ret ?_
    refine ⟨.int .i64 (-1), [], Out.one rfl rfl, (Some'.weak (.nil _)), ?_⟩
    show _ = _; simp at h10; simp only [szN]; first | rw [if_pos (by omega)] | rw [if_neg (by omega)]
  · have p10 := h10; try simp only [bs] at p10
    refine Run.skip ?_
    refine Run.seq ?_
    refine Run.region ?_
    refine Run.q (v := .int .i64 (left - (((n : Nat) : Int)))) rfl (OpQ.y (OpY.pure rfl)) ?_
    refine Run.q (v := .int .i64 (left - (((n : Nat) : Int)))) rfl (OpQ.y (OpY.pure rfl)) ?_
    refine Run.done ?_
    refine Run.ret ?_
    refine ⟨.int .i64 (left - (((n : Nat) : Int))), [], Out.one rfl rfl, (Some'.weak (.nil _)), ?_⟩
    show _ = _; simp at h10; simp only [szN]; first | rw [if_pos (by omega)] | rw [if_neg (by omega)]

set_option maxHeartbeats 1000000 in
set_option maxRecDepth 20000 in
theorem toGate_spec (x0 x1 x2 : Int) (w : World) : Calls Try.prog 48 #[.agg #[.int .i64 x0, .int .i64 x1, .int .i64 x2]] w (Post No w fun v _ => v = .agg #[.int .i64 x0, .int .i64 x1, .int .i64 x2]) := by
  refine enter (n := 14) (args := [.agg #[.int .i64 x0, .int .i64 x1, .int .i64 x2]]) Try.func48 rfl rfl (St.empty _ _) ?_
  refine Run.seq ?_
  refine Run.region ?_
  refine Run.step rfl (OpStep.box (us := [.int .i64 x0, .int .i64 x1, .int .i64 x2]) rfl fun b1 => ?_)
  refine Run.step rfl (OpStep.alloc (zs := [.int .i64 0, .int .i64 0, .int .i64 0]) Tzero_81 fun b2 => ?_)
  refine Run.done ?_
  refine Run.seq ?_
  refine Run.region ?_
  refine Run.step rfl (OpStep.alloc (zs := [.int .i64 0, .int .i64 0, .int .i64 0]) Tzero_81 fun b3 => ?_)
  refine Run.done ?_
  refine Run.seq ?_
  refine Run.region ?_
  refine Run.q (v := .pointer (some ⟨b1, 0, none⟩)) rfl (OpQ.y (OpY.fieldAddr Tfo_83_0 rfl rfl)) ?_
  refine Run.q (v := .int .i64 x0) rfl (OpQ.y (OpY.load1 Tone_3 rfl (Cells.blk (.tail _ (.tail _ (List.Mem.head _))) ⟨rfl, trivial⟩))) ?_
  refine Run.q (v := .pointer (some ⟨b3, 0, none⟩)) rfl (OpQ.y (OpY.fieldAddr Tfo_81_0 rfl rfl)) ?_
  refine Run.step rfl (OpStep.store (us := [.int .i64 x0]) Tsize_3 rfl rfl rfl (.here _) (by simp only [List.length_cons, List.length_nil]; omega) ?_)
  show Run _ _ _ [.blk b3 81 [.int .i64 x0, .int .i64 0, .int .i64 0], .blk b2 81 [.int .i64 0, .int .i64 0, .int .i64 0], .blk b1 83 [.int .i64 x0, .int .i64 x1, .int .i64 x2]]
  refine Run.done ?_
  refine Run.seq ?_
  refine Run.region ?_
  refine Run.q (v := .pointer (some ⟨b1, 1, none⟩)) rfl (OpQ.y (OpY.fieldAddr Tfo_83_1 rfl rfl)) ?_
  refine Run.q (v := .int .i64 x1) rfl (OpQ.y (OpY.load1 Tone_3 rfl (Cells.blk (.tail _ (.tail _ (List.Mem.head _))) ⟨rfl, trivial⟩))) ?_
  refine Run.q (v := .pointer (some ⟨b3, 1, none⟩)) rfl (OpQ.y (OpY.fieldAddr Tfo_81_1 rfl rfl)) ?_
  refine Run.step rfl (OpStep.store (us := [.int .i64 x1]) Tsize_3 rfl rfl rfl (.here _) (by simp only [List.length_cons, List.length_nil]; omega) ?_)
  show Run _ _ _ [.blk b3 81 [.int .i64 x0, .int .i64 x1, .int .i64 0], .blk b2 81 [.int .i64 0, .int .i64 0, .int .i64 0], .blk b1 83 [.int .i64 x0, .int .i64 x1, .int .i64 x2]]
  refine Run.done ?_
  refine Run.seq ?_
  refine Run.region ?_
  refine Run.q (v := .pointer (some ⟨b1, 2, none⟩)) rfl (OpQ.y (OpY.fieldAddr Tfo_83_2 rfl rfl)) ?_
  refine Run.q (v := .int .i64 x2) rfl (OpQ.y (OpY.load1 Tone_3 rfl (Cells.blk (.tail _ (.tail _ (List.Mem.head _))) ⟨rfl, trivial⟩))) ?_
  refine Run.q (v := .pointer (some ⟨b3, 2, none⟩)) rfl (OpQ.y (OpY.fieldAddr Tfo_81_2 rfl rfl)) ?_
  refine Run.step rfl (OpStep.store (us := [.int .i64 x2]) Tsize_3 rfl rfl rfl (.here _) (by simp only [List.length_cons, List.length_nil]; omega) ?_)
  show Run _ _ _ [.blk b3 81 [.int .i64 x0, .int .i64 x1, .int .i64 x2], .blk b2 81 [.int .i64 0, .int .i64 0, .int .i64 0], .blk b1 83 [.int .i64 x0, .int .i64 x1, .int .i64 x2]]
  refine Run.done ?_
  refine Run.seq ?_
  refine Run.region ?_
  refine Run.q (v := .agg #[.int .i64 x0, .int .i64 x1, .int .i64 x2]) rfl (OpQ.y (OpY.loadN (cs := [.int .i64 x0, .int .i64 x1, .int .i64 x2]) Tagg_81 rfl (Cells.blk (.head _) ⟨rfl, rfl, rfl, trivial⟩))) ?_
  refine Run.step rfl (OpStep.storeAll (us := [.int .i64 x0, .int .i64 x1, .int .i64 x2]) Tsize_81 rfl rfl rfl (.there _ (.here _)) rfl ?_)
  refine Run.done ?_
  refine Run.ret ?_
  refine ⟨.agg #[.int .i64 x0, .int .i64 x1, .int .i64 x2], [], Out.cell1 (cs := [.int .i64 x0, .int .i64 x1, .int .i64 x2]) rfl Tagg_81 rfl (Cells.blk (.tail _ (List.Mem.head _)) ⟨rfl, rfl, rfl, trivial⟩), (Some'.weak (.nil _)), ?_⟩
  rfl

set_option maxHeartbeats 1000000 in
set_option maxRecDepth 20000 in
theorem toGateS_spec {va : Value} {n : Nat} {xs : List Int} {w : World} (ha : Sl w va 3 n (ints xs)) (hb : n ≤ 1048576) :
    Calls Try.prog 29 #[va] w (Post No w fun v H => H = [.own v 81 3 n (ints xs)]) := by
  have hxl := ha.len
  obtain ⟨A, c, rfl, _, _⟩ := ha.form0
  refine enter (n := 23) (args := [.slice A n c]) Try.func29 rfl rfl (St.empty _ _) ?_
  refine Run.seq ?_
  refine Run.region ?_
  refine Run.q (v := .slice none 0 0) rfl (OpQ.y (OpY.pure rfl)) ?_
  refine Run.done ?_
  refine Run.seq ?_
  refine Run.region ?_
  refine Run.q (v := .slice A n c) rfl (OpQ.y (OpY.pure rfl)) ?_
  refine Run.q (v := .int .i64 (((n : Nat) : Int))) rfl (OpQ.y (OpY.len Tsl_25 rfl)) ?_
  refine Run.step rfl (OpStep.makeSlice (n := n) Tsl_37 rfl (by decide) (by first | rfl | omega) (by first | rfl | omega) (by omega) (by simp only [maxLen]; omega) fun b1 => ?_)
  refine Run.q (v := .slice (some ⟨b1, 0, none⟩) n n) rfl (OpQ.y (OpY.pure rfl)) ?_
  refine Run.done ?_
  refine Run.seq ?_
  refine Run.seq ?_
  refine Run.region ?_
  refine Run.q (v := .int .i64 0) rfl (OpQ.y (OpY.pure rfl)) ?_
  refine Run.done ?_
  refine Run.block ?_
  refine Run.loop (ι := Nat) [4, 8, 9, 10, 11, 12, 13, 14, 15, 16, 17, 18, 19, 20, 21] (fun i => [(4, .int .i64 (((i : Nat) : Int)))]) (fun i => [.own (.slice (some ⟨b1, 0, none⟩) n n) 81 3 n (ints (filled (i * 3) xs))]) (fun i => i ≤ n) (fun i => n - i) 0 ?_ ?_ ?_ ?_
  · exact Nat.zero_le _
  · exact ⟨rfl, trivial⟩
  · exact (Some'.weak (.takeEq (by rw [Nat.zero_mul]; exact congrArg (Res.own _ _ _ _) (filled_zero hxl)) (.nil _)))
  · rintro i fr hinv
    show Run _ _ (over _ _ [(4, .int .i64 (((i : Nat) : Int)))] fr) [.own (.slice (some ⟨b1, 0, none⟩) n n) 81 3 n (ints (filled (i * 3) xs))]
    try dsimp only at hinv
    refine Run.seq ?_
    refine Run.seq ?_
    refine Run.region ?_
    refine Run.q (v := .int .i64 (((i : Nat) : Int))) rfl (OpQ.y (OpY.pure rfl)) ?_
    refine Run.q (v := .slice A n c) rfl (OpQ.y (OpY.pure rfl)) ?_
    refine Run.q (v := .int .i64 (((n : Nat) : Int))) rfl (OpQ.y (OpY.len Tsl_25 rfl)) ?_
    refine Run.q (v := .bool (decide ((((i : Nat) : Int)) < (((n : Nat) : Int))))) rfl (OpQ.y (OpY.pure rfl)) ?_
    refine Run.done ?_
    refine Run.cond (b := decide ((((i : Nat) : Int)) < (((n : Nat) : Int)))) rfl (fun h11 => ?_) (fun h11 => ?_)
    · have p11 := h11; try simp only [bs] at p11
      have hlt : i < n := by simp at h11; omega
      obtain ⟨b, o, rfl⟩ := ha.opn (by omega)
      refine Run.skip ?_
      refine Run.seq ?_
      refine Run.block ?_
      refine Run.region ?_
      refine Run.q (v := .slice (some ⟨b1, 0, none⟩) n n) rfl (OpQ.y (OpY.pure rfl)) ?_
      refine Run.q (v := .int .i64 (((i : Nat) : Int))) rfl (OpQ.y (OpY.pure rfl)) ?_
      refine Run.q (v := .slice (some ⟨b, o, none⟩) n c) rfl (OpQ.y (OpY.pure rfl)) ?_
      refine Run.q (v := .int .i64 (((i : Nat) : Int))) rfl (OpQ.y (OpY.pure rfl)) ?_
      refine Run.q (v := .pointer (some ⟨b, o + i * 3, none⟩)) rfl (OpQ.y (OpY.index (kk := i) Tsl_25 rfl rfl (by omega) (by omega) (by first | rfl | omega))) ?_
      refine Run.q (v := .agg #[.int .i64 (ix xs (i * 3)), .int .i64 (ix xs (i * 3 + 1)), .int .i64 (ix xs (i * 3 + 2))]) rfl (OpQ.y (OpY.loadN (cs := [.int .i64 (ix xs (i * 3)), .int .i64 (ix xs (i * 3 + 1)), .int .i64 (ix xs (i * 3 + 2))]) Tagg_83 rfl (Cells.arg (k := i * 3) ha rfl (by omega) (pre3 (by omega))))) ?_
      refine Run.q (v := .agg #[.int .i64 (ix xs (i * 3)), .int .i64 (ix xs (i * 3 + 1)), .int .i64 (ix xs (i * 3 + 2))]) rfl (OpQ.call (vs := [.agg #[.int .i64 (ix xs (i * 3)), .int .i64 (ix xs (i * 3 + 1)), .int .i64 (ix xs (i * 3 + 2))]]) (caps := []) Tcall_48 rfl rfl (fun w hs => toGate_spec _ _ _  w)) ?_
      refine Run.q (v := .pointer (some ⟨b1, i * 3, none⟩)) rfl (OpQ.y (OpY.index (kk := i) Tsl_37 rfl rfl (by omega) (by omega) (by first | rfl | omega))) ?_
      refine Run.step rfl (OpStep.storeOwnInt3 (o := i * 3) (a := ix xs (i * 3)) (b := ix xs (i * 3 + 1)) (c := ix xs (i * 3 + 2)) Tsize_81 rfl rfl (.here _) (by omega) ?_)
      refine Run.done ?_
      refine Run.blockEnd ?_
      refine Run.region ?_
      refine Run.q (v := .int .i64 (((i : Nat) : Int))) rfl (OpQ.y (OpY.pure rfl)) ?_
      refine Run.q (v := .int .i64 ((((i : Nat) : Int)) + 1)) rfl (OpQ.y (OpY.add rfl rfl rfl (by omega) (by omega))) ?_
      refine Run.q (v := .int .i64 ((((i : Nat) : Int)) + 1)) rfl (OpQ.y (OpY.pure rfl)) ?_
      refine Run.done ?_
      refine Run.goal ⟨(by repeat (first | exact Same.refl _ _ | refine Same.put rfl ?_ | refine Same.over rfl rfl ?_)), i + 1, ?_, ?_, ?_, ?_⟩
      · omega
      · omega
      · exact ⟨(by first | rfl | (congr 1; omega) | simp), trivial⟩
      · exact (Some'.weak (.takeEq (congrArg (fun z => Res.own _ _ _ _ (ints z)) (filled_set3 (by omega))) (.nil _)))
    · have p11 := h11; try simp only [bs] at p11
      have hkn : i = n := by simp at h11; omega
      refine Run.exit rfl ?_
      refine Run.seq ?_
      refine Run.region ?_
      refine Run.q (v := .slice (some ⟨b1, 0, none⟩) n n) rfl (OpQ.y (OpY.pure rfl)) ?_
      refine Run.q (v := .slice (some ⟨b1, 0, none⟩) n n) rfl (OpQ.y (OpY.pure rfl)) ?_
      refine Run.done ?_
      refine Run.ret ?_
      refine ⟨.slice (some ⟨b1, 0, none⟩) n n, [.own (.slice (some ⟨b1, 0, none⟩) n n) 81 3 n (ints xs)], Out.one rfl rfl, (Some'.weak (.takeEq (by rw [filled_all (by omega)]) (.nil _))), ?_⟩
      rfl

set_option maxHeartbeats 1000000 in
set_option maxRecDepth 20000 in
theorem szCircuit_spec {Qubits : Int} {vGates : Value} {nGates : Nat} {xsGates : List Int} {left : Int} {w : World} (hGates : Sl w vGates 3 nGates (ints xsGates)) (h0 : 0 ≤ left) (h1 : left ≤ 1048576) : Calls Try.prog 7 #[.agg #[.int .i64 Qubits, vGates], .int .i64 left] w (Post No w fun v _ => v = .int .i64 (szN left [nGates])) := by
  refine enter (n := 12) (args := [.agg #[.int .i64 Qubits, vGates], .int .i64 left]) Try.func7 rfl rfl (St.empty _ _) ?_
  refine Run.seq ?_
  refine Run.region ?_
  refine Run.step rfl (OpStep.box (us := [.int .i64 Qubits, vGates]) rfl fun b1 => ?_)
  refine Run.q (v := .int .i64 0) rfl (OpQ.y (OpY.pure rfl)) ?_
  refine Run.done ?_
  refine Run.seq ?_
  refine Run.region ?_
  refine Run.q (v := .pointer (some ⟨b1, 1, none⟩)) rfl (OpQ.y (OpY.fieldAddr Tfo_27_1 rfl rfl)) ?_
  refine Run.q (v := vGates) rfl (OpQ.y (OpY.load1 Tone_25 rfl (Cells.blk (.head _) ⟨rfl, trivial⟩))) ?_
  refine Run.q (v := .int .i64 left) rfl (OpQ.y (OpY.pure rfl)) ?_
  refine Run.q (v := .int .i64 (szN left [nGates])) rfl (OpQ.call (vs := [vGates, .int .i64 left]) (caps := []) Tcall_27 rfl rfl (fun w hs => szGateS_spec (hs.sl hGates) (by omega) (by omega))) ?_
  refine Run.q (v := .int .i64 (szN left [nGates])) rfl (OpQ.y (OpY.pure rfl)) ?_
  refine Run.done ?_
  refine Run.seq ?_
  refine Run.seq ?_
  refine Run.region ?_
  refine Run.q (v := .int .i64 (szN left [nGates])) rfl (OpQ.y (OpY.pure rfl)) ?_
  refine Run.q (v := .bool (decide ((szN left [nGates]) < 0))) rfl (OpQ.y (OpY.pure rfl)) ?_
  refine Run.done ?_
  refine Run.cond (b := decide ((szN left [nGates]) < 0)) rfl (fun h10 => ?_) (fun h10 => ?_)
  · have p10 := h10; try simp only [bs] at p10
    refine Run.seq ?_
    refine Run.region ?_
    refine Run.q (v := .int .i64 (-1)) rfl (OpQ.y (OpY.pure rfl)) ?_
    refine Run.done ?_
    refine Run.ret ?_
    refine ⟨.int .i64 (-1), [], Out.one rfl rfl, (Some'.weak (.nil _)), ?_⟩
    show _ = _; first | (simp_all [szN]; done) | (simp only [decide_eq_true_eq, decide_eq_false_iff_not, szN] at *; grind)
  · have p10 := h10; try simp only [bs] at p10
    have hz10 := szN_bound (ns := [nGates]) (l := left) p10 nGates (by simp)
    refine Run.skip ?_
    refine Run.seq ?_
    refine Run.region ?_
    refine Run.q (v := .int .i64 (szN left [nGates])) rfl (OpQ.y (OpY.pure rfl)) ?_
    refine Run.q (v := .int .i64 (szN left [nGates])) rfl (OpQ.y (OpY.pure rfl)) ?_
    refine Run.done ?_
    refine Run.ret ?_
    refine ⟨.int .i64 (szN left [nGates]), [], Out.one rfl rfl, (Some'.weak (.nil _)), ?_⟩
    show _ = _; first | (simp_all [szN]; done) | (simp only [decide_eq_true_eq, decide_eq_false_iff_not, szN] at *; grind)

set_option maxHeartbeats 1000000 in
set_option maxRecDepth 20000 in
theorem toCircuit_spec {Qubits : Int} {vGates : Value} {nGates : Nat} {xsGates : List Int} {w : World} (hGates : Sl w vGates 3 nGates (ints xsGates)) (hbGates : nGates ≤ 1048576) : Calls Try.prog 10 #[.agg #[.int .i64 Qubits, vGates]] w (Post No w fun v H => ∃ uGates, v = .agg #[.int .i64 Qubits, uGates] ∧ H = [.own uGates 81 3 nGates (ints xsGates)]) := by
  refine enter (n := 12) (args := [.agg #[.int .i64 Qubits, vGates]]) Try.func10 rfl rfl (St.empty _ _) ?_
  refine Run.seq ?_
  refine Run.region ?_
  refine Run.step rfl (OpStep.box (us := [.int .i64 Qubits, vGates]) rfl fun b1 => ?_)
  refine Run.step rfl (OpStep.alloc (zs := [.int .i64 0, .slice none 0 0]) Tzero_39 fun b2 => ?_)
  refine Run.done ?_
  refine Run.seq ?_
  refine Run.region ?_
  refine Run.step rfl (OpStep.alloc (zs := [.int .i64 0, .slice none 0 0]) Tzero_39 fun b3 => ?_)
  refine Run.done ?_
  refine Run.seq ?_
  refine Run.region ?_
  refine Run.q (v := .pointer (some ⟨b1, 0, none⟩)) rfl (OpQ.y (OpY.fieldAddr Tfo_27_0 rfl rfl)) ?_
  refine Run.q (v := .int .i64 Qubits) rfl (OpQ.y (OpY.load1 Tone_3 rfl (Cells.blk (.tail _ (.tail _ (List.Mem.head _))) ⟨rfl, trivial⟩))) ?_
  refine Run.q (v := .pointer (some ⟨b3, 0, none⟩)) rfl (OpQ.y (OpY.fieldAddr Tfo_39_0 rfl rfl)) ?_
  refine Run.step rfl (OpStep.store (us := [.int .i64 Qubits]) Tsize_3 rfl rfl rfl (.here _) (by simp only [List.length_cons, List.length_nil]; omega) ?_)
  show Run _ _ _ [.blk b3 39 [.int .i64 Qubits, .slice none 0 0], .blk b2 39 [.int .i64 0, .slice none 0 0], .blk b1 27 [.int .i64 Qubits, vGates]]
  refine Run.done ?_
  refine Run.seq ?_
  refine Run.region ?_
  refine Run.q (v := .pointer (some ⟨b1, 1, none⟩)) rfl (OpQ.y (OpY.fieldAddr Tfo_27_1 rfl rfl)) ?_
  refine Run.q (v := vGates) rfl (OpQ.y (OpY.load1 Tone_25 rfl (Cells.blk (.tail _ (.tail _ (List.Mem.head _))) ⟨rfl, trivial⟩))) ?_
  refine Run.step rfl (OpStep.call (vs := [vGates]) (caps := []) Tcall_29 rfl rfl (fun w hs => toGateS_spec (hs.sl hGates) (by omega)) ?_)
  rintro uGates _ rfl
  show Run _ _ (putF _ _ _ uGates) [.own uGates 81 3 nGates (ints xsGates), .blk b3 39 [.int .i64 Qubits, .slice none 0 0], .blk b2 39 [.int .i64 0, .slice none 0 0], .blk b1 27 [.int .i64 Qubits, vGates]]
  refine Run.q (v := .pointer (some ⟨b3, 1, none⟩)) rfl (OpQ.y (OpY.fieldAddr Tfo_39_1 rfl rfl)) ?_
  refine Run.formOwn (.head _) (fun A_uGates1 c_uGates1 hv hcapc_uGates1 hmaxc_uGates1 => ?_) (fun _ _ _ => ⟨nofun, nofun, nofun⟩)
  subst hv
  refine Run.step rfl (OpStep.store (us := [.slice A_uGates1 nGates c_uGates1]) Tsize_37 rfl rfl rfl (.there _ (.here _)) (by simp only [List.length_cons, List.length_nil]; omega) ?_)
  show Run _ _ _ [.own (.slice A_uGates1 nGates c_uGates1) 81 3 nGates (ints xsGates), .blk b3 39 [.int .i64 Qubits, .slice A_uGates1 nGates c_uGates1], .blk b2 39 [.int .i64 0, .slice none 0 0], .blk b1 27 [.int .i64 Qubits, vGates]]
  refine Run.done ?_
  refine Run.seq ?_
  refine Run.region ?_
  refine Run.q (v := .agg #[.int .i64 Qubits, .slice A_uGates1 nGates c_uGates1]) rfl (OpQ.y (OpY.loadN (cs := [.int .i64 Qubits, .slice A_uGates1 nGates c_uGates1]) Tagg_39 rfl (Cells.blk (.tail _ (List.Mem.head _)) ⟨rfl, rfl, trivial⟩))) ?_
  refine Run.step rfl (OpStep.storeAll (us := [.int .i64 Qubits, .slice A_uGates1 nGates c_uGates1]) Tsize_39 rfl rfl rfl (.there _ (.there _ (.here _))) rfl ?_)
  refine Run.done ?_
  refine Run.ret ?_
  refine ⟨.agg #[.int .i64 Qubits, .slice A_uGates1 nGates c_uGates1], [.own (.slice A_uGates1 nGates c_uGates1) 81 3 nGates (ints xsGates)], Out.cell1 (cs := [.int .i64 Qubits, .slice A_uGates1 nGates c_uGates1]) rfl Tagg_39 rfl (Cells.blk (.tail _ (.tail _ (List.Mem.head _))) ⟨rfl, rfl, trivial⟩), (Some'.weak (.take (.nil _))), ?_⟩
  exact ⟨_, rfl, rfl⟩

set_option maxHeartbeats 1000000 in
set_option maxRecDepth 20000 in
theorem eqCircuit_true {Qubits : Int} {vGates : Value} {nGates : Nat} {xsGates : List Int} {qvGates : Value} {w : World} (hGates : Sl w vGates 3 nGates (ints xsGates)) (qhGates : Sl w qvGates 3 nGates (ints xsGates)) : Calls Try.prog 14 #[.agg #[.int .i64 Qubits, vGates], .agg #[.int .i64 Qubits, qvGates]] w (Post No w fun v _ => v = .bool true) := by
  refine enter (n := 16) (args := [.agg #[.int .i64 Qubits, vGates], .agg #[.int .i64 Qubits, qvGates]]) Try.func14 rfl rfl (St.empty _ _) ?_
  refine Run.seq ?_
  refine Run.region ?_
  refine Run.step rfl (OpStep.box (us := [.int .i64 Qubits, vGates]) rfl fun b1 => ?_)
  refine Run.step rfl (OpStep.box (us := [.int .i64 Qubits, qvGates]) rfl fun b2 => ?_)
  refine Run.q (v := .bool false) rfl (OpQ.y (OpY.pure rfl)) ?_
  refine Run.done ?_
  refine Run.seq ?_
  refine Run.seq ?_
  refine Run.region ?_
  refine Run.q (v := .pointer (some ⟨b1, 0, none⟩)) rfl (OpQ.y (OpY.fieldAddr Tfo_39_0 rfl rfl)) ?_
  refine Run.q (v := .int .i64 Qubits) rfl (OpQ.y (OpY.load1 Tone_3 rfl (Cells.blk (.tail _ (List.Mem.head _)) ⟨rfl, trivial⟩))) ?_
  refine Run.q (v := .pointer (some ⟨b2, 0, none⟩)) rfl (OpQ.y (OpY.fieldAddr Tfo_39_0 rfl rfl)) ?_
  refine Run.q (v := .int .i64 Qubits) rfl (OpQ.y (OpY.load1 Tone_3 rfl (Cells.blk (.head _) ⟨rfl, trivial⟩))) ?_
  refine Run.q (v := .bool false) rfl (OpQ.y (OpY.neqSame rfl rfl rfl)) ?_
  refine Run.done ?_
  refine Run.cond (b := false) rfl (fun h => nomatch h) (fun _ => ?_)
  refine Run.skip ?_
  refine Run.seq ?_
  refine Run.seq ?_
  refine Run.region ?_
  refine Run.q (v := .pointer (some ⟨b1, 1, none⟩)) rfl (OpQ.y (OpY.fieldAddr Tfo_39_1 rfl rfl)) ?_
  refine Run.q (v := vGates) rfl (OpQ.y (OpY.load1 Tone_37 rfl (Cells.blk (.tail _ (List.Mem.head _)) ⟨rfl, trivial⟩))) ?_
  refine Run.q (v := .pointer (some ⟨b2, 1, none⟩)) rfl (OpQ.y (OpY.fieldAddr Tfo_39_1 rfl rfl)) ?_
  refine Run.q (v := qvGates) rfl (OpQ.y (OpY.load1 Tone_37 rfl (Cells.blk (.head _) ⟨rfl, trivial⟩))) ?_
  refine Run.q (v := .bool true) rfl (OpQ.call (vs := [vGates, qvGates]) (caps := []) Tcall_33 rfl rfl (fun w hs => eqGateS_true (hs.sl hGates) (hs.sl qhGates) rfl)) ?_
  refine Run.q (v := .bool false) rfl (OpQ.y (OpY.pure rfl)) ?_
  refine Run.done ?_
  refine Run.cond (b := false) rfl (fun h => nomatch h) (fun _ => ?_)
  refine Run.skip ?_
  refine Run.seq ?_
  refine Run.region ?_
  refine Run.q (v := .bool true) rfl (OpQ.y (OpY.pure rfl)) ?_
  refine Run.done ?_
  refine Run.ret ?_
  refine ⟨.bool true, [], Out.one rfl rfl, (Some'.weak (.nil _)), ?_⟩
  rfl

set_option maxHeartbeats 1000000 in
set_option maxRecDepth 20000 in
theorem markCircuit_spec {Qubits : Int} {vGates : Value} {nGates : Nat} {xsGates : List Int} {k : Int} {w : World} (hst : St (Of [.own vGates 81 3 nGates (ints xsGates)]) w w [.own vGates 81 3 nGates (ints xsGates)]) (h0 : 0 ≤ k) (hk : k + ((nGates : Nat) : Int) * 3 < 4611686018427387904) :
    Calls Try.prog 20 #[.agg #[.int .i64 Qubits, vGates], .int .i64 k] w (Post (Of [.own vGates 81 3 nGates (ints xsGates)]) w fun v H => v = .int .i64 (k + ((nGates : Nat) : Int) * 3) ∧ H = [.own vGates 81 3 nGates (ints (mks (k) (nGates * 3)))]) := by
  refine enter (n := 10) (args := [.agg #[.int .i64 Qubits, vGates], .int .i64 k]) Try.func20 rfl rfl (hst) ?_
  refine Run.seq ?_
  refine Run.region ?_
  refine Run.step rfl (OpStep.box (us := [.int .i64 Qubits, vGates]) rfl fun b1 => ?_)
  refine Run.q (v := .int .i64 0) rfl (OpQ.y (OpY.pure rfl)) ?_
  refine Run.done ?_
  refine Run.seq ?_
  refine Run.region ?_
  refine Run.q (v := .pointer (some ⟨b1, 1, none⟩)) rfl (OpQ.y (OpY.fieldAddr Tfo_39_1 rfl rfl)) ?_
  refine Run.q (v := vGates) rfl (OpQ.y (OpY.load1 Tone_37 rfl (Cells.blk (.head _) ⟨rfl, trivial⟩))) ?_
  refine Run.q (v := .int .i64 k) rfl (OpQ.y (OpY.pure rfl)) ?_
  refine Run.step rfl (OpStep.callM (H1 := [.own vGates 81 3 nGates (ints xsGates)]) (H2 := [.blk b1 39 [.int .i64 Qubits, vGates]]) (vs := [vGates, .int .i64 k]) (caps := []) Tcall_39 rfl rfl (Weak.selF [1]) (fun w hs => markGateS_spec (hs.holds _ (.head _)) (by omega) (by omega)) ?_)
  rintro _ _ ⟨rfl, rfl⟩
  show Run _ _ (putF _ _ _ (.int .i64 (k + ((nGates : Nat) : Int) * 3))) [.own vGates 81 3 nGates (ints (mks k (nGates * 3))), .blk b1 39 [.int .i64 Qubits, vGates]]
  refine Run.q (v := .int .i64 (k + ((nGates : Nat) : Int) * 3)) rfl (OpQ.y (OpY.pure rfl)) ?_
  refine Run.done ?_
  refine Run.seq ?_
  refine Run.region ?_
  refine Run.q (v := .int .i64 (k + ((nGates : Nat) : Int) * 3)) rfl (OpQ.y (OpY.pure rfl)) ?_
  refine Run.q (v := .int .i64 (k + ((nGates : Nat) : Int) * 3)) rfl (OpQ.y (OpY.pure rfl)) ?_
  refine Run.done ?_
  refine Run.ret ?_
  refine ⟨.int .i64 (k + ((nGates : Nat) : Int) * 3), [.own vGates 81 3 nGates (ints (mks (k) (nGates * 3)))], Out.one rfl rfl, (Some'.weak (.takeEq (by first | rfl | simp) (.nil _))), ?_⟩
  exact ⟨rfl, rfl⟩


def gateOk (n k a b : Int) : Bool := decide ((1 ≤ k ∧ k ≤ 8 ∧ 0 ≤ a ∧ a < n ∧ b = 0) ∨ (9 ≤ k ∧ k ≤ 11 ∧ 0 ≤ a ∧ a < n ∧ 0 ≤ b ∧ b < n ∧ a ≠ b) ∨ (k = 12 ∧ a = 0 ∧ b = 0))
def gateAt (n : Int) (xs : List Int) (i : Nat) : Bool := gateOk n (ix xs (i * 3)) (ix xs (i * 3 + 1)) (ix xs (i * 3 + 2))
def circOk (N : Int) (xs : List Int) (n : Nat) : Bool := within N 1 5 && decide (n ≤ 400) && allI (gateAt N xs) n
theorem circOk_N {N : Int} {xs : List Int} {n : Nat} (h : circOk N xs n = true) : 1 ≤ N ∧ N ≤ 5 := by
  simp only [circOk, Bool.and_eq_true] at h; exact within_iff.1 h.1.1
theorem circOk_n {N : Int} {xs : List Int} {n : Nat} (h : circOk N xs n = true) : n ≤ 400 := by
  simp only [circOk, Bool.and_eq_true, decide_eq_true_eq] at h; exact h.1.2
theorem circOk_gate {N : Int} {xs : List Int} {n : Nat} (h : circOk N xs n = true) {i : Nat} (hi : i < n) : gateAt N xs i = true := by
  simp only [circOk, Bool.and_eq_true] at h; exact allI_iff.1 h.2 i hi
theorem gateOk_split {n k a b : Int} (h : gateOk n k a b = true) : (1 ≤ k ∧ k ≤ 8 ∧ 0 ≤ a ∧ a < n ∧ b = 0) ∨ (9 ≤ k ∧ k ≤ 11 ∧ 0 ≤ a ∧ a < n ∧ 0 ≤ b ∧ b < n ∧ a ≠ b) ∨ (k = 12 ∧ a = 0 ∧ b = 0) := of_decide_eq_true h
/-- The qubits of a gate. -/
def qs (k a b : Int) : List Int := if k = 12 then [] else if 9 ≤ k ∧ k ≤ 11 then [a, b] else [a]
theorem qs_le (k a b : Int) : (qs k a b).length ≤ 2 := by unfold qs; split <;> (try split) <;> simp

set_option maxHeartbeats 1000000 in
set_option maxRecDepth 20000 in
theorem isTwo_spec (k : Int) (w : World) : Calls Try.prog 85 #[.int .i64 k] w (Post No w fun v _ => v = .bool (decide (9 ≤ k ∧ k ≤ 11))) := by
  refine enter (n := 5) (args := [.int .i64 k]) Try.func85 rfl rfl (St.empty _ _) ?_
  refine Run.seq ?_
  refine Run.region ?_
  refine Run.q (v := .bool false) rfl (OpQ.y (OpY.pure rfl)) ?_
  refine Run.done ?_
  refine Run.seq ?_
  refine Run.region ?_
  refine Run.q (v := .int .i64 k) rfl (OpQ.y (OpY.pure rfl)) ?_
  refine Run.q (v := .bool (within k 9 11)) rfl (OpQ.call (vs := [.int .i64 k, .int .i64 9, .int .i64 11]) (caps := []) Tcall_73 rfl rfl (fun w hs => within_spec _ _ _ w)) ?_
  refine Run.q (v := .bool (within k 9 11)) rfl (OpQ.y (OpY.pure rfl)) ?_
  refine Run.done ?_
  refine Run.ret ?_
  refine ⟨.bool (within k 9 11), [], Out.one rfl rfl, (Some'.weak (.nil _)), ?_⟩
  show _ = _; rw [within, Bool.decide_and]

set_option maxHeartbeats 1000000 in
set_option maxRecDepth 20000 in
theorem l22Two_spec (k a b : Int) (w : World) : Calls Try.prog 59 #[.agg #[.int .i64 k, .int .i64 a, .int .i64 b]] w (Post No w fun v _ => v = .bool (decide (9 ≤ k ∧ k ≤ 11))) := by
  refine enter (n := 16) (args := [.agg #[.int .i64 k, .int .i64 a, .int .i64 b]]) Try.func59 rfl rfl (St.empty _ _) ?_
  refine Run.seq ?_
  refine Run.region ?_
  refine Run.step rfl (OpStep.box (us := [.int .i64 k, .int .i64 a, .int .i64 b]) rfl fun b1 => ?_)
  refine Run.q (v := .bool false) rfl (OpQ.y (OpY.pure rfl)) ?_
  refine Run.done ?_
  refine Run.seq ?_
  refine Run.region ?_
  refine Run.q (v := .pointer (some ⟨b1, 0, none⟩)) rfl (OpQ.y (OpY.fieldAddr Tfo_81_0 rfl rfl)) ?_
  refine Run.q (v := .int .i64 k) rfl (OpQ.y (OpY.load1 Tone_3 rfl (Cells.blk (.head _) ⟨rfl, trivial⟩))) ?_
  refine Run.q (v := .bool (k == 9)) rfl (OpQ.y (OpY.pure rfl)) ?_
  rcases Bool.eq_false_or_eq_true (k == 9) with h6 | h6
  · refine Run.q (v := .bool true) rfl (OpQ.y (OpY.moveB rfl h6)) ?_
    have p6 := h6; try simp only [bs] at p6
    refine Run.pass rfl ?_
    refine Run.pass rfl ?_
    refine Run.pass rfl ?_
    refine Run.q (v := .bool true) rfl (OpQ.y (OpY.pure rfl)) ?_
    refine Run.q (v := .bool true) rfl (OpQ.y (OpY.pure rfl)) ?_
    refine Run.pass rfl ?_
    refine Run.pass rfl ?_
    refine Run.pass rfl ?_
    refine Run.q (v := .bool true) rfl (OpQ.y (OpY.pure rfl)) ?_
    refine Run.q (v := .bool true) rfl (OpQ.y (OpY.pure rfl)) ?_
    refine Run.done ?_
    refine Run.ret ?_
    refine ⟨.bool true, [], Out.one rfl rfl, (Some'.weak (.nil _)), ?_⟩
    show _ = _; congr 1; rw [eq_comm]; first | (rw [decide_eq_true_iff]; omega) | (rw [decide_eq_false_iff_not]; omega) | (rw [Bool.eq_iff_iff, decide_eq_true_iff, beq_iff_eq]; omega)
  · refine Run.q (v := .bool false) rfl (OpQ.y (OpY.moveB rfl h6)) ?_
    have p6 := h6; try simp only [bs] at p6
    refine Run.q (v := .pointer (some ⟨b1, 0, none⟩)) rfl (OpQ.y (OpY.fieldAddr Tfo_81_0 rfl rfl)) ?_
    refine Run.q (v := .int .i64 k) rfl (OpQ.y (OpY.load1 Tone_3 rfl (Cells.blk (.head _) ⟨rfl, trivial⟩))) ?_
    refine Run.q (v := .bool (k == 10)) rfl (OpQ.y (OpY.pure rfl)) ?_
    refine Run.q (v := .bool (k == 10)) rfl (OpQ.y (OpY.pure rfl)) ?_
    rcases Bool.eq_false_or_eq_true (k == 10) with h11 | h11
    · refine Run.q (v := .bool true) rfl (OpQ.y (OpY.moveB rfl h11)) ?_
      have p11 := h11; try simp only [bs] at p11
      refine Run.pass rfl ?_
      refine Run.pass rfl ?_
      refine Run.pass rfl ?_
      refine Run.q (v := .bool true) rfl (OpQ.y (OpY.pure rfl)) ?_
      refine Run.q (v := .bool true) rfl (OpQ.y (OpY.pure rfl)) ?_
      refine Run.done ?_
      refine Run.ret ?_
      refine ⟨.bool true, [], Out.one rfl rfl, (Some'.weak (.nil _)), ?_⟩
      show _ = _; congr 1; rw [eq_comm]; first | (rw [decide_eq_true_iff]; omega) | (rw [decide_eq_false_iff_not]; omega) | (rw [Bool.eq_iff_iff, decide_eq_true_iff, beq_iff_eq]; omega)
    · refine Run.q (v := .bool false) rfl (OpQ.y (OpY.moveB rfl h11)) ?_
      have p11 := h11; try simp only [bs] at p11
      refine Run.q (v := .pointer (some ⟨b1, 0, none⟩)) rfl (OpQ.y (OpY.fieldAddr Tfo_81_0 rfl rfl)) ?_
      refine Run.q (v := .int .i64 k) rfl (OpQ.y (OpY.load1 Tone_3 rfl (Cells.blk (.head _) ⟨rfl, trivial⟩))) ?_
      refine Run.q (v := .bool (k == 11)) rfl (OpQ.y (OpY.pure rfl)) ?_
      refine Run.q (v := .bool (k == 11)) rfl (OpQ.y (OpY.pure rfl)) ?_
      refine Run.q (v := .bool (k == 11)) rfl (OpQ.y (OpY.pure rfl)) ?_
      refine Run.done ?_
      refine Run.ret ?_
      refine ⟨.bool (k == 11), [], Out.one rfl rfl, (Some'.weak (.nil _)), ?_⟩
      show _ = _; congr 1; rw [eq_comm]; first | (rw [decide_eq_true_iff]; omega) | (rw [decide_eq_false_iff_not]; omega) | (rw [Bool.eq_iff_iff, decide_eq_true_iff, beq_iff_eq]; omega)

set_option maxHeartbeats 1000000 in
set_option maxRecDepth 20000 in
theorem l4Gate_spec {n k a b : Int} (hn : 1 ≤ n ∧ n ≤ 5) (w : World) : Calls Try.prog 91 #[.int .i64 n, .agg #[.int .i64 k, .int .i64 a, .int .i64 b]] w (Post No w fun v _ => v = .bool (gateOk n k a b)) := by
  have hn5 := within_iff.2 hn
  refine enter (n := 55) (args := [.int .i64 n, .agg #[.int .i64 k, .int .i64 a, .int .i64 b]]) Try.func91 rfl rfl (St.empty _ _) ?_
  refine Run.seq ?_
  refine Run.region ?_
  refine Run.step rfl (OpStep.box (us := [.int .i64 k, .int .i64 a, .int .i64 b]) rfl fun b1 => ?_)
  refine Run.q (v := .bool false) rfl (OpQ.y (OpY.pure rfl)) ?_
  refine Run.done ?_
  refine Run.seq ?_
  refine Run.block ?_
  refine Run.seq ?_
  refine Run.region ?_
  refine Run.q (v := .pointer (some ⟨b1, 0, none⟩)) rfl (OpQ.y (OpY.fieldAddr Tfo_81_0 rfl rfl)) ?_
  refine Run.q (v := .int .i64 k) rfl (OpQ.y (OpY.load1 Tone_3 rfl (Cells.blk (.head _) ⟨rfl, trivial⟩))) ?_
  refine Run.q (v := .bool (within k 1 8)) rfl (OpQ.call (vs := [.int .i64 k, .int .i64 1, .int .i64 8]) (caps := []) Tcall_61 rfl rfl (fun w hs => l1In_spec _ _ _ w)) ?_
  refine Run.q (v := .bool (within k 1 8)) rfl (OpQ.y (OpY.pure rfl)) ?_
  refine Run.done ?_
  refine Run.cond (b := within k 1 8) rfl (fun h5 => ?_) (fun h5 => ?_)
  · have p5 := h5; try simp only [bs] at p5
    refine Run.seq ?_
    refine Run.region ?_
    refine Run.q (v := .pointer (some ⟨b1, 1, none⟩)) rfl (OpQ.y (OpY.fieldAddr Tfo_81_1 rfl rfl)) ?_
    refine Run.q (v := .int .i64 a) rfl (OpQ.y (OpY.load1 Tone_3 rfl (Cells.blk (.head _) ⟨rfl, trivial⟩))) ?_
    refine Run.q (v := .int .i64 n) rfl (OpQ.y (OpY.pure rfl)) ?_
    refine Run.q (v := .int .i64 (n - 1)) rfl (OpQ.y (OpY.sub rfl rfl rfl (by omega) (by omega))) ?_
    refine Run.q (v := .bool (within a 0 (n - 1))) rfl (OpQ.call (vs := [.int .i64 a, .int .i64 0, .int .i64 (n - 1)]) (caps := []) Tcall_61 rfl rfl (fun w hs => l1In_spec _ _ _ w)) ?_
    rcases Bool.eq_false_or_eq_true (within a 0 (n - 1)) with h14 | h14
    · refine Run.q (v := .bool true) rfl (OpQ.y (OpY.moveB rfl h14)) ?_
      have p14 := h14; try simp only [bs] at p14
      refine Run.q (v := .pointer (some ⟨b1, 2, none⟩)) rfl (OpQ.y (OpY.fieldAddr Tfo_81_2 rfl rfl)) ?_
      refine Run.q (v := .int .i64 b) rfl (OpQ.y (OpY.load1 Tone_3 rfl (Cells.blk (.head _) ⟨rfl, trivial⟩))) ?_
      refine Run.q (v := .bool (b == 0)) rfl (OpQ.y (OpY.pure rfl)) ?_
      refine Run.q (v := .bool (b == 0)) rfl (OpQ.y (OpY.pure rfl)) ?_
      refine Run.q (v := .bool (b == 0)) rfl (OpQ.y (OpY.pure rfl)) ?_
      refine Run.done ?_
      refine Run.ret ?_
      refine ⟨.bool (b == 0), [], Out.one rfl rfl, (Some'.weak (.nil _)), ?_⟩
      show _ = _; congr 1; rw [eq_comm]; simp only [within, Bool.and_eq_true, Bool.and_eq_false_iff, decide_eq_true_eq, decide_eq_false_iff_not, beq_iff_eq, Bool.not_eq_true', Bool.not_eq_false', bne_iff_ne, ne_eq, beq_eq_false_iff_ne, bne_eq_false_iff_eq] at *; unfold gateOk; first | (rw [decide_eq_true_iff]; omega) | (rw [decide_eq_false_iff_not]; omega) | (rw [Bool.eq_iff_iff, decide_eq_true_iff, beq_iff_eq]; omega) | (rw [Bool.eq_iff_iff, decide_eq_true_iff, bne_iff_ne]; omega) | (rw [Bool.eq_iff_iff, decide_eq_true_iff, within_iff]; omega)
    · refine Run.q (v := .bool false) rfl (OpQ.y (OpY.moveB rfl h14)) ?_
      have p14 := h14; try simp only [bs] at p14
      refine Run.pass rfl ?_
      refine Run.pass rfl ?_
      refine Run.pass rfl ?_
      refine Run.q (v := .bool false) rfl (OpQ.y (OpY.pure rfl)) ?_
      refine Run.q (v := .bool false) rfl (OpQ.y (OpY.pure rfl)) ?_
      refine Run.done ?_
      refine Run.ret ?_
      refine ⟨.bool false, [], Out.one rfl rfl, (Some'.weak (.nil _)), ?_⟩
      show _ = _; congr 1; rw [eq_comm]; simp only [within, Bool.and_eq_true, Bool.and_eq_false_iff, decide_eq_true_eq, decide_eq_false_iff_not, beq_iff_eq, Bool.not_eq_true', Bool.not_eq_false', bne_iff_ne, ne_eq, beq_eq_false_iff_ne, bne_eq_false_iff_eq] at *; unfold gateOk; first | (rw [decide_eq_true_iff]; omega) | (rw [decide_eq_false_iff_not]; omega) | (rw [Bool.eq_iff_iff, decide_eq_true_iff, beq_iff_eq]; omega) | (rw [Bool.eq_iff_iff, decide_eq_true_iff, bne_iff_ne]; omega) | (rw [Bool.eq_iff_iff, decide_eq_true_iff, within_iff]; omega)
  · have p5 := h5; try simp only [bs] at p5
    refine Run.seq ?_
    refine Run.region ?_
    refine Run.q (v := .pointer (some ⟨b1, 0, none⟩)) rfl (OpQ.y (OpY.fieldAddr Tfo_81_0 rfl rfl)) ?_
    refine Run.q (v := .int .i64 k) rfl (OpQ.y (OpY.load1 Tone_3 rfl (Cells.blk (.head _) ⟨rfl, trivial⟩))) ?_
    refine Run.q (v := .bool (within k 9 11)) rfl (OpQ.call (vs := [.int .i64 k, .int .i64 9, .int .i64 11]) (caps := []) Tcall_61 rfl rfl (fun w hs => l1In_spec _ _ _ w)) ?_
    refine Run.q (v := .bool (within k 9 11)) rfl (OpQ.y (OpY.pure rfl)) ?_
    refine Run.done ?_
    refine Run.cond (b := within k 9 11) rfl (fun h19 => ?_) (fun h19 => ?_)
    · have p19 := h19; try simp only [bs] at p19
      refine Run.seq ?_
      refine Run.region ?_
      refine Run.q (v := .pointer (some ⟨b1, 1, none⟩)) rfl (OpQ.y (OpY.fieldAddr Tfo_81_1 rfl rfl)) ?_
      refine Run.q (v := .int .i64 a) rfl (OpQ.y (OpY.load1 Tone_3 rfl (Cells.blk (.head _) ⟨rfl, trivial⟩))) ?_
      refine Run.q (v := .int .i64 n) rfl (OpQ.y (OpY.pure rfl)) ?_
      refine Run.q (v := .int .i64 (n - 1)) rfl (OpQ.y (OpY.sub rfl rfl rfl (by omega) (by omega))) ?_
      refine Run.q (v := .bool (within a 0 (n - 1))) rfl (OpQ.call (vs := [.int .i64 a, .int .i64 0, .int .i64 (n - 1)]) (caps := []) Tcall_61 rfl rfl (fun w hs => l1In_spec _ _ _ w)) ?_
      rcases Bool.eq_false_or_eq_true (within a 0 (n - 1)) with h28 | h28
      · refine Run.q (v := .bool true) rfl (OpQ.y (OpY.moveB rfl h28)) ?_
        have p28 := h28; try simp only [bs] at p28
        refine Run.q (v := .pointer (some ⟨b1, 2, none⟩)) rfl (OpQ.y (OpY.fieldAddr Tfo_81_2 rfl rfl)) ?_
        refine Run.q (v := .int .i64 b) rfl (OpQ.y (OpY.load1 Tone_3 rfl (Cells.blk (.head _) ⟨rfl, trivial⟩))) ?_
        refine Run.q (v := .int .i64 n) rfl (OpQ.y (OpY.pure rfl)) ?_
        refine Run.q (v := .int .i64 (n - 1)) rfl (OpQ.y (OpY.sub rfl rfl rfl (by omega) (by omega))) ?_
        refine Run.q (v := .bool (within b 0 (n - 1))) rfl (OpQ.call (vs := [.int .i64 b, .int .i64 0, .int .i64 (n - 1)]) (caps := []) Tcall_61 rfl rfl (fun w hs => l1In_spec _ _ _ w)) ?_
        refine Run.q (v := .bool (within b 0 (n - 1))) rfl (OpQ.y (OpY.pure rfl)) ?_
        rcases Bool.eq_false_or_eq_true (within b 0 (n - 1)) with h35 | h35
        · refine Run.q (v := .bool true) rfl (OpQ.y (OpY.moveB rfl h35)) ?_
          have p35 := h35; try simp only [bs] at p35
          refine Run.q (v := .pointer (some ⟨b1, 1, none⟩)) rfl (OpQ.y (OpY.fieldAddr Tfo_81_1 rfl rfl)) ?_
          refine Run.q (v := .int .i64 a) rfl (OpQ.y (OpY.load1 Tone_3 rfl (Cells.blk (.head _) ⟨rfl, trivial⟩))) ?_
          refine Run.q (v := .pointer (some ⟨b1, 2, none⟩)) rfl (OpQ.y (OpY.fieldAddr Tfo_81_2 rfl rfl)) ?_
          refine Run.q (v := .int .i64 b) rfl (OpQ.y (OpY.load1 Tone_3 rfl (Cells.blk (.head _) ⟨rfl, trivial⟩))) ?_
          refine Run.q (v := .bool (a != b)) rfl (OpQ.y (OpY.pure rfl)) ?_
          refine Run.q (v := .bool (a != b)) rfl (OpQ.y (OpY.pure rfl)) ?_
          refine Run.q (v := .bool (a != b)) rfl (OpQ.y (OpY.pure rfl)) ?_
          refine Run.done ?_
          refine Run.ret ?_
          refine ⟨.bool (a != b), [], Out.one rfl rfl, (Some'.weak (.nil _)), ?_⟩
          show _ = _; congr 1; rw [eq_comm]; simp only [within, Bool.and_eq_true, Bool.and_eq_false_iff, decide_eq_true_eq, decide_eq_false_iff_not, beq_iff_eq, Bool.not_eq_true', Bool.not_eq_false', bne_iff_ne, ne_eq, beq_eq_false_iff_ne, bne_eq_false_iff_eq] at *; unfold gateOk; first | (rw [decide_eq_true_iff]; omega) | (rw [decide_eq_false_iff_not]; omega) | (rw [Bool.eq_iff_iff, decide_eq_true_iff, beq_iff_eq]; omega) | (rw [Bool.eq_iff_iff, decide_eq_true_iff, bne_iff_ne]; omega) | (rw [Bool.eq_iff_iff, decide_eq_true_iff, within_iff]; omega)
        · refine Run.q (v := .bool false) rfl (OpQ.y (OpY.moveB rfl h35)) ?_
          have p35 := h35; try simp only [bs] at p35
          refine Run.pass rfl ?_
          refine Run.pass rfl ?_
          refine Run.pass rfl ?_
          refine Run.pass rfl ?_
          refine Run.pass rfl ?_
          refine Run.q (v := .bool false) rfl (OpQ.y (OpY.pure rfl)) ?_
          refine Run.q (v := .bool false) rfl (OpQ.y (OpY.pure rfl)) ?_
          refine Run.done ?_
          refine Run.ret ?_
          refine ⟨.bool false, [], Out.one rfl rfl, (Some'.weak (.nil _)), ?_⟩
          show _ = _; congr 1; rw [eq_comm]; simp only [within, Bool.and_eq_true, Bool.and_eq_false_iff, decide_eq_true_eq, decide_eq_false_iff_not, beq_iff_eq, Bool.not_eq_true', Bool.not_eq_false', bne_iff_ne, ne_eq, beq_eq_false_iff_ne, bne_eq_false_iff_eq] at *; unfold gateOk; first | (rw [decide_eq_true_iff]; omega) | (rw [decide_eq_false_iff_not]; omega) | (rw [Bool.eq_iff_iff, decide_eq_true_iff, beq_iff_eq]; omega) | (rw [Bool.eq_iff_iff, decide_eq_true_iff, bne_iff_ne]; omega) | (rw [Bool.eq_iff_iff, decide_eq_true_iff, within_iff]; omega)
      · refine Run.q (v := .bool false) rfl (OpQ.y (OpY.moveB rfl h28)) ?_
        have p28 := h28; try simp only [bs] at p28
        refine Run.pass rfl ?_
        refine Run.pass rfl ?_
        refine Run.pass rfl ?_
        refine Run.pass rfl ?_
        refine Run.pass rfl ?_
        refine Run.q (v := .bool false) rfl (OpQ.y (OpY.pure rfl)) ?_
        refine Run.q (v := .bool false) rfl (OpQ.y (OpY.pure rfl)) ?_
        refine Run.pass rfl ?_
        refine Run.pass rfl ?_
        refine Run.pass rfl ?_
        refine Run.pass rfl ?_
        refine Run.pass rfl ?_
        refine Run.q (v := .bool false) rfl (OpQ.y (OpY.pure rfl)) ?_
        refine Run.q (v := .bool false) rfl (OpQ.y (OpY.pure rfl)) ?_
        refine Run.done ?_
        refine Run.ret ?_
        refine ⟨.bool false, [], Out.one rfl rfl, (Some'.weak (.nil _)), ?_⟩
        show _ = _; congr 1; rw [eq_comm]; simp only [within, Bool.and_eq_true, Bool.and_eq_false_iff, decide_eq_true_eq, decide_eq_false_iff_not, beq_iff_eq, Bool.not_eq_true', Bool.not_eq_false', bne_iff_ne, ne_eq, beq_eq_false_iff_ne, bne_eq_false_iff_eq] at *; unfold gateOk; first | (rw [decide_eq_true_iff]; omega) | (rw [decide_eq_false_iff_not]; omega) | (rw [Bool.eq_iff_iff, decide_eq_true_iff, beq_iff_eq]; omega) | (rw [Bool.eq_iff_iff, decide_eq_true_iff, bne_iff_ne]; omega) | (rw [Bool.eq_iff_iff, decide_eq_true_iff, within_iff]; omega)
    · have p19 := h19; try simp only [bs] at p19
      refine Run.skip ?_
      refine Run.blockEnd ?_
      refine Run.seq ?_
      refine Run.region ?_
      refine Run.q (v := .pointer (some ⟨b1, 0, none⟩)) rfl (OpQ.y (OpY.fieldAddr Tfo_81_0 rfl rfl)) ?_
      refine Run.q (v := .int .i64 k) rfl (OpQ.y (OpY.load1 Tone_3 rfl (Cells.blk (.head _) ⟨rfl, trivial⟩))) ?_
      refine Run.q (v := .bool (k == 12)) rfl (OpQ.y (OpY.pure rfl)) ?_
      rcases Bool.eq_false_or_eq_true (k == 12) with h45 | h45
      · refine Run.q (v := .bool true) rfl (OpQ.y (OpY.moveB rfl h45)) ?_
        have p45 := h45; try simp only [bs] at p45
        refine Run.q (v := .pointer (some ⟨b1, 1, none⟩)) rfl (OpQ.y (OpY.fieldAddr Tfo_81_1 rfl rfl)) ?_
        refine Run.q (v := .int .i64 a) rfl (OpQ.y (OpY.load1 Tone_3 rfl (Cells.blk (.head _) ⟨rfl, trivial⟩))) ?_
        refine Run.q (v := .bool (a == 0)) rfl (OpQ.y (OpY.pure rfl)) ?_
        refine Run.q (v := .bool (a == 0)) rfl (OpQ.y (OpY.pure rfl)) ?_
        rcases Bool.eq_false_or_eq_true (a == 0) with h50 | h50
        · refine Run.q (v := .bool true) rfl (OpQ.y (OpY.moveB rfl h50)) ?_
          have p50 := h50; try simp only [bs] at p50
          refine Run.q (v := .pointer (some ⟨b1, 2, none⟩)) rfl (OpQ.y (OpY.fieldAddr Tfo_81_2 rfl rfl)) ?_
          refine Run.q (v := .int .i64 b) rfl (OpQ.y (OpY.load1 Tone_3 rfl (Cells.blk (.head _) ⟨rfl, trivial⟩))) ?_
          refine Run.q (v := .bool (b == 0)) rfl (OpQ.y (OpY.pure rfl)) ?_
          refine Run.q (v := .bool (b == 0)) rfl (OpQ.y (OpY.pure rfl)) ?_
          refine Run.q (v := .bool (b == 0)) rfl (OpQ.y (OpY.pure rfl)) ?_
          refine Run.done ?_
          refine Run.ret ?_
          refine ⟨.bool (b == 0), [], Out.one rfl rfl, (Some'.weak (.nil _)), ?_⟩
          show _ = _; congr 1; rw [eq_comm]; simp only [within, Bool.and_eq_true, Bool.and_eq_false_iff, decide_eq_true_eq, decide_eq_false_iff_not, beq_iff_eq, Bool.not_eq_true', Bool.not_eq_false', bne_iff_ne, ne_eq, beq_eq_false_iff_ne, bne_eq_false_iff_eq] at *; unfold gateOk; first | (rw [decide_eq_true_iff]; omega) | (rw [decide_eq_false_iff_not]; omega) | (rw [Bool.eq_iff_iff, decide_eq_true_iff, beq_iff_eq]; omega) | (rw [Bool.eq_iff_iff, decide_eq_true_iff, bne_iff_ne]; omega) | (rw [Bool.eq_iff_iff, decide_eq_true_iff, within_iff]; omega)
        · refine Run.q (v := .bool false) rfl (OpQ.y (OpY.moveB rfl h50)) ?_
          have p50 := h50; try simp only [bs] at p50
          refine Run.pass rfl ?_
          refine Run.pass rfl ?_
          refine Run.pass rfl ?_
          refine Run.q (v := .bool false) rfl (OpQ.y (OpY.pure rfl)) ?_
          refine Run.q (v := .bool false) rfl (OpQ.y (OpY.pure rfl)) ?_
          refine Run.done ?_
          refine Run.ret ?_
          refine ⟨.bool false, [], Out.one rfl rfl, (Some'.weak (.nil _)), ?_⟩
          show _ = _; congr 1; rw [eq_comm]; simp only [within, Bool.and_eq_true, Bool.and_eq_false_iff, decide_eq_true_eq, decide_eq_false_iff_not, beq_iff_eq, Bool.not_eq_true', Bool.not_eq_false', bne_iff_ne, ne_eq, beq_eq_false_iff_ne, bne_eq_false_iff_eq] at *; unfold gateOk; first | (rw [decide_eq_true_iff]; omega) | (rw [decide_eq_false_iff_not]; omega) | (rw [Bool.eq_iff_iff, decide_eq_true_iff, beq_iff_eq]; omega) | (rw [Bool.eq_iff_iff, decide_eq_true_iff, bne_iff_ne]; omega) | (rw [Bool.eq_iff_iff, decide_eq_true_iff, within_iff]; omega)
      · refine Run.q (v := .bool false) rfl (OpQ.y (OpY.moveB rfl h45)) ?_
        have p45 := h45; try simp only [bs] at p45
        refine Run.pass rfl ?_
        refine Run.pass rfl ?_
        refine Run.pass rfl ?_
        refine Run.q (v := .bool false) rfl (OpQ.y (OpY.pure rfl)) ?_
        refine Run.q (v := .bool false) rfl (OpQ.y (OpY.pure rfl)) ?_
        refine Run.pass rfl ?_
        refine Run.pass rfl ?_
        refine Run.pass rfl ?_
        refine Run.q (v := .bool false) rfl (OpQ.y (OpY.pure rfl)) ?_
        refine Run.q (v := .bool false) rfl (OpQ.y (OpY.pure rfl)) ?_
        refine Run.done ?_
        refine Run.ret ?_
        refine ⟨.bool false, [], Out.one rfl rfl, (Some'.weak (.nil _)), ?_⟩
        show _ = _; congr 1; rw [eq_comm]; simp only [within, Bool.and_eq_true, Bool.and_eq_false_iff, decide_eq_true_eq, decide_eq_false_iff_not, beq_iff_eq, Bool.not_eq_true', Bool.not_eq_false', bne_iff_ne, ne_eq, beq_eq_false_iff_ne, bne_eq_false_iff_eq] at *; unfold gateOk; first | (rw [decide_eq_true_iff]; omega) | (rw [decide_eq_false_iff_not]; omega) | (rw [Bool.eq_iff_iff, decide_eq_true_iff, beq_iff_eq]; omega) | (rw [Bool.eq_iff_iff, decide_eq_true_iff, bne_iff_ne]; omega) | (rw [Bool.eq_iff_iff, decide_eq_true_iff, within_iff]; omega)

set_option maxHeartbeats 1000000 in
set_option maxRecDepth 20000 in
theorem IsValidGate_spec {n k a b : Int} (hn : 1 ≤ n ∧ n ≤ 5) (w : World) : Calls Try.prog 97 #[.int .i64 n, .agg #[.int .i64 k, .int .i64 a, .int .i64 b]] w (Post No w fun v _ => v = .bool (gateOk n k a b)) := by
  have hn5 := within_iff.2 hn
  refine enter (n := 60) (args := [.int .i64 n, .agg #[.int .i64 k, .int .i64 a, .int .i64 b]]) Try.func97 rfl rfl (St.empty _ _) ?_
  refine Run.seq ?_
  refine Run.region ?_
  refine Run.step rfl (OpStep.box (us := [.int .i64 k, .int .i64 a, .int .i64 b]) rfl fun b1 => ?_)
  refine Run.q (v := .bool false) rfl (OpQ.y (OpY.pure rfl)) ?_
  refine Run.done ?_
  refine Run.seq ?_
  refine Run.block ?_
  refine Run.seq ?_
  refine Run.region ?_
  refine Run.q (v := .int .i64 n) rfl (OpQ.y (OpY.pure rfl)) ?_
  refine Run.q (v := .bool (within n 1 5)) rfl (OpQ.call (vs := [.int .i64 n, .int .i64 1, .int .i64 5]) (caps := []) Tcall_73 rfl rfl (fun w hs => within_spec _ _ _ w)) ?_
  refine Run.q (v := .bool (!(within n 1 5))) rfl (OpQ.y (OpY.pure rfl)) ?_
  rcases Bool.eq_false_or_eq_true (!(within n 1 5)) with h9 | h9
  · refine Run.q (v := .bool true) rfl (OpQ.y (OpY.moveB rfl h9)) ?_
    have p9 := h9; try simp only [bs] at p9
    refine Run.pass rfl ?_
    refine Run.pass rfl ?_
    refine Run.pass rfl ?_
    refine Run.pass rfl ?_
    refine Run.q (v := .bool true) rfl (OpQ.y (OpY.pure rfl)) ?_
    refine Run.q (v := .bool true) rfl (OpQ.y (OpY.pure rfl)) ?_
    refine Run.done ?_
    refine Run.cond (b := true) rfl (fun _ => ?_) (fun h => nomatch h)
    refine Run.seq ?_
    refine Run.region ?_
    refine Run.q (v := .bool false) rfl (OpQ.y (OpY.pure rfl)) ?_
    refine Run.done ?_
    refine Run.ret ?_
    refine ⟨.bool false, [], Out.one rfl rfl, (Some'.weak (.nil _)), ?_⟩
    show _ = _; congr 1; rw [eq_comm]; simp only [within, Bool.and_eq_true, Bool.and_eq_false_iff, decide_eq_true_eq, decide_eq_false_iff_not, beq_iff_eq, Bool.not_eq_true', Bool.not_eq_false', bne_iff_ne, ne_eq, beq_eq_false_iff_ne, bne_eq_false_iff_eq] at *; unfold gateOk; first | (rw [decide_eq_true_iff]; omega) | (rw [decide_eq_false_iff_not]; omega) | (rw [Bool.eq_iff_iff, decide_eq_true_iff, beq_iff_eq]; omega) | (rw [Bool.eq_iff_iff, decide_eq_true_iff, bne_iff_ne]; omega) | (rw [Bool.eq_iff_iff, decide_eq_true_iff, within_iff]; omega)
  · refine Run.q (v := .bool false) rfl (OpQ.y (OpY.moveB rfl h9)) ?_
    have p9 := h9; try simp only [bs] at p9
    refine Run.q (v := .pointer (some ⟨b1, 0, none⟩)) rfl (OpQ.y (OpY.fieldAddr Tfo_81_0 rfl rfl)) ?_
    refine Run.q (v := .int .i64 k) rfl (OpQ.y (OpY.load1 Tone_3 rfl (Cells.blk (.head _) ⟨rfl, trivial⟩))) ?_
    refine Run.q (v := .bool (within k 1 12)) rfl (OpQ.call (vs := [.int .i64 k, .int .i64 1, .int .i64 12]) (caps := []) Tcall_73 rfl rfl (fun w hs => within_spec _ _ _ w)) ?_
    refine Run.q (v := .bool (!(within k 1 12))) rfl (OpQ.y (OpY.pure rfl)) ?_
    refine Run.q (v := .bool (!(within k 1 12))) rfl (OpQ.y (OpY.pure rfl)) ?_
    refine Run.q (v := .bool (!(within k 1 12))) rfl (OpQ.y (OpY.pure rfl)) ?_
    refine Run.done ?_
    refine Run.cond (b := !(within k 1 12)) rfl (fun h5 => ?_) (fun h5 => ?_)
    · have p5 := h5; try simp only [bs] at p5
      refine Run.seq ?_
      refine Run.region ?_
      refine Run.q (v := .bool false) rfl (OpQ.y (OpY.pure rfl)) ?_
      refine Run.done ?_
      refine Run.ret ?_
      refine ⟨.bool false, [], Out.one rfl rfl, (Some'.weak (.nil _)), ?_⟩
      show _ = _; congr 1; rw [eq_comm]; simp only [within, Bool.and_eq_true, Bool.and_eq_false_iff, decide_eq_true_eq, decide_eq_false_iff_not, beq_iff_eq, Bool.not_eq_true', Bool.not_eq_false', bne_iff_ne, ne_eq, beq_eq_false_iff_ne, bne_eq_false_iff_eq] at *; unfold gateOk; first | (rw [decide_eq_true_iff]; omega) | (rw [decide_eq_false_iff_not]; omega) | (rw [Bool.eq_iff_iff, decide_eq_true_iff, beq_iff_eq]; omega) | (rw [Bool.eq_iff_iff, decide_eq_true_iff, bne_iff_ne]; omega) | (rw [Bool.eq_iff_iff, decide_eq_true_iff, within_iff]; omega)
    · have p5 := h5; try simp only [bs] at p5
      refine Run.seq ?_
      refine Run.region ?_
      refine Run.q (v := .pointer (some ⟨b1, 0, none⟩)) rfl (OpQ.y (OpY.fieldAddr Tfo_81_0 rfl rfl)) ?_
      refine Run.q (v := .int .i64 k) rfl (OpQ.y (OpY.load1 Tone_3 rfl (Cells.blk (.head _) ⟨rfl, trivial⟩))) ?_
      refine Run.q (v := .bool (k == 12)) rfl (OpQ.y (OpY.pure rfl)) ?_
      refine Run.q (v := .bool (k == 12)) rfl (OpQ.y (OpY.pure rfl)) ?_
      refine Run.done ?_
      refine Run.cond (b := k == 12) rfl (fun h15 => ?_) (fun h15 => ?_)
      · have p15 := h15; try simp only [bs] at p15
        refine Run.seq ?_
        refine Run.region ?_
        refine Run.q (v := .pointer (some ⟨b1, 1, none⟩)) rfl (OpQ.y (OpY.fieldAddr Tfo_81_1 rfl rfl)) ?_
        refine Run.q (v := .int .i64 a) rfl (OpQ.y (OpY.load1 Tone_3 rfl (Cells.blk (.head _) ⟨rfl, trivial⟩))) ?_
        refine Run.q (v := .bool (a == 0)) rfl (OpQ.y (OpY.pure rfl)) ?_
        rcases Bool.eq_false_or_eq_true (a == 0) with h22 | h22
        · refine Run.q (v := .bool true) rfl (OpQ.y (OpY.moveB rfl h22)) ?_
          have p22 := h22; try simp only [bs] at p22
          refine Run.q (v := .pointer (some ⟨b1, 2, none⟩)) rfl (OpQ.y (OpY.fieldAddr Tfo_81_2 rfl rfl)) ?_
          refine Run.q (v := .int .i64 b) rfl (OpQ.y (OpY.load1 Tone_3 rfl (Cells.blk (.head _) ⟨rfl, trivial⟩))) ?_
          refine Run.q (v := .bool (b == 0)) rfl (OpQ.y (OpY.pure rfl)) ?_
          refine Run.q (v := .bool (b == 0)) rfl (OpQ.y (OpY.pure rfl)) ?_
          refine Run.q (v := .bool (b == 0)) rfl (OpQ.y (OpY.pure rfl)) ?_
          refine Run.done ?_
          refine Run.ret ?_
          refine ⟨.bool (b == 0), [], Out.one rfl rfl, (Some'.weak (.nil _)), ?_⟩
          show _ = _; congr 1; rw [eq_comm]; simp only [within, Bool.and_eq_true, Bool.and_eq_false_iff, decide_eq_true_eq, decide_eq_false_iff_not, beq_iff_eq, Bool.not_eq_true', Bool.not_eq_false', bne_iff_ne, ne_eq, beq_eq_false_iff_ne, bne_eq_false_iff_eq] at *; unfold gateOk; first | (rw [decide_eq_true_iff]; omega) | (rw [decide_eq_false_iff_not]; omega) | (rw [Bool.eq_iff_iff, decide_eq_true_iff, beq_iff_eq]; omega) | (rw [Bool.eq_iff_iff, decide_eq_true_iff, bne_iff_ne]; omega) | (rw [Bool.eq_iff_iff, decide_eq_true_iff, within_iff]; omega)
        · refine Run.q (v := .bool false) rfl (OpQ.y (OpY.moveB rfl h22)) ?_
          have p22 := h22; try simp only [bs] at p22
          refine Run.pass rfl ?_
          refine Run.pass rfl ?_
          refine Run.pass rfl ?_
          refine Run.q (v := .bool false) rfl (OpQ.y (OpY.pure rfl)) ?_
          refine Run.q (v := .bool false) rfl (OpQ.y (OpY.pure rfl)) ?_
          refine Run.done ?_
          refine Run.ret ?_
          refine ⟨.bool false, [], Out.one rfl rfl, (Some'.weak (.nil _)), ?_⟩
          show _ = _; congr 1; rw [eq_comm]; simp only [within, Bool.and_eq_true, Bool.and_eq_false_iff, decide_eq_true_eq, decide_eq_false_iff_not, beq_iff_eq, Bool.not_eq_true', Bool.not_eq_false', bne_iff_ne, ne_eq, beq_eq_false_iff_ne, bne_eq_false_iff_eq] at *; unfold gateOk; first | (rw [decide_eq_true_iff]; omega) | (rw [decide_eq_false_iff_not]; omega) | (rw [Bool.eq_iff_iff, decide_eq_true_iff, beq_iff_eq]; omega) | (rw [Bool.eq_iff_iff, decide_eq_true_iff, bne_iff_ne]; omega) | (rw [Bool.eq_iff_iff, decide_eq_true_iff, within_iff]; omega)
      · have p15 := h15; try simp only [bs] at p15
        refine Run.seq ?_
        refine Run.region ?_
        refine Run.q (v := .pointer (some ⟨b1, 0, none⟩)) rfl (OpQ.y (OpY.fieldAddr Tfo_81_0 rfl rfl)) ?_
        refine Run.q (v := .int .i64 k) rfl (OpQ.y (OpY.load1 Tone_3 rfl (Cells.blk (.head _) ⟨rfl, trivial⟩))) ?_
        refine Run.q (v := .bool (decide (9 ≤ k ∧ k ≤ 11))) rfl (OpQ.call (vs := [.int .i64 k]) (caps := []) Tcall_85 rfl rfl (fun w hs => isTwo_spec _ w)) ?_
        refine Run.q (v := .bool (decide (9 ≤ k ∧ k ≤ 11))) rfl (OpQ.y (OpY.pure rfl)) ?_
        refine Run.done ?_
        refine Run.cond (b := decide (9 ≤ k ∧ k ≤ 11)) rfl (fun h27 => ?_) (fun h27 => ?_)
        · have p27 := h27; try simp only [bs] at p27
          refine Run.seq ?_
          refine Run.region ?_
          refine Run.q (v := .pointer (some ⟨b1, 1, none⟩)) rfl (OpQ.y (OpY.fieldAddr Tfo_81_1 rfl rfl)) ?_
          refine Run.q (v := .int .i64 a) rfl (OpQ.y (OpY.load1 Tone_3 rfl (Cells.blk (.head _) ⟨rfl, trivial⟩))) ?_
          refine Run.q (v := .int .i64 n) rfl (OpQ.y (OpY.pure rfl)) ?_
          refine Run.q (v := .int .i64 (n - 1)) rfl (OpQ.y (OpY.sub rfl rfl rfl (by omega) (by omega))) ?_
          refine Run.q (v := .bool (within a 0 (n - 1))) rfl (OpQ.call (vs := [.int .i64 a, .int .i64 0, .int .i64 (n - 1)]) (caps := []) Tcall_73 rfl rfl (fun w hs => within_spec _ _ _ w)) ?_
          rcases Bool.eq_false_or_eq_true (within a 0 (n - 1)) with h36 | h36
          · refine Run.q (v := .bool true) rfl (OpQ.y (OpY.moveB rfl h36)) ?_
            have p36 := h36; try simp only [bs] at p36
            refine Run.q (v := .pointer (some ⟨b1, 2, none⟩)) rfl (OpQ.y (OpY.fieldAddr Tfo_81_2 rfl rfl)) ?_
            refine Run.q (v := .int .i64 b) rfl (OpQ.y (OpY.load1 Tone_3 rfl (Cells.blk (.head _) ⟨rfl, trivial⟩))) ?_
            refine Run.q (v := .int .i64 n) rfl (OpQ.y (OpY.pure rfl)) ?_
            refine Run.q (v := .int .i64 (n - 1)) rfl (OpQ.y (OpY.sub rfl rfl rfl (by omega) (by omega))) ?_
            refine Run.q (v := .bool (within b 0 (n - 1))) rfl (OpQ.call (vs := [.int .i64 b, .int .i64 0, .int .i64 (n - 1)]) (caps := []) Tcall_73 rfl rfl (fun w hs => within_spec _ _ _ w)) ?_
            refine Run.q (v := .bool (within b 0 (n - 1))) rfl (OpQ.y (OpY.pure rfl)) ?_
            rcases Bool.eq_false_or_eq_true (within b 0 (n - 1)) with h43 | h43
            · refine Run.q (v := .bool true) rfl (OpQ.y (OpY.moveB rfl h43)) ?_
              have p43 := h43; try simp only [bs] at p43
              refine Run.q (v := .pointer (some ⟨b1, 1, none⟩)) rfl (OpQ.y (OpY.fieldAddr Tfo_81_1 rfl rfl)) ?_
              refine Run.q (v := .int .i64 a) rfl (OpQ.y (OpY.load1 Tone_3 rfl (Cells.blk (.head _) ⟨rfl, trivial⟩))) ?_
              refine Run.q (v := .pointer (some ⟨b1, 2, none⟩)) rfl (OpQ.y (OpY.fieldAddr Tfo_81_2 rfl rfl)) ?_
              refine Run.q (v := .int .i64 b) rfl (OpQ.y (OpY.load1 Tone_3 rfl (Cells.blk (.head _) ⟨rfl, trivial⟩))) ?_
              refine Run.q (v := .bool (a != b)) rfl (OpQ.y (OpY.pure rfl)) ?_
              refine Run.q (v := .bool (a != b)) rfl (OpQ.y (OpY.pure rfl)) ?_
              refine Run.q (v := .bool (a != b)) rfl (OpQ.y (OpY.pure rfl)) ?_
              refine Run.done ?_
              refine Run.ret ?_
              refine ⟨.bool (a != b), [], Out.one rfl rfl, (Some'.weak (.nil _)), ?_⟩
              show _ = _; congr 1; rw [eq_comm]; simp only [within, Bool.and_eq_true, Bool.and_eq_false_iff, decide_eq_true_eq, decide_eq_false_iff_not, beq_iff_eq, Bool.not_eq_true', Bool.not_eq_false', bne_iff_ne, ne_eq, beq_eq_false_iff_ne, bne_eq_false_iff_eq] at *; unfold gateOk; first | (rw [decide_eq_true_iff]; omega) | (rw [decide_eq_false_iff_not]; omega) | (rw [Bool.eq_iff_iff, decide_eq_true_iff, beq_iff_eq]; omega) | (rw [Bool.eq_iff_iff, decide_eq_true_iff, bne_iff_ne]; omega) | (rw [Bool.eq_iff_iff, decide_eq_true_iff, within_iff]; omega)
            · refine Run.q (v := .bool false) rfl (OpQ.y (OpY.moveB rfl h43)) ?_
              have p43 := h43; try simp only [bs] at p43
              refine Run.pass rfl ?_
              refine Run.pass rfl ?_
              refine Run.pass rfl ?_
              refine Run.pass rfl ?_
              refine Run.pass rfl ?_
              refine Run.q (v := .bool false) rfl (OpQ.y (OpY.pure rfl)) ?_
              refine Run.q (v := .bool false) rfl (OpQ.y (OpY.pure rfl)) ?_
              refine Run.done ?_
              refine Run.ret ?_
              refine ⟨.bool false, [], Out.one rfl rfl, (Some'.weak (.nil _)), ?_⟩
              show _ = _; congr 1; rw [eq_comm]; simp only [within, Bool.and_eq_true, Bool.and_eq_false_iff, decide_eq_true_eq, decide_eq_false_iff_not, beq_iff_eq, Bool.not_eq_true', Bool.not_eq_false', bne_iff_ne, ne_eq, beq_eq_false_iff_ne, bne_eq_false_iff_eq] at *; unfold gateOk; first | (rw [decide_eq_true_iff]; omega) | (rw [decide_eq_false_iff_not]; omega) | (rw [Bool.eq_iff_iff, decide_eq_true_iff, beq_iff_eq]; omega) | (rw [Bool.eq_iff_iff, decide_eq_true_iff, bne_iff_ne]; omega) | (rw [Bool.eq_iff_iff, decide_eq_true_iff, within_iff]; omega)
          · refine Run.q (v := .bool false) rfl (OpQ.y (OpY.moveB rfl h36)) ?_
            have p36 := h36; try simp only [bs] at p36
            refine Run.pass rfl ?_
            refine Run.pass rfl ?_
            refine Run.pass rfl ?_
            refine Run.pass rfl ?_
            refine Run.pass rfl ?_
            refine Run.q (v := .bool false) rfl (OpQ.y (OpY.pure rfl)) ?_
            refine Run.q (v := .bool false) rfl (OpQ.y (OpY.pure rfl)) ?_
            refine Run.pass rfl ?_
            refine Run.pass rfl ?_
            refine Run.pass rfl ?_
            refine Run.pass rfl ?_
            refine Run.pass rfl ?_
            refine Run.q (v := .bool false) rfl (OpQ.y (OpY.pure rfl)) ?_
            refine Run.q (v := .bool false) rfl (OpQ.y (OpY.pure rfl)) ?_
            refine Run.done ?_
            refine Run.ret ?_
            refine ⟨.bool false, [], Out.one rfl rfl, (Some'.weak (.nil _)), ?_⟩
            show _ = _; congr 1; rw [eq_comm]; simp only [within, Bool.and_eq_true, Bool.and_eq_false_iff, decide_eq_true_eq, decide_eq_false_iff_not, beq_iff_eq, Bool.not_eq_true', Bool.not_eq_false', bne_iff_ne, ne_eq, beq_eq_false_iff_ne, bne_eq_false_iff_eq] at *; unfold gateOk; first | (rw [decide_eq_true_iff]; omega) | (rw [decide_eq_false_iff_not]; omega) | (rw [Bool.eq_iff_iff, decide_eq_true_iff, beq_iff_eq]; omega) | (rw [Bool.eq_iff_iff, decide_eq_true_iff, bne_iff_ne]; omega) | (rw [Bool.eq_iff_iff, decide_eq_true_iff, within_iff]; omega)
        · have p27 := h27; try simp only [bs] at p27
          refine Run.skip ?_
          refine Run.blockEnd ?_
          refine Run.seq ?_
          refine Run.region ?_
          refine Run.q (v := .pointer (some ⟨b1, 1, none⟩)) rfl (OpQ.y (OpY.fieldAddr Tfo_81_1 rfl rfl)) ?_
          refine Run.q (v := .int .i64 a) rfl (OpQ.y (OpY.load1 Tone_3 rfl (Cells.blk (.head _) ⟨rfl, trivial⟩))) ?_
          refine Run.q (v := .int .i64 n) rfl (OpQ.y (OpY.pure rfl)) ?_
          refine Run.q (v := .int .i64 (n - 1)) rfl (OpQ.y (OpY.sub rfl rfl rfl (by omega) (by omega))) ?_
          refine Run.q (v := .bool (within a 0 (n - 1))) rfl (OpQ.call (vs := [.int .i64 a, .int .i64 0, .int .i64 (n - 1)]) (caps := []) Tcall_73 rfl rfl (fun w hs => within_spec _ _ _ w)) ?_
          rcases Bool.eq_false_or_eq_true (within a 0 (n - 1)) with h55 | h55
          · refine Run.q (v := .bool true) rfl (OpQ.y (OpY.moveB rfl h55)) ?_
            have p55 := h55; try simp only [bs] at p55
            refine Run.q (v := .pointer (some ⟨b1, 2, none⟩)) rfl (OpQ.y (OpY.fieldAddr Tfo_81_2 rfl rfl)) ?_
            refine Run.q (v := .int .i64 b) rfl (OpQ.y (OpY.load1 Tone_3 rfl (Cells.blk (.head _) ⟨rfl, trivial⟩))) ?_
            refine Run.q (v := .bool (b == 0)) rfl (OpQ.y (OpY.pure rfl)) ?_
            refine Run.q (v := .bool (b == 0)) rfl (OpQ.y (OpY.pure rfl)) ?_
            refine Run.q (v := .bool (b == 0)) rfl (OpQ.y (OpY.pure rfl)) ?_
            refine Run.done ?_
            refine Run.ret ?_
            refine ⟨.bool (b == 0), [], Out.one rfl rfl, (Some'.weak (.nil _)), ?_⟩
            show _ = _; congr 1; rw [eq_comm]; simp only [within, Bool.and_eq_true, Bool.and_eq_false_iff, decide_eq_true_eq, decide_eq_false_iff_not, beq_iff_eq, Bool.not_eq_true', Bool.not_eq_false', bne_iff_ne, ne_eq, beq_eq_false_iff_ne, bne_eq_false_iff_eq] at *; unfold gateOk; first | (rw [decide_eq_true_iff]; omega) | (rw [decide_eq_false_iff_not]; omega) | (rw [Bool.eq_iff_iff, decide_eq_true_iff, beq_iff_eq]; omega) | (rw [Bool.eq_iff_iff, decide_eq_true_iff, bne_iff_ne]; omega) | (rw [Bool.eq_iff_iff, decide_eq_true_iff, within_iff]; omega)
          · refine Run.q (v := .bool false) rfl (OpQ.y (OpY.moveB rfl h55)) ?_
            have p55 := h55; try simp only [bs] at p55
            refine Run.pass rfl ?_
            refine Run.pass rfl ?_
            refine Run.pass rfl ?_
            refine Run.q (v := .bool false) rfl (OpQ.y (OpY.pure rfl)) ?_
            refine Run.q (v := .bool false) rfl (OpQ.y (OpY.pure rfl)) ?_
            refine Run.done ?_
            refine Run.ret ?_
            refine ⟨.bool false, [], Out.one rfl rfl, (Some'.weak (.nil _)), ?_⟩
            show _ = _; congr 1; rw [eq_comm]; simp only [within, Bool.and_eq_true, Bool.and_eq_false_iff, decide_eq_true_eq, decide_eq_false_iff_not, beq_iff_eq, Bool.not_eq_true', Bool.not_eq_false', bne_iff_ne, ne_eq, beq_eq_false_iff_ne, bne_eq_false_iff_eq] at *; unfold gateOk; first | (rw [decide_eq_true_iff]; omega) | (rw [decide_eq_false_iff_not]; omega) | (rw [Bool.eq_iff_iff, decide_eq_true_iff, beq_iff_eq]; omega) | (rw [Bool.eq_iff_iff, decide_eq_true_iff, bne_iff_ne]; omega) | (rw [Bool.eq_iff_iff, decide_eq_true_iff, within_iff]; omega)

set_option maxHeartbeats 1000000 in
set_option maxRecDepth 20000 in
theorem qubitsOf_spec (k a b : Int) (w : World) : Calls Try.prog 99 #[.agg #[.int .i64 k, .int .i64 a, .int .i64 b]] w (Post No w fun v H => H = [.own v 3 1 (qs k a b).length (ints (qs k a b))]) := by
  refine enter (n := 19) (args := [.agg #[.int .i64 k, .int .i64 a, .int .i64 b]]) Try.func99 rfl rfl (St.empty _ _) ?_
  refine Run.seq ?_
  refine Run.region ?_
  refine Run.step rfl (OpStep.box (us := [.int .i64 k, .int .i64 a, .int .i64 b]) rfl fun b1 => ?_)
  refine Run.q (v := .slice none 0 0) rfl (OpQ.y (OpY.pure rfl)) ?_
  refine Run.done ?_
  refine Run.seq ?_
  refine Run.block ?_
  refine Run.seq ?_
  refine Run.region ?_
  refine Run.q (v := .pointer (some ⟨b1, 0, none⟩)) rfl (OpQ.y (OpY.fieldAddr Tfo_81_0 rfl rfl)) ?_
  refine Run.q (v := .int .i64 k) rfl (OpQ.y (OpY.load1 Tone_3 rfl (Cells.blk (.head _) ⟨rfl, trivial⟩))) ?_
  refine Run.q (v := .bool (k == 12)) rfl (OpQ.y (OpY.pure rfl)) ?_
  refine Run.q (v := .bool (k == 12)) rfl (OpQ.y (OpY.pure rfl)) ?_
  refine Run.done ?_
  refine Run.cond (b := k == 12) rfl (fun h3 => ?_) (fun h3 => ?_)
  · have p3 := h3; try simp only [bs] at p3
    have hq : qs k a b = [] := by simp [qs, p3]
    refine Run.seq ?_
    refine Run.region ?_
    refine Run.q (v := .slice none 0 0) rfl (OpQ.y (OpY.pure rfl)) ?_
    refine Run.done ?_
    refine Run.ret ?_
    refine ⟨.slice none 0 0, [.own (.slice none 0 0) 3 1 ((qs k a b).length) (ints (qs k a b))], Out.one rfl rfl, ((Weak.nilOwn 3 1).trans (Some'.weak (.takeEq (by rw [hq]; rfl) (.nil _)))), ?_⟩
    rfl
  · have p3 := h3; try simp only [bs] at p3
    refine Run.seq ?_
    refine Run.region ?_
    refine Run.q (v := .pointer (some ⟨b1, 0, none⟩)) rfl (OpQ.y (OpY.fieldAddr Tfo_81_0 rfl rfl)) ?_
    refine Run.q (v := .int .i64 k) rfl (OpQ.y (OpY.load1 Tone_3 rfl (Cells.blk (.head _) ⟨rfl, trivial⟩))) ?_
    refine Run.q (v := .bool (decide (9 ≤ k ∧ k ≤ 11))) rfl (OpQ.call (vs := [.int .i64 k]) (caps := []) Tcall_85 rfl rfl (fun w hs => isTwo_spec _ w)) ?_
    refine Run.q (v := .bool (decide (9 ≤ k ∧ k ≤ 11))) rfl (OpQ.y (OpY.pure rfl)) ?_
    refine Run.done ?_
    refine Run.cond (b := decide (9 ≤ k ∧ k ≤ 11)) rfl (fun h7 => ?_) (fun h7 => ?_)
    · have p7 := h7; try simp only [bs] at p7
      have hq : qs k a b = [a, b] := by rw [qs, if_neg p3, if_pos p7]
      refine Run.seq ?_
      refine Run.region ?_
      refine Run.q (v := .pointer (some ⟨b1, 1, none⟩)) rfl (OpQ.y (OpY.fieldAddr Tfo_81_1 rfl rfl)) ?_
      refine Run.q (v := .int .i64 a) rfl (OpQ.y (OpY.load1 Tone_3 rfl (Cells.blk (.head _) ⟨rfl, trivial⟩))) ?_
      refine Run.q (v := .pointer (some ⟨b1, 2, none⟩)) rfl (OpQ.y (OpY.fieldAddr Tfo_81_2 rfl rfl)) ?_
      refine Run.q (v := .int .i64 b) rfl (OpQ.y (OpY.load1 Tone_3 rfl (Cells.blk (.head _) ⟨rfl, trivial⟩))) ?_
      refine Run.step rfl (OpStep.buildSlice (us := [.int .i64 a, .int .i64 b]) Tsl_28 (by decide) (by decide) ⟨rfl, [.int .i64 a], _, rfl, rfl, rfl, ⟨rfl, [.int .i64 b], _, rfl, rfl, rfl, rfl⟩⟩ rfl fun b2 => ?_)
      refine Run.q (v := .slice (some ⟨b2, 0, none⟩) 2 2) rfl (OpQ.y (OpY.pure rfl)) ?_
      refine Run.done ?_
      refine Run.ret ?_
      refine ⟨.slice (some ⟨b2, 0, none⟩) 2 2, [.own (.slice (some ⟨b2, 0, none⟩) 2 2) 3 1 ((qs k a b).length) (ints (qs k a b))], Out.one rfl rfl, (Some'.weak (.takeEq (by rw [hq]; rfl) (.nil _))), ?_⟩
      rfl
    · have p7 := h7; try simp only [bs] at p7
      have hq : qs k a b = [a] := by rw [qs, if_neg p3, if_neg p7]
      refine Run.skip ?_
      refine Run.blockEnd ?_
      refine Run.seq ?_
      refine Run.region ?_
      refine Run.q (v := .pointer (some ⟨b1, 1, none⟩)) rfl (OpQ.y (OpY.fieldAddr Tfo_81_1 rfl rfl)) ?_
      refine Run.q (v := .int .i64 a) rfl (OpQ.y (OpY.load1 Tone_3 rfl (Cells.blk (.head _) ⟨rfl, trivial⟩))) ?_
      refine Run.step rfl (OpStep.buildSlice (us := [.int .i64 a]) Tsl_28 (by decide) (by decide) ⟨rfl, [.int .i64 a], _, rfl, rfl, rfl, rfl⟩ rfl fun b3 => ?_)
      refine Run.q (v := .slice (some ⟨b3, 0, none⟩) 1 1) rfl (OpQ.y (OpY.pure rfl)) ?_
      refine Run.done ?_
      refine Run.ret ?_
      refine ⟨.slice (some ⟨b3, 0, none⟩) 1 1, [.own (.slice (some ⟨b3, 0, none⟩) 1 1) 3 1 ((qs k a b).length) (ints (qs k a b))], Out.one rfl rfl, (Some'.weak (.takeEq (by rw [hq]; rfl) (.nil _))), ?_⟩
      rfl

set_option maxHeartbeats 1000000 in
set_option maxRecDepth 20000 in
theorem l23Qubits_spec (k a b : Int) (w : World) : Calls Try.prog 92 #[.agg #[.int .i64 k, .int .i64 a, .int .i64 b]] w (Post No w fun v H => H = [.own v 3 1 (qs k a b).length (ints (qs k a b))]) := by
  refine enter (n := 18) (args := [.agg #[.int .i64 k, .int .i64 a, .int .i64 b]]) Try.func92 rfl rfl (St.empty _ _) ?_
  refine Run.seq ?_
  refine Run.region ?_
  refine Run.step rfl (OpStep.box (us := [.int .i64 k, .int .i64 a, .int .i64 b]) rfl fun b1 => ?_)
  refine Run.q (v := .slice none 0 0) rfl (OpQ.y (OpY.pure rfl)) ?_
  refine Run.done ?_
  refine Run.seq ?_
  refine Run.block ?_
  refine Run.seq ?_
  refine Run.region ?_
  refine Run.q (v := .pointer (some ⟨b1, 0, none⟩)) rfl (OpQ.y (OpY.fieldAddr Tfo_81_0 rfl rfl)) ?_
  refine Run.q (v := .int .i64 k) rfl (OpQ.y (OpY.load1 Tone_3 rfl (Cells.blk (.head _) ⟨rfl, trivial⟩))) ?_
  refine Run.q (v := .bool (k == 12)) rfl (OpQ.y (OpY.pure rfl)) ?_
  refine Run.q (v := .bool (k == 12)) rfl (OpQ.y (OpY.pure rfl)) ?_
  refine Run.done ?_
  refine Run.cond (b := k == 12) rfl (fun h3 => ?_) (fun h3 => ?_)
  · have p3 := h3; try simp only [bs] at p3
    have hq : qs k a b = [] := by simp [qs, p3]
    refine Run.seq ?_
    refine Run.region ?_
    refine Run.q (v := .slice none 0 0) rfl (OpQ.y (OpY.pure rfl)) ?_
    refine Run.done ?_
    refine Run.ret ?_
    refine ⟨.slice none 0 0, [.own (.slice none 0 0) 3 1 ((qs k a b).length) (ints (qs k a b))], Out.one rfl rfl, ((Weak.nilOwn 3 1).trans (Some'.weak (.takeEq (by rw [hq]; rfl) (.nil _)))), ?_⟩
    rfl
  · have p3 := h3; try simp only [bs] at p3
    refine Run.seq ?_
    refine Run.region ?_
    refine Run.q (v := .agg #[.int .i64 k, .int .i64 a, .int .i64 b]) rfl (OpQ.y (OpY.loadN (cs := [.int .i64 k, .int .i64 a, .int .i64 b]) Tagg_81 rfl (Cells.blk (.head _) ⟨rfl, rfl, rfl, trivial⟩))) ?_
    refine Run.q (v := .bool (decide (9 ≤ k ∧ k ≤ 11))) rfl (OpQ.call (vs := [.agg #[.int .i64 k, .int .i64 a, .int .i64 b]]) (caps := []) Tcall_59 rfl rfl (fun w hs => l22Two_spec _ _ _ w)) ?_
    refine Run.q (v := .bool (decide (9 ≤ k ∧ k ≤ 11))) rfl (OpQ.y (OpY.pure rfl)) ?_
    refine Run.done ?_
    refine Run.cond (b := decide (9 ≤ k ∧ k ≤ 11)) rfl (fun h7 => ?_) (fun h7 => ?_)
    · have p7 := h7; try simp only [bs] at p7
      have hq : qs k a b = [a, b] := by rw [qs, if_neg p3, if_pos p7]
      refine Run.seq ?_
      refine Run.region ?_
      refine Run.q (v := .pointer (some ⟨b1, 1, none⟩)) rfl (OpQ.y (OpY.fieldAddr Tfo_81_1 rfl rfl)) ?_
      refine Run.q (v := .int .i64 a) rfl (OpQ.y (OpY.load1 Tone_3 rfl (Cells.blk (.head _) ⟨rfl, trivial⟩))) ?_
      refine Run.q (v := .pointer (some ⟨b1, 2, none⟩)) rfl (OpQ.y (OpY.fieldAddr Tfo_81_2 rfl rfl)) ?_
      refine Run.q (v := .int .i64 b) rfl (OpQ.y (OpY.load1 Tone_3 rfl (Cells.blk (.head _) ⟨rfl, trivial⟩))) ?_
      refine Run.step rfl (OpStep.buildSlice (us := [.int .i64 a, .int .i64 b]) Tsl_28 (by decide) (by decide) ⟨rfl, [.int .i64 a], _, rfl, rfl, rfl, ⟨rfl, [.int .i64 b], _, rfl, rfl, rfl, rfl⟩⟩ rfl fun b2 => ?_)
      refine Run.q (v := .slice (some ⟨b2, 0, none⟩) 2 2) rfl (OpQ.y (OpY.pure rfl)) ?_
      refine Run.done ?_
      refine Run.ret ?_
      refine ⟨.slice (some ⟨b2, 0, none⟩) 2 2, [.own (.slice (some ⟨b2, 0, none⟩) 2 2) 3 1 ((qs k a b).length) (ints (qs k a b))], Out.one rfl rfl, (Some'.weak (.takeEq (by rw [hq]; rfl) (.nil _))), ?_⟩
      rfl
    · have p7 := h7; try simp only [bs] at p7
      have hq : qs k a b = [a] := by rw [qs, if_neg p3, if_neg p7]
      refine Run.skip ?_
      refine Run.blockEnd ?_
      refine Run.seq ?_
      refine Run.region ?_
      refine Run.q (v := .pointer (some ⟨b1, 1, none⟩)) rfl (OpQ.y (OpY.fieldAddr Tfo_81_1 rfl rfl)) ?_
      refine Run.q (v := .int .i64 a) rfl (OpQ.y (OpY.load1 Tone_3 rfl (Cells.blk (.head _) ⟨rfl, trivial⟩))) ?_
      refine Run.step rfl (OpStep.buildSlice (us := [.int .i64 a]) Tsl_28 (by decide) (by decide) ⟨rfl, [.int .i64 a], _, rfl, rfl, rfl, rfl⟩ rfl fun b3 => ?_)
      refine Run.q (v := .slice (some ⟨b3, 0, none⟩) 1 1) rfl (OpQ.y (OpY.pure rfl)) ?_
      refine Run.done ?_
      refine Run.ret ?_
      refine ⟨.slice (some ⟨b3, 0, none⟩) 1 1, [.own (.slice (some ⟨b3, 0, none⟩) 1 1) 3 1 ((qs k a b).length) (ints (qs k a b))], Out.one rfl rfl, (Some'.weak (.takeEq (by rw [hq]; rfl) (.nil _))), ?_⟩
      rfl

set_option maxHeartbeats 1000000 in
set_option maxRecDepth 20000 in
theorem validClosure_spec {N k a b : Int} {vg : Value} {w : World} (hN : 1 ≤ N ∧ N ≤ 5) {p : Nat} (hc : Sl w (.slice (some ⟨p, 0, none⟩) 1 1) 2 1 [.int .i64 N, vg]) : Calls Try.prog 96 #[.agg #[.int .i64 k, .int .i64 a, .int .i64 b], .pointer (some ⟨p, 0, none⟩)] w (Post No w fun v _ => v = .bool (!gateOk N k a b)) := by
  refine enter (n := 9) (args := [.agg #[.int .i64 k, .int .i64 a, .int .i64 b], .pointer (some ⟨p, 0, none⟩)]) Try.func96 rfl rfl (St.empty _ _) ?_
  refine Run.seq ?_
  refine Run.region ?_
  refine Run.step rfl (OpStep.box (us := [.int .i64 k, .int .i64 a, .int .i64 b]) rfl fun b1 => ?_)
  refine Run.q (v := .bool false) rfl (OpQ.y (OpY.pure rfl)) ?_
  refine Run.done ?_
  refine Run.seq ?_
  refine Run.region ?_
  refine Run.q (v := .pointer (some ⟨p, 0, none⟩)) rfl (OpQ.y (OpY.fieldAddr Tfo_39_0 rfl rfl)) ?_
  refine Run.q (v := .int .i64 N) rfl (OpQ.y (OpY.load1 Tone_3 rfl (Cells.env (k := 0) hc rfl (by decide) ⟨rfl, trivial⟩))) ?_
  refine Run.q (v := .agg #[.int .i64 k, .int .i64 a, .int .i64 b]) rfl (OpQ.y (OpY.loadN (cs := [.int .i64 k, .int .i64 a, .int .i64 b]) Tagg_81 rfl (Cells.blk (.head _) ⟨rfl, rfl, rfl, trivial⟩))) ?_
  refine Run.q (v := .bool (gateOk N k a b)) rfl (OpQ.call (vs := [.int .i64 N, .agg #[.int .i64 k, .int .i64 a, .int .i64 b]]) (caps := []) Tcall_97 rfl rfl (fun w hs => IsValidGate_spec hN w)) ?_
  refine Run.q (v := .bool (!(gateOk N k a b))) rfl (OpQ.y (OpY.pure rfl)) ?_
  refine Run.q (v := .bool (!(gateOk N k a b))) rfl (OpQ.y (OpY.pure rfl)) ?_
  refine Run.done ?_
  refine Run.ret ?_
  refine ⟨.bool (!(gateOk N k a b)), [], Out.one rfl rfl, (Some'.weak (.nil _)), ?_⟩
  rfl

set_option maxHeartbeats 1000000 in
set_option maxRecDepth 20000 in
theorem IndexFuncValid_spec {N : Int} {va vg : Value} {n : Nat} {xs : List Int} {w : World} (hN : 1 ≤ N ∧ N ≤ 5) (ha : Sl w va 3 n (ints xs)) {p : Nat} (hc : Sl w (.slice (some ⟨p, 0, none⟩) 1 1) 2 1 [.int .i64 N, vg]) : Calls Try.prog 102 #[va, .func (.func 96) #[] #[.pointer (some ⟨p, 0, none⟩)]] w (Post No w fun v _ => v = .int .i64 (findI (fun i => !gateAt N xs i) n)) := by
  have hxl := ha.len
  have hn := ha.le
  obtain ⟨A, c, rfl, _, _⟩ := ha.form0
  refine enter (n := 19) (args := [.slice A n c, .func (.func 96) #[] #[.pointer (some ⟨p, 0, none⟩)]]) Try.func102 rfl rfl (St.empty _ _) ?_
  refine Run.seq ?_
  refine Run.region ?_
  refine Run.q (v := .int .i64 0) rfl (OpQ.y (OpY.pure rfl)) ?_
  refine Run.done ?_
  refine Run.seq ?_
  refine Run.seq ?_
  refine Run.region ?_
  refine Run.q (v := .slice A n c) rfl (OpQ.y (OpY.pure rfl)) ?_
  refine Run.q (v := .int .i64 (((n : Nat) : Int))) rfl (OpQ.y (OpY.len Tsl_37 rfl)) ?_
  refine Run.q (v := .int .i64 0) rfl (OpQ.y (OpY.pure rfl)) ?_
  refine Run.done ?_
  refine Run.block ?_
  refine Run.loop (ι := Nat) [4, 5, 8, 9, 10, 11, 12, 13, 14, 15, 16, 17, 18] (fun k => [(8, .int .i64 (((k : Nat) : Int)))]) (fun k => []) (fun k => k ≤ n ∧ (∀ i, i < k → (!gateAt N xs i) = false)) (fun k => n - k) 0 ?_ ?_ ?_ ?_
  · exact ⟨Nat.zero_le _, by first | trivial | (intro i hi; omega)⟩
  · exact ⟨rfl, trivial⟩
  · exact (Some'.weak (.nil _))
  · rintro k fr hinv
    show Run _ _ (over _ _ [(8, .int .i64 (((k : Nat) : Int)))] fr) []
    try dsimp only at hinv
    refine Run.seq ?_
    refine Run.region ?_
    refine Run.q (v := .bool (decide ((((k : Nat) : Int)) < (((n : Nat) : Int))))) rfl (OpQ.y (OpY.pure rfl)) ?_
    refine Run.done ?_
    refine Run.seq ?_
    refine Run.cond (b := decide ((((k : Nat) : Int)) < (((n : Nat) : Int)))) rfl (fun h9 => ?_) (fun h9 => ?_)
    · have p9 := h9; try simp only [bs] at p9
      have hltk : k < n := by omega
      obtain ⟨b, o, rfl⟩ := ha.opn (by omega)
      refine Run.skip ?_
      refine Run.seq ?_
      refine Run.block ?_
      refine Run.seq ?_
      refine Run.region ?_
      refine Run.q (v := .int .i64 (((k : Nat) : Int))) rfl (OpQ.y (OpY.pure rfl)) ?_
      refine Run.q (v := .int .i64 (((k : Nat) : Int))) rfl (OpQ.y (OpY.pure rfl)) ?_
      refine Run.done ?_
      refine Run.seq ?_
      refine Run.region ?_
      refine Run.q (v := .func (.func 96) #[] #[.pointer (some ⟨p, 0, none⟩)]) rfl (OpQ.y (OpY.pure rfl)) ?_
      refine Run.q (v := .slice (some ⟨b, o, none⟩) n c) rfl (OpQ.y (OpY.pure rfl)) ?_
      refine Run.q (v := .int .i64 (((k : Nat) : Int))) rfl (OpQ.y (OpY.pure rfl)) ?_
      refine Run.q (v := .pointer (some ⟨b, o + k * 3, none⟩)) rfl (OpQ.y (OpY.index (kk := k) Tsl_37 rfl rfl (by omega) (by omega) (by first | rfl | omega))) ?_
      refine Run.q (v := .agg #[.int .i64 (ix xs (k * 3)), .int .i64 (ix xs (k * 3 + 1)), .int .i64 (ix xs (k * 3 + 2))]) rfl (OpQ.y (OpY.loadN (cs := [.int .i64 (ix xs (k * 3)), .int .i64 (ix xs (k * 3 + 1)), .int .i64 (ix xs (k * 3 + 2))]) Tagg_81 rfl (Cells.arg (k := k * 3) ha rfl (by omega) (pre3 (by omega))))) ?_
      refine Run.q (v := .bool (!gateOk N (ix xs (k * 3)) (ix xs (k * 3 + 1)) (ix xs (k * 3 + 2)))) rfl (OpQ.call (vs := [.agg #[.int .i64 (ix xs (k * 3)), .int .i64 (ix xs (k * 3 + 1)), .int .i64 (ix xs (k * 3 + 2))], .pointer (some ⟨p, 0, none⟩)]) (caps := [.pointer (some ⟨p, 0, none⟩)]) Tcall_96 rfl rfl (fun w hs => validClosure_spec hN (hs.sl hc))) ?_
      refine Run.done ?_
      refine Run.cond (b := !gateOk N (ix xs (k * 3)) (ix xs (k * 3 + 1)) (ix xs (k * 3 + 2))) rfl (fun h16 => ?_) (fun h16 => ?_)
      · have p16 := h16; try simp only [bs] at p16
        refine Run.seq ?_
        have hres : findI (fun i => !gateAt N xs i) n = k := findI_hit hinv.2 h16 hltk
        refine Run.region ?_
        refine Run.q (v := .int .i64 (((k : Nat) : Int))) rfl (OpQ.y (OpY.pure rfl)) ?_
        refine Run.q (v := .int .i64 (((k : Nat) : Int))) rfl (OpQ.y (OpY.pure rfl)) ?_
        refine Run.done ?_
        refine Run.ret ?_
        refine ⟨.int .i64 (((k : Nat) : Int)), [], Out.one rfl rfl, (Some'.weak (.nil _)), ?_⟩
        show _ = _; rw [hres]
      · have p16 := h16; try simp only [bs] at p16
        refine Run.skip ?_
        refine Run.blockEnd ?_
        have hgood : (!gateAt N xs k) = false := h16
        refine Run.region ?_
        refine Run.q (v := .int .i64 ((((k : Nat) : Int)) + 1)) rfl (OpQ.y (OpY.add rfl rfl rfl (by omega) (by omega))) ?_
        refine Run.q (v := .int .i64 ((((k : Nat) : Int)) + 1)) rfl (OpQ.y (OpY.pure rfl)) ?_
        refine Run.done ?_
        refine Run.goal ⟨(by repeat (first | exact Same.refl _ _ | refine Same.put rfl ?_ | refine Same.over rfl rfl ?_)), k + 1, ?_, ?_, ?_, ?_⟩
        · refine ⟨by omega, ?_⟩
          intro i hi
          rcases Nat.lt_succ_iff_lt_or_eq.1 hi with h | h
          · exact hinv.2 i h
          · rw [h]; exact hgood
        · omega
        · exact ⟨(by first | rfl | (congr 1; omega) | simp), trivial⟩
        · exact (Some'.weak (.nil _))
    · have p9 := h9; try simp only [bs] at p9
      have hknk : k = n := by omega
      have hres : findI (fun i => !gateAt N xs i) n = -1 := by rw [← hknk]; exact findI_none hinv.2
      refine Run.exit rfl ?_
      refine Run.seq ?_
      refine Run.region ?_
      refine Run.q (v := .int .i64 (-1)) rfl (OpQ.y (OpY.pure rfl)) ?_
      refine Run.done ?_
      refine Run.ret ?_
      refine ⟨.int .i64 (-1), [], Out.one rfl rfl, (Some'.weak (.nil _)), ?_⟩
      show _ = _; rw [hres]

set_option maxHeartbeats 1000000 in
set_option maxRecDepth 20000 in
theorem ContainsFuncValid_spec {N : Int} {va vg : Value} {n : Nat} {xs : List Int} {w : World} (hN : 1 ≤ N ∧ N ≤ 5) (ha : Sl w va 3 n (ints xs)) {p : Nat} (hc : Sl w (.slice (some ⟨p, 0, none⟩) 1 1) 2 1 [.int .i64 N, vg]) : Calls Try.prog 95 #[va, .func (.func 96) #[] #[.pointer (some ⟨p, 0, none⟩)]] w (Post No w fun v _ => v = .bool (!allI (gateAt N xs) n)) := by
  refine enter (n := 9) (args := [va, .func (.func 96) #[] #[.pointer (some ⟨p, 0, none⟩)]]) Try.func95 rfl rfl (St.empty _ _) ?_
  refine Run.seq ?_
  refine Run.region ?_
  refine Run.q (v := .bool false) rfl (OpQ.y (OpY.pure rfl)) ?_
  refine Run.done ?_
  refine Run.seq ?_
  refine Run.region ?_
  refine Run.q (v := va) rfl (OpQ.y (OpY.pure rfl)) ?_
  refine Run.q (v := .func (.func 96) #[] #[.pointer (some ⟨p, 0, none⟩)]) rfl (OpQ.y (OpY.pure rfl)) ?_
  refine Run.q (v := .int .i64 (findI (fun i => !gateAt N xs i) n)) rfl (OpQ.call (vs := [va, .func (.func 96) #[] #[.pointer (some ⟨p, 0, none⟩)]]) (caps := []) Tcall_102 rfl rfl (fun w hs => IndexFuncValid_spec hN (hs.sl ha) (hs.sl hc))) ?_
  refine Run.q (v := .bool (decide ((findI (fun i => !gateAt N xs i) n) ≥ 0))) rfl (OpQ.y (OpY.pure rfl)) ?_
  refine Run.q (v := .bool (decide ((findI (fun i => !gateAt N xs i) n) ≥ 0))) rfl (OpQ.y (OpY.pure rfl)) ?_
  refine Run.done ?_
  refine Run.ret ?_
  refine ⟨.bool (decide ((findI (fun i => !gateAt N xs i) n) ≥ 0)), [], Out.one rfl rfl, (Some'.weak (.nil _)), ?_⟩
  show _ = _; rw [findI_ge, allI, Bool.not_not]

set_option maxHeartbeats 1000000 in
set_option maxRecDepth 20000 in
theorem IsValidCircuit_spec {N : Int} {va : Value} {n : Nat} {xs : List Int} {w : World} (ha : Sl w va 3 n (ints xs)) : Calls Try.prog 87 #[.agg #[.int .i64 N, va]] w (Post No w fun v _ => v = .bool (circOk N xs n)) := by
  have hxl := ha.len
  have hn := ha.le
  obtain ⟨A, c, rfl, _, _⟩ := ha.form0
  refine enter (n := 19) (args := [.agg #[.int .i64 N, .slice A n c]]) Try.func87 rfl rfl (St.empty _ _) ?_
  refine Run.seq ?_
  refine Run.region ?_
  refine Run.step rfl (OpStep.box (us := [.int .i64 N, .slice A n c]) rfl fun b1 => ?_)
  refine Run.q (v := .bool false) rfl (OpQ.y (OpY.pure rfl)) ?_
  refine Run.done ?_
  refine Run.seq ?_
  refine Run.region ?_
  refine Run.q (v := .pointer (some ⟨b1, 0, none⟩)) rfl (OpQ.y (OpY.fieldAddr Tfo_39_0 rfl rfl)) ?_
  refine Run.q (v := .int .i64 N) rfl (OpQ.y (OpY.load1 Tone_3 rfl (Cells.blk (.head _) ⟨rfl, trivial⟩))) ?_
  refine Run.q (v := .bool (within N 1 5)) rfl (OpQ.call (vs := [.int .i64 N, .int .i64 1, .int .i64 5]) (caps := []) Tcall_73 rfl rfl (fun w hs => within_spec _ _ _ w)) ?_
  rcases Bool.eq_false_or_eq_true (within N 1 5) with h6 | h6
  · refine Run.q (v := .bool true) rfl (OpQ.y (OpY.moveB rfl h6)) ?_
    have p6 := h6; try simp only [bs] at p6
    refine Run.q (v := .pointer (some ⟨b1, 1, none⟩)) rfl (OpQ.y (OpY.fieldAddr Tfo_39_1 rfl rfl)) ?_
    refine Run.q (v := .slice A n c) rfl (OpQ.y (OpY.load1 Tone_37 rfl (Cells.blk (.head _) ⟨rfl, trivial⟩))) ?_
    refine Run.q (v := .int .i64 (((n : Nat) : Int))) rfl (OpQ.y (OpY.len Tsl_37 rfl)) ?_
    refine Run.q (v := .bool (decide ((((n : Nat) : Int)) ≤ 400))) rfl (OpQ.y (OpY.pure rfl)) ?_
    refine Run.q (v := .bool (decide ((((n : Nat) : Int)) ≤ 400))) rfl (OpQ.y (OpY.pure rfl)) ?_
    rcases Bool.eq_false_or_eq_true (decide ((((n : Nat) : Int)) ≤ 400)) with h12 | h12
    · refine Run.q (v := .bool true) rfl (OpQ.y (OpY.moveB rfl h12)) ?_
      have p12 := h12; try simp only [bs] at p12
      refine Run.q (v := .pointer (some ⟨b1, 1, none⟩)) rfl (OpQ.y (OpY.fieldAddr Tfo_39_1 rfl rfl)) ?_
      refine Run.q (v := .slice A n c) rfl (OpQ.y (OpY.load1 Tone_37 rfl (Cells.blk (.head _) ⟨rfl, trivial⟩))) ?_
      refine Run.q (v := .func (.func 96) #[] #[.pointer (some ⟨b1, 0, none⟩)]) rfl (OpQ.y (OpY.makeFunc (caps := [.pointer (some ⟨b1, 0, none⟩)]) rfl)) ?_
      refine Run.q (v := .bool (!allI (gateAt N xs) n)) rfl (OpQ.call (vs := [.slice A n c, .func (.func 96) #[] #[.pointer (some ⟨b1, 0, none⟩)]]) (caps := []) Tcall_95 rfl rfl (fun w hs => ContainsFuncValid_spec (within_iff.1 p6) (hs.sl ha) (hs.slBlk (.head _)))) ?_
      refine Run.q (v := .bool (!(!allI (gateAt N xs) n))) rfl (OpQ.y (OpY.pure rfl)) ?_
      refine Run.q (v := .bool (!(!allI (gateAt N xs) n))) rfl (OpQ.y (OpY.pure rfl)) ?_
      refine Run.q (v := .bool (!(!allI (gateAt N xs) n))) rfl (OpQ.y (OpY.pure rfl)) ?_
      refine Run.done ?_
      refine Run.ret ?_
      refine ⟨.bool (!(!allI (gateAt N xs) n)), [], Out.one rfl rfl, (Some'.weak (.nil _)), ?_⟩
      show _ = _; simp only [circOk] at *; simp_all; try omega
    · refine Run.q (v := .bool false) rfl (OpQ.y (OpY.moveB rfl h12)) ?_
      have p12 := h12; try simp only [bs] at p12
      refine Run.pass rfl ?_
      refine Run.pass rfl ?_
      refine Run.pass rfl ?_
      refine Run.pass rfl ?_
      refine Run.pass rfl ?_
      refine Run.q (v := .bool false) rfl (OpQ.y (OpY.pure rfl)) ?_
      refine Run.q (v := .bool false) rfl (OpQ.y (OpY.pure rfl)) ?_
      refine Run.done ?_
      refine Run.ret ?_
      refine ⟨.bool false, [], Out.one rfl rfl, (Some'.weak (.nil _)), ?_⟩
      show _ = _; simp only [circOk] at *; simp_all; try omega
  · refine Run.q (v := .bool false) rfl (OpQ.y (OpY.moveB rfl h6)) ?_
    have p6 := h6; try simp only [bs] at p6
    refine Run.pass rfl ?_
    refine Run.pass rfl ?_
    refine Run.pass rfl ?_
    refine Run.pass rfl ?_
    refine Run.q (v := .bool false) rfl (OpQ.y (OpY.pure rfl)) ?_
    refine Run.q (v := .bool false) rfl (OpQ.y (OpY.pure rfl)) ?_
    refine Run.pass rfl ?_
    refine Run.pass rfl ?_
    refine Run.pass rfl ?_
    refine Run.pass rfl ?_
    refine Run.pass rfl ?_
    refine Run.q (v := .bool false) rfl (OpQ.y (OpY.pure rfl)) ?_
    refine Run.q (v := .bool false) rfl (OpQ.y (OpY.pure rfl)) ?_
    refine Run.done ?_
    refine Run.ret ?_
    refine ⟨.bool false, [], Out.one rfl rfl, (Some'.weak (.nil _)), ?_⟩
    show _ = _; simp only [circOk] at *; simp_all; try omega

set_option maxHeartbeats 1000000 in
set_option maxRecDepth 20000 in
theorem l4Good_spec {N : Int} {va : Value} {n : Nat} {xs : List Int} {w : World} (ha : Sl w va 3 n (ints xs)) : Calls Try.prog 81 #[.agg #[.int .i64 N, va]] w (Post No w fun v _ => v = .bool (circOk N xs n)) := by
  have hxl := ha.len
  have hn := ha.le
  obtain ⟨A, c, rfl, _, _⟩ := ha.form0
  refine enter (n := 28) (args := [.agg #[.int .i64 N, .slice A n c]]) Try.func81 rfl rfl (St.empty _ _) ?_
  refine Run.seq ?_
  refine Run.region ?_
  refine Run.step rfl (OpStep.box (us := [.int .i64 N, .slice A n c]) rfl fun b1 => ?_)
  refine Run.q (v := .bool false) rfl (OpQ.y (OpY.pure rfl)) ?_
  refine Run.done ?_
  refine Run.seq ?_
  refine Run.seq ?_
  refine Run.region ?_
  refine Run.q (v := .pointer (some ⟨b1, 0, none⟩)) rfl (OpQ.y (OpY.fieldAddr Tfo_39_0 rfl rfl)) ?_
  refine Run.q (v := .int .i64 N) rfl (OpQ.y (OpY.load1 Tone_3 rfl (Cells.blk (.head _) ⟨rfl, trivial⟩))) ?_
  refine Run.q (v := .bool (within N 1 5)) rfl (OpQ.call (vs := [.int .i64 N, .int .i64 1, .int .i64 5]) (caps := []) Tcall_61 rfl rfl (fun w hs => l1In_spec _ _ _ w)) ?_
  refine Run.q (v := .bool (!(within N 1 5))) rfl (OpQ.y (OpY.pure rfl)) ?_
  rcases Bool.eq_false_or_eq_true (!(within N 1 5)) with h9 | h9
  · refine Run.q (v := .bool true) rfl (OpQ.y (OpY.moveB rfl h9)) ?_
    have p9 := h9; try simp only [bs] at p9
    refine Run.pass rfl ?_
    refine Run.pass rfl ?_
    refine Run.pass rfl ?_
    refine Run.pass rfl ?_
    refine Run.q (v := .bool true) rfl (OpQ.y (OpY.pure rfl)) ?_
    refine Run.done ?_
    refine Run.cond (b := true) rfl (fun _ => ?_) (fun h => nomatch h)
    refine Run.seq ?_
    refine Run.region ?_
    refine Run.q (v := .bool false) rfl (OpQ.y (OpY.pure rfl)) ?_
    refine Run.done ?_
    refine Run.ret ?_
    refine ⟨.bool false, [], Out.one rfl rfl, (Some'.weak (.nil _)), ?_⟩
    show _ = _; simp only [circOk] at *; simp_all; try omega
  · refine Run.q (v := .bool false) rfl (OpQ.y (OpY.moveB rfl h9)) ?_
    have p9 := h9; try simp only [bs] at p9
    refine Run.q (v := .pointer (some ⟨b1, 1, none⟩)) rfl (OpQ.y (OpY.fieldAddr Tfo_39_1 rfl rfl)) ?_
    refine Run.q (v := .slice A n c) rfl (OpQ.y (OpY.load1 Tone_37 rfl (Cells.blk (.head _) ⟨rfl, trivial⟩))) ?_
    refine Run.q (v := .int .i64 (((n : Nat) : Int))) rfl (OpQ.y (OpY.len Tsl_37 rfl)) ?_
    refine Run.q (v := .bool (decide ((((n : Nat) : Int)) > 400))) rfl (OpQ.y (OpY.pure rfl)) ?_
    refine Run.q (v := .bool (decide ((((n : Nat) : Int)) > 400))) rfl (OpQ.y (OpY.pure rfl)) ?_
    refine Run.done ?_
    refine Run.cond (b := decide ((((n : Nat) : Int)) > 400)) rfl (fun h14 => ?_) (fun h14 => ?_)
    · have p14 := h14; try simp only [bs] at p14
      refine Run.seq ?_
      refine Run.region ?_
      refine Run.q (v := .bool false) rfl (OpQ.y (OpY.pure rfl)) ?_
      refine Run.done ?_
      refine Run.ret ?_
      refine ⟨.bool false, [], Out.one rfl rfl, (Some'.weak (.nil _)), ?_⟩
      show _ = _; simp only [circOk] at *; simp_all; try omega
    · have p14 := h14; try simp only [bs] at p14
      refine Run.skip ?_
      refine Run.seq ?_
      refine Run.seq ?_
      have hwi : within N 1 5 = true := by simpa using p9
      refine Run.region ?_
      refine Run.q (v := .pointer (some ⟨b1, 1, none⟩)) rfl (OpQ.y (OpY.fieldAddr Tfo_39_1 rfl rfl)) ?_
      refine Run.q (v := .slice A n c) rfl (OpQ.y (OpY.load1 Tone_37 rfl (Cells.blk (.head _) ⟨rfl, trivial⟩))) ?_
      refine Run.q (v := .int .i64 (((n : Nat) : Int))) rfl (OpQ.y (OpY.len Tsl_37 rfl)) ?_
      refine Run.q (v := .int .i64 0) rfl (OpQ.y (OpY.pure rfl)) ?_
      refine Run.done ?_
      refine Run.block ?_
      refine Run.loop (ι := Nat) [2, 4, 18, 19, 20, 21, 22, 23, 24, 25, 26, 27] (fun k => [(18, .int .i64 (((k : Nat) : Int)))]) (fun k => [.blk b1 39 [.int .i64 N, .slice A n c]]) (fun k => k ≤ n ∧ (∀ i, i < k → gateAt N xs i = true)) (fun k => n - k) 0 ?_ ?_ ?_ ?_
      · exact ⟨Nat.zero_le _, by first | trivial | (intro i hi; omega)⟩
      · exact ⟨rfl, trivial⟩
      · exact (Some'.weak (.take (.nil _)))
      · rintro k fr hinv
        show Run _ _ (over _ _ [(18, .int .i64 (((k : Nat) : Int)))] fr) [.blk b1 39 [.int .i64 N, .slice A n c]]
        try dsimp only at hinv
        refine Run.seq ?_
        refine Run.region ?_
        refine Run.q (v := .bool (decide ((((k : Nat) : Int)) < (((n : Nat) : Int))))) rfl (OpQ.y (OpY.pure rfl)) ?_
        refine Run.done ?_
        refine Run.seq ?_
        refine Run.cond (b := decide ((((k : Nat) : Int)) < (((n : Nat) : Int)))) rfl (fun h19 => ?_) (fun h19 => ?_)
        · have p19 := h19; try simp only [bs] at p19
          have hltk : k < n := by omega
          obtain ⟨b, o, rfl⟩ := ha.opn (by omega)
          refine Run.skip ?_
          refine Run.seq ?_
          refine Run.block ?_
          refine Run.seq ?_
          refine Run.region ?_
          refine Run.q (v := .pointer (some ⟨b, o + k * 3, none⟩)) rfl (OpQ.y (OpY.index (kk := k) Tsl_37 rfl rfl (by omega) (by omega) (by first | rfl | omega))) ?_
          refine Run.q (v := .agg #[.int .i64 (ix xs (k * 3)), .int .i64 (ix xs (k * 3 + 1)), .int .i64 (ix xs (k * 3 + 2))]) rfl (OpQ.y (OpY.loadN (cs := [.int .i64 (ix xs (k * 3)), .int .i64 (ix xs (k * 3 + 1)), .int .i64 (ix xs (k * 3 + 2))]) Tagg_81 rfl (Cells.arg (k := k * 3) ha rfl (by omega) (pre3 (by omega))))) ?_
          refine Run.step rfl (OpStep.alloc (zs := [.int .i64 0, .int .i64 0, .int .i64 0]) Tzero_81 fun b2 => ?_)
          refine Run.step rfl (OpStep.storeAll (us := [.int .i64 (ix xs (k * 3)), .int .i64 (ix xs (k * 3 + 1)), .int .i64 (ix xs (k * 3 + 2))]) Tsize_81 rfl rfl rfl (.here _) rfl ?_)
          refine Run.done ?_
          refine Run.seq ?_
          refine Run.region ?_
          refine Run.q (v := .pointer (some ⟨b1, 0, none⟩)) rfl (OpQ.y (OpY.fieldAddr Tfo_39_0 rfl rfl)) ?_
          refine Run.q (v := .int .i64 N) rfl (OpQ.y (OpY.load1 Tone_3 rfl (Cells.blk (.tail _ (List.Mem.head _)) ⟨rfl, trivial⟩))) ?_
          refine Run.q (v := .agg #[.int .i64 (ix xs (k * 3)), .int .i64 (ix xs (k * 3 + 1)), .int .i64 (ix xs (k * 3 + 2))]) rfl (OpQ.y (OpY.loadN (cs := [.int .i64 (ix xs (k * 3)), .int .i64 (ix xs (k * 3 + 1)), .int .i64 (ix xs (k * 3 + 2))]) Tagg_81 rfl (Cells.blk (.head _) ⟨rfl, rfl, rfl, trivial⟩))) ?_
          refine Run.q (v := .bool (gateOk N (ix xs (k * 3)) (ix xs (k * 3 + 1)) (ix xs (k * 3 + 2)))) rfl (OpQ.call (vs := [.int .i64 N, .agg #[.int .i64 (ix xs (k * 3)), .int .i64 (ix xs (k * 3 + 1)), .int .i64 (ix xs (k * 3 + 2))]]) (caps := []) Tcall_91 rfl rfl (fun w hs => l4Gate_spec (within_iff.1 hwi) w)) ?_
          refine Run.q (v := .bool (!(gateOk N (ix xs (k * 3)) (ix xs (k * 3 + 1)) (ix xs (k * 3 + 2))))) rfl (OpQ.y (OpY.pure rfl)) ?_
          refine Run.done ?_
          refine Run.cond (b := !(gateOk N (ix xs (k * 3)) (ix xs (k * 3 + 1)) (ix xs (k * 3 + 2)))) rfl (fun h26 => ?_) (fun h26 => ?_)
          · have p26 := h26; try simp only [bs] at p26
            refine Run.seq ?_
            have hres : allI (gateAt N xs) n = false := allI_false hltk (by simpa [gateAt] using p26)
            refine Run.region ?_
            refine Run.q (v := .bool false) rfl (OpQ.y (OpY.pure rfl)) ?_
            refine Run.done ?_
            refine Run.ret ?_
            refine ⟨.bool false, [], Out.one rfl rfl, (Some'.weak (.nil _)), ?_⟩
            show _ = _; simp only [circOk] at *; simp_all; try omega
          · have p26 := h26; try simp only [bs] at p26
            refine Run.skip ?_
            refine Run.blockEnd ?_
            have hgood : gateAt N xs k = true := by simpa [gateAt] using p26
            refine Run.region ?_
            refine Run.q (v := .int .i64 ((((k : Nat) : Int)) + 1)) rfl (OpQ.y (OpY.add rfl rfl rfl (by omega) (by omega))) ?_
            refine Run.q (v := .int .i64 ((((k : Nat) : Int)) + 1)) rfl (OpQ.y (OpY.pure rfl)) ?_
            refine Run.done ?_
            refine Run.goal ⟨(by repeat (first | exact Same.refl _ _ | refine Same.put rfl ?_ | refine Same.over rfl rfl ?_)), k + 1, ?_, ?_, ?_, ?_⟩
            · refine ⟨by omega, ?_⟩
              intro i hi
              rcases Nat.lt_succ_iff_lt_or_eq.1 hi with h | h
              · exact hinv.2 i h
              · rw [h]; exact hgood
            · omega
            · exact ⟨(by first | rfl | (congr 1; omega) | simp), trivial⟩
            · exact (Some'.weak (.skip (.takeEq (by first | rfl | simp) (.nil _))))
        · have p19 := h19; try simp only [bs] at p19
          have hknk : k = n := by omega
          have hres : allI (gateAt N xs) n = true := by rw [← hknk]; exact allI_iff.2 hinv.2
          refine Run.exit rfl ?_
          refine Run.seq ?_
          refine Run.region ?_
          refine Run.q (v := .bool true) rfl (OpQ.y (OpY.pure rfl)) ?_
          refine Run.done ?_
          refine Run.ret ?_
          refine ⟨.bool true, [], Out.one rfl rfl, (Some'.weak (.nil _)), ?_⟩
          show _ = _; simp only [circOk] at *; simp_all; try omega

set_option maxHeartbeats 1000000 in
set_option maxRecDepth 20000 in
theorem small_spec (b : Bool) (w : World) : Calls Try.prog 56 #[.bool b] w (Post No w fun v _ => v = .int .i64 (if b then 1 else 0)) := by
  refine enter (n := 4) (args := [.bool b]) Try.func56 rfl rfl (St.empty _ _) ?_
  refine Run.seq ?_
  refine Run.region ?_
  refine Run.q (v := .int .i64 0) rfl (OpQ.y (OpY.pure rfl)) ?_
  refine Run.done ?_
  refine Run.seq ?_
  refine Run.seq ?_
  refine Run.region ?_
  refine Run.q (v := .bool b) rfl (OpQ.y (OpY.pure rfl)) ?_
  refine Run.done ?_
  refine Run.cond (b := b) rfl (fun h3 => ?_) (fun h3 => ?_)
  · have p3 := h3; try simp only [bs] at p3
    refine Run.seq ?_
    refine Run.region ?_
    refine Run.q (v := .int .i64 1) rfl (OpQ.y (OpY.pure rfl)) ?_
    refine Run.done ?_
    refine Run.ret ?_
    refine ⟨.int .i64 1, [], Out.one rfl rfl, (Some'.weak (.nil _)), ?_⟩
    show _ = _; first | rw [if_pos h3] | rw [if_neg (by rw [h3]; decide)]
  · have p3 := h3; try simp only [bs] at p3
    refine Run.skip ?_
    refine Run.seq ?_
    refine Run.region ?_
    refine Run.q (v := .int .i64 0) rfl (OpQ.y (OpY.pure rfl)) ?_
    refine Run.done ?_
    refine Run.ret ?_
    refine ⟨.int .i64 0, [], Out.one rfl rfl, (Some'.weak (.nil _)), ?_⟩
    show _ = _; first | rw [if_pos h3] | rw [if_neg (by rw [h3]; decide)]

end Go.Proofs.Ytekikmdjldincaa
