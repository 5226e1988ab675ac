/- Lists of truth values as cells. -/
import Derived.Test.YtnnkoeknejeieaaW1
import Derived.Test.YtnnkoeknejeieaaProg
set_option linter.unusedSimpArgs false
set_option linter.unusedVariables false
namespace Go.Proofs.Ytnnkoeknejeieaa
open Go Go.RowKit

def bls (l : List Bool) : List Value := l.map Value.bool
def bx (l : List Bool) (i : Nat) : Bool := l.getD i false
theorem bls_get {l : List Bool} {i : Nat} (h : i < l.length) : (bls l)[i]? = some (.bool (bx l i)) := by simp [bls, bx, List.getD, h]
theorem preBl {l : List Bool} {i : Nat} (h : i < l.length) : Pre (bls l) i [.bool (bx l i)] := ⟨bls_get h, trivial⟩
theorem bls_length (l : List Bool) : (bls l).length = l.length := by simp [bls]
theorem bls_all (l : List Bool) : ∀ v ∈ bls l, v.oneCell' = true := by
  intro v hv
  obtain ⟨b, _, rfl⟩ := List.mem_map.1 hv
  rfl
theorem bls_rep (N : Nat) : (List.replicate N ([.bool false] : List Value)).flatten = bls (List.replicate N false) := by
  induction N with
  | zero => rfl
  | succ N ih => rw [List.replicate_succ, List.flatten_cons, ih]; simp [bls, List.replicate_succ]
theorem bls_set (l : List Bool) (c : Nat) (b : Bool) : spl (bls l) c [.bool b] = bls (l.set c b) := by
  show (bls l).set c (.bool b) = _
  simp [bls, List.map_set]
theorem bx_set {l : List Bool} {i j : Nat} (h : i < l.length) : bx (l.set i true) j = (bx l j || decide (i = j)) := by
  simp only [bx, List.getD, List.getElem?_set]
  by_cases e : i = j
  · subst e; simp [h]
  · simp [e]
theorem Sl.blen {w : World} {v : Value} {n : Nat} {ds : List Bool} (h : Sl w v 1 n (bls ds)) : ds.length = n := by
  have h1 := h.1; rw [bls_length] at h1; omega
theorem bits_or_natB {a b : Nat} (ha : a < 9223372036854775808) (hb : b < 9223372036854775808) : bits .or .i64 (a : Int) (b : Int) = ((a ||| b : Nat) : Int) := by
  have h1 : a ||| b < 9223372036854775808 := Nat.or_lt_two_pow (n := 63) ha hb
  have h2 : (BitVec.ofInt 64 (a : Int) ||| BitVec.ofInt 64 (b : Int)).toNat = a ||| b := by
    rw [BitVec.toNat_or, BitVec.toNat_ofInt, BitVec.toNat_ofInt]
    congr 1 <;> omega
  show IntKind.i64.wrap ((BitVec.ofInt 64 (a : Int) ||| BitVec.ofInt 64 (b : Int)).toNat : Int) = _
  rw [h2, IntKind.wrap_i64]; omega
section
variable {E : Env} {f : Fr} {H : List Res} {d : Option Tmp} {ty : TypeId} {pos : String} {after : Array Edge} {gd : Option (Nat × Bool)}
theorem OpY.orNatB {t t' : TypeId} {x y : Operand} {a b : Int} {m n : Nat} (hx : f.eval x = .int .i64 a) (hy : f.eval y = .int .i64 b) (ha : a = (m : Nat)) (hb : b = (n : Nat)) (hm : m < 9223372036854775808) (hn : n < 9223372036854775808) :
    OpY E ⟨d, .binOp .or t x y t', ty, pos, after, gd⟩ f H (.int .i64 ((m ||| n : Nat) : Int)) := by
  have := OpY.or (E := E) (H := H) (d := d) (ty := ty) (pos := pos) (after := after) (gd := gd) (t := t) (t' := t') hx hy
  rw [ha, hb, bits_or_natB hm hn] at this; exact this
theorem OpY.shlOneB {t t' : TypeId} {x y : Operand} {b : Int} {n q : Nat} {k : IntKind} (hx : f.eval x = .int .i64 1) (hy : f.eval y = .int k b) (hb : b = (n : Nat)) (hn : n ≤ 62) (hq : q = 2 ^ n) :
    OpY E ⟨d, .binOp .shl t x y t', ty, pos, after, gd⟩ f H (.int .i64 (q : Int)) := by
  subst hq
  have h1 : 2 ^ n ≤ 2 ^ 62 := Nat.pow_le_pow_right (by omega) hn
  have h2 : (2 : Nat) ^ 62 = 4611686018427387904 := by decide
  have h3 : ((2 ^ n : Nat) : Int) ≤ 4611686018427387904 := by
    rw [h2] at h1
    exact Int.ofNat_le.2 h1
  have h4 : (0 : Int) ≤ ((2 ^ n : Nat) : Int) := Int.natCast_nonneg _
  exact OpY.shl (n := n) hx hy hb (by omega) (by push_cast; rw [Int.one_mul]) (Int.le_trans (by decide) h4) (Int.le_trans h3 (by decide))
end

end Go.Proofs.Ytnnkoeknejeieaa
