/- Plain laws: behind the bytes that are given the generator yields every byte, in at most 2^48 steps. -/
import Derived.Test.YtgghmjijjdboeaaDr
import Derived.Test.YtgghmjijjdboeaaDist
set_option linter.unusedSimpArgs false
set_option linter.unusedVariables false
namespace Go.Proofs.Ytgghmjijjdboeaa
open Go Go.RowKit

def aff (A C M x : Nat) : Nat := (x * A + C) % M
def lit (f : Nat → Nat) : Nat → Nat → Nat
  | 0, x => x
  | t + 1, x => lit f t (f x)
theorem lit_add (f : Nat → Nat) : ∀ (t u x : Nat), lit f (t + u) x = lit f u (lit f t x)
  | 0, u, x => by rw [Nat.zero_add, lit]
  | t + 1, u, x => by rw [Nat.add_right_comm, lit, lit_add f t u, lit]
/-- Twice as many steps, again and again. -/
def dbl (A C M : Nat) : Nat → Nat × Nat
  | 0 => (A, C)
  | j + 1 => (((dbl A C M j).1 * (dbl A C M j).1) % M, ((dbl A C M j).1 * (dbl A C M j).2 + (dbl A C M j).2) % M)
theorem aff_aff (x A C M : Nat) : (((x * A + C) % M) * A + C) % M = (x * ((A * A) % M) + (A * C + C) % M) % M := by
  rw [Nat.add_mod ((x * A + C) % M * A), Nat.mul_mod ((x * A + C) % M), Nat.mod_mod, ← Nat.mul_mod, ← Nat.add_mod, Nat.add_mod (x * (A * A % M)), Nat.mul_mod x (A * A % M), Nat.mod_mod, Nat.mod_mod, ← Nat.mul_mod, ← Nat.add_mod]
  congr 1
  rw [Nat.add_mul, Nat.mul_assoc, Nat.mul_comm C A, Nat.add_assoc]
theorem dbl_spec (A C M : Nat) : ∀ j x, lit (aff A C M) (2 ^ j) x = (x * (dbl A C M j).1 + (dbl A C M j).2) % M
  | 0, x => rfl
  | j + 1, x => by
    rw [show (2 : Nat) ^ (j + 1) = 2 ^ j + 2 ^ j by rw [Nat.pow_succ]; omega, lit_add, dbl_spec A C M j, dbl_spec A C M j, dbl, aff_aff]
theorem dbl40 : dbl 6364136223846793005 1442695040888963407 18446744073709551616 40 = (8598326064743186433, 6294630401738539008) := by decide +kernel
def lf (x : Nat) : Nat := aff 6364136223846793005 1442695040888963407 18446744073709551616 x
theorem lf_aff : lf = aff 6364136223846793005 1442695040888963407 18446744073709551616 := by funext x; unfold lf; exact Eq.refl _
theorem lf_eq (x : Nat) : lf x = (x * 6364136223846793005 + 1442695040888963407) % 18446744073709551616 := by unfold lf aff; exact Eq.refl _
/-- The byte that is drawn at a seed. -/
def gB (x : Nat) : Nat := x / 1099511627776 % 256
theorem div40 (y lo : Nat) (z : Int) (hlo : lo < 1099511627776) (hy : (y : Int) = lo + 1099511627776 * z) : 0 ≤ z ∧ y / 1099511627776 = z.toNat ∧ (y : Int) % 64 = lo % 64 := by
  have h0 : 0 ≤ z := by omega
  obtain ⟨k, rfl⟩ : ∃ k : Nat, z = k := ⟨z.toNat, by omega⟩
  refine ⟨h0, ?_, by omega⟩
  omega
theorem mod40 (x hi q : Nat) (z : Int) (h0 : 0 ≤ z) (hz : (hi : Int) + 100 * x + 256 * (30547 * x) + 5 + 256 * 22363 - 16777216 * q = z) : z.toNat % 256 = (hi % 256 + (100 * (x % 64) + 5)) % 256 := by
  omega
theorem lit40_y (x q y : Nat) (h : 18446744073709551616 * q + y = x * 8598326064743186433 + 6294630401738539008) : gB y = (gB x + (100 * (x % 64) + 5)) % 256 ∧ y % 64 = x % 64 := by
  have hx : x = 1099511627776 * (x / 1099511627776) + x % 1099511627776 := by omega
  have hlo : x % 1099511627776 < 1099511627776 := by omega
  unfold gB
  generalize hhi : x / 1099511627776 = hi at hx ⊢
  generalize hlo' : x % 1099511627776 = lo at hx hlo
  have hy : (y : Int) = lo + 1099511627776 * ((hi : Int) + 100 * x + 256 * (30547 * x) + 5 + 256 * 22363 - 16777216 * q) := by omega
  generalize hz : ((hi : Int) + 100 * x + 256 * (30547 * x) + 5 + 256 * 22363 - 16777216 * q) = z at hy
  obtain ⟨h0, h1, h2⟩ := div40 y lo z hlo hy
  rw [h1]
  refine ⟨mod40 x hi q z h0 hz, ?_⟩
  clear h hy hz h1 hhi hlo'
  omega
theorem lit40 {T : Nat} (hT : T = 2 ^ 40) (x : Nat) : gB (lit lf T x) = (gB x + (100 * (x % 64) + 5)) % 256 ∧ lit lf T x % 64 = x % 64 := by
  have h := dbl_spec 6364136223846793005 1442695040888963407 18446744073709551616 40 x
  rw [← hT, dbl40, ← lf_aff] at h
  rw [h]
  exact lit40_y x ((x * 8598326064743186433 + 6294630401738539008) / 18446744073709551616) _ (Nat.div_add_mod _ _)
theorem litk {T : Nat} (hT : T = 2 ^ 40) (x : Nat) : ∀ k, gB (lit lf (k * T) x) = (gB x + k * (100 * (x % 64) + 5)) % 256 ∧ lit lf (k * T) x % 64 = x % 64
  | 0 => by
    rw [Nat.zero_mul, lit]
    refine ⟨?_, rfl⟩
    unfold gB; omega
  | k + 1 => by
    obtain ⟨h1, h2⟩ := litk hT x k
    rw [Nat.add_mul, Nat.one_mul, lit_add]
    obtain ⟨h3, h4⟩ := lit40 hT (lit lf (k * T) x)
    refine ⟨?_, by omega⟩
    rw [h3, h1, h2, Nat.add_mul, Nat.one_mul, Nat.mod_add_mod, Nat.add_assoc]
theorem inv256 : ∀ m, m < 64 → ∃ e, e < 256 ∧ (100 * m + 5) * e % 256 = 1 := by decide +kernel
theorem reach {T : Nat} (hT : T = 2 ^ 40) (x v : Nat) (hv : v < 256) : ∃ k, k < 256 ∧ gB (lit lf (k * T) x) = v := by
  obtain ⟨e, _, he⟩ := inv256 (x % 64) (Nat.mod_lt _ (by decide))
  refine ⟨((v + 256 - gB x) * e) % 256, Nat.mod_lt _ (by decide), ?_⟩
  have hg : gB x < 256 := Nat.mod_lt _ (by decide)
  rw [(litk hT x _).1]
  generalize 100 * (x % 64) + 5 = d at he
  rw [Nat.add_mod, Nat.mul_mod, Nat.mod_mod, ← Nat.mul_mod, Nat.mul_assoc, Nat.mul_comm e d, Nat.mul_mod, he, Nat.mul_one, Nat.mod_mod, ← Nat.add_mod]
  omega
/-! ### The generator behind the given bytes -/
theorem sdE_nat (x : Nat) (hx : x < 18446744073709551616) : sdE (x : Int) 0 = ((lf x : Nat) : Int) := by
  rw [lf_eq]; unfold sdE
  simp only [IntKind.wrap_u64]
  omega
theorem byte_nat (x : Nat) (hx : x < 18446744073709551616) : IntKind.i64.wrap (bits .and .u64 ((x : Int) >>> (40 : Nat)) 255) = ((gB x : Nat) : Int) := by
  have h0 : ((x : Int) >>> (40 : Nat)) = ((x / 1099511627776 : Nat) : Int) := by
    rw [Int.shiftRight_eq_div_pow]; norm_cast
  rw [h0]
  have h1 : bits .and .u64 ((x / 1099511627776 : Nat) : Int) 255 = (((BitVec.ofInt 64 ((x / 1099511627776 : Nat) : Int) &&& BitVec.ofInt 64 255).toNat : Nat) : Int) := by
    show IntKind.u64.wrap ((BitVec.ofInt 64 ((x / 1099511627776 : Nat) : Int) &&& BitVec.ofInt 64 255).toNat : Int) = _
    have := (BitVec.ofInt 64 ((x / 1099511627776 : Nat) : Int) &&& BitVec.ofInt 64 255).isLt
    rw [IntKind.wrap_u64]; omega
  have h2 : (BitVec.ofInt 64 ((x / 1099511627776 : Nat) : Int) &&& BitVec.ofInt 64 255).toNat = gB x := by
    rw [BitVec.toNat_and]
    have e1 : (BitVec.ofInt 64 255).toNat = 2 ^ 8 - 1 := by decide
    have e2 : (BitVec.ofInt 64 ((x / 1099511627776 : Nat) : Int)).toNat = x / 1099511627776 := by
      rw [BitVec.toNat_ofInt]; omega
    rw [e1, e2, Nat.and_two_pow_sub_one_eq_mod]; rfl
  rw [h1, h2, IntKind.wrap_i64]
  have : gB x < 256 := Nat.mod_lt _ (by decide)
  omega

end Go.Proofs.Ytgghmjijjdboeaa
