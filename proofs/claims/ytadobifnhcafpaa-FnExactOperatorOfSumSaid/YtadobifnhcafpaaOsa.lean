/- Walks: what an assignment of a path sum yields; numbers brought to scale. -/
import Derived.Test.YtadobifnhcafpaaRg
import Derived.Test.YtadobifnhcafpaaPs
import Derived.Test.YtadobifnhcafpaaProg
set_option linter.unusedSimpArgs false
set_option linter.unusedVariables false
namespace Go.Proofs.Ytadobifnhcafpaa
open Go Go.RowKit
namespace OsaT
theorem Tagg_51 : aggOf Try.prog 51 = some 2 := by kernel_rfl
theorem Tagg_54 : aggOf Try.prog 54 = some 2 := by kernel_rfl
theorem Tagg_56 : aggOf Try.prog 56 = some 4 := by kernel_rfl
theorem Tagg_61 : aggOf Try.prog 61 = some 5 := by kernel_rfl
theorem Tcall_40 : callable Try.prog 40 = true := by kernel_rfl
theorem Tcall_41 : callable Try.prog 41 = true := by kernel_rfl
theorem Tcall_52 : callable Try.prog 52 = true := by kernel_rfl
theorem Tcall_54 : callable Try.prog 54 = true := by kernel_rfl
theorem Tcall_55 : callable Try.prog 55 = true := by kernel_rfl
theorem Tcall_56 : callable Try.prog 56 = true := by kernel_rfl
theorem Tcall_57 : callable Try.prog 57 = true := by kernel_rfl
theorem Tcall_62 : callable Try.prog 62 = true := by kernel_rfl
theorem Tfo_35_3 : fieldOff Try.prog 35 3 = some 3 := by kernel_rfl
theorem Tfo_35_4 : fieldOff Try.prog 35 4 = some 4 := by kernel_rfl
theorem Tfo_35_5 : fieldOff Try.prog 35 5 = some 5 := by kernel_rfl
theorem Tfo_51_0 : fieldOff Try.prog 51 0 = some 0 := by kernel_rfl
theorem Tfo_51_1 : fieldOff Try.prog 51 1 = some 1 := by kernel_rfl
theorem Tfo_54_0 : fieldOff Try.prog 54 0 = some 0 := by kernel_rfl
theorem Tfo_54_1 : fieldOff Try.prog 54 1 = some 1 := by kernel_rfl
theorem Tint_48 : Try.prog.underlying 48 = some (.int .u64) := by kernel_rfl
theorem Tns_56_4 : numStruct Try.prog 56 4 = true := by kernel_rfl
theorem Tone_3 : oneOf Try.prog 3 = true := by kernel_rfl
theorem Tone_32 : oneOf Try.prog 32 = true := by kernel_rfl
theorem Tone_33 : oneOf Try.prog 33 = true := by kernel_rfl
theorem Tsize_51 : (Try.prog.info? 51).map (·.size) = some 2 := by kernel_rfl
theorem Tsize_54 : (Try.prog.info? 54).map (·.size) = some 2 := by kernel_rfl
theorem Tsize_56 : (Try.prog.info? 56).map (·.size) = some 4 := by kernel_rfl
theorem Tsize_61 : (Try.prog.info? 61).map (·.size) = some 5 := by kernel_rfl
theorem Tsl_32 : sliceOf Try.prog 32 = some (51, 2, 16, [.int .i64 0, .int .i64 0]) := by kernel_rfl
theorem Tsl_33 : sliceOf Try.prog 33 = some (54, 2, 16, [.int .i64 0, .int .i64 0]) := by kernel_rfl
theorem Tsl_83 : sliceOf Try.prog 83 = some (3, 1, 8, [.int .i64 0]) := by kernel_rfl
theorem Tsome_3 : (Try.prog.underlying 3).isSome = true := by kernel_rfl
theorem Tzero_51 : zeroOf Try.prog 51 = some [.int .i64 0, .int .i64 0] := by kernel_rfl
theorem Tzero_54 : zeroOf Try.prog 54 = some [.int .i64 0, .int .i64 0] := by kernel_rfl
theorem Tzero_61 : zeroOf Try.prog 61 = some [.int .i64 0, .int .i64 0, .int .i64 0, .int .i64 0, .int .i64 0] := by kernel_rfl
end OsaT
open OsaT

theorem marked_set5 {k : Int} {m m' : Nat} {xs : List Int} {a b c d e : Int} (ha : a = k + m) (hb : b = k + m + 1) (hc : c = k + m + 2) (hd : d = k + m + 3) (he : e = k + m + 4) (hm : m' = m + 5) : (((((marked k m xs).set m a).set (m + 1) b).set (m + 2) c).set (m + 3) d).set (m + 4) e = marked k m' xs := by
  rw [marked_set ha, marked_set (m := m + 1) (by omega)]; exact marked_set3 (by omega) (by omega) (by omega) (by omega)
theorem OpStep.storeOwnInt4 {E : Env} {f : Fr} {H : List Res} {d : Option Tmp} {ty : TypeId} {pos : String} {after : Array Edge} {gd : Option (Nat × Bool)} {K : Fr → List Res → Prop} {t : TypeId} {x y : Operand} {g cap n m o : Nat} {e : TypeId} {size : Nat} {xs : List Int} {a b c p : Int} {H' : List Res} (ht : (E.P.info? t).map (·.size) = some 4) (hx : f.eval x = .pointer (some ⟨g, o, none⟩)) (hy : f.eval y = .agg #[.int .i64 a, .int .i64 b, .int .i64 c, .int .i64 p])
    (hH : Turn (.own (.slice (some ⟨g, 0, none⟩) m cap) e size n (ints xs)) (.own (.slice (some ⟨g, 0, none⟩) m cap) e size n (ints ((((xs.set o a).set (o + 1) b).set (o + 2) c).set (o + 3) p))) H H') (hfit : o + 4 ≤ n * size) (hk : K (putF E.n f d undef) H') :
    OpStep E ⟨d, .store t x y, ty, pos, after, gd⟩ f H K := by
  refine OpStep.storeOwn (v := .slice (some ⟨g, 0, none⟩) m cap) (e := e) (m := m) (cap := cap) (us := [.int .i64 a, .int .i64 b, .int .i64 c, .int .i64 p]) (cs := ints xs) ht hx rfl (by rw [hy]; rfl) rfl ?_ hfit hk
  have e : spl (ints xs) o [.int .i64 a, .int .i64 b, .int .i64 c, .int .i64 p] = ints ((((xs.set o a).set (o + 1) b).set (o + 2) c).set (o + 3) p) := by simp [spl, ints, List.map_set]
  rw [e]; exact hH
theorem bits_and_nat {a b : Nat} (ha : a < 9223372036854775808) (hb : b < 9223372036854775808) : bits .and .i64 (a : Int) (b : Int) = ((a &&& b : Nat) : Int) := by
  have h1 : a &&& b < 9223372036854775808 := Nat.lt_of_le_of_lt Nat.and_le_left ha
  have h2 : (BitVec.ofInt 64 (a : Int) &&& BitVec.ofInt 64 (b : Int)).toNat = a &&& b := by
    rw [BitVec.toNat_and, BitVec.toNat_ofInt, BitVec.toNat_ofInt]
    congr 1 <;> omega
  show IntKind.i64.wrap ((BitVec.ofInt 64 (a : Int) &&& BitVec.ofInt 64 (b : Int)).toNat : Int) = _
  rw [h2, IntKind.wrap_i64]; omega
theorem bits_xor_nt {a b : Nat} (ha : a < 9223372036854775808) (hb : b < 9223372036854775808) : bits .xor .i64 (a : Int) (b : Int) = ((a ^^^ b : Nat) : Int) := by
  have h1 : a ^^^ b < 9223372036854775808 := Nat.xor_lt_two_pow (n := 63) ha hb
  have h2 : (BitVec.ofInt 64 (a : Int) ^^^ BitVec.ofInt 64 (b : Int)).toNat = a ^^^ b := by
    rw [BitVec.toNat_xor, BitVec.toNat_ofInt, BitVec.toNat_ofInt]
    congr 1 <;> omega
  show IntKind.i64.wrap ((BitVec.ofInt 64 (a : Int) ^^^ BitVec.ofInt 64 (b : Int)).toNat : Int) = _
  rw [h2, IntKind.wrap_i64]; omega
def andI (a : Nat) (m : Int) : Int := bits .and .i64 ((a : Nat) : Int) m
theorem andI_range {a : Nat} {m : Int} (ha : a < 1024) (h0 : 0 ≤ m) (h1 : m < 16777216) : 0 ≤ andI a m ∧ andI a m < 1024 := by
  obtain ⟨n, rfl⟩ : ∃ n : Nat, m = n := ⟨m.toNat, by omega⟩
  rw [andI, bits_and_nat (by omega) (by omega)]
  have : a &&& n ≤ a := Nat.and_le_left
  omega
theorem andI_comm {a : Nat} {m : Int} (ha : a < 1024) (h0 : 0 ≤ m) (h1 : m < 16777216) : bits .and .i64 m ((a : Nat) : Int) = andI a m := by
  obtain ⟨n, rfl⟩ : ∃ n : Nat, m = n := ⟨m.toNat, by omega⟩
  rw [andI, bits_and_nat (by omega) (by omega), bits_and_nat (by omega) (by omega), Nat.and_comm]
def parI (x : Int) : Int := (((setL x).length % 2 : Nat) : Int)
theorem parI_range (x : Int) : 0 ≤ parI x ∧ parI x ≤ 1 := by unfold parI; omega
def xorI (p t : Int) : Int := bits .xor .i64 p t
theorem xorI_range {p t : Int} (hp : 0 ≤ p ∧ p ≤ 1) (ht : 0 ≤ t ∧ t ≤ 1) : 0 ≤ xorI p t ∧ xorI p t ≤ 1 := by
  rcases (by omega : p = 0 ∨ p = 1) with rfl | rfl <;> rcases (by omega : t = 0 ∨ t = 1) with rfl | rfl <;> decide
theorem xor_shift {s : Nat} {p t : Int} (hs : s < 32) (hp : 0 ≤ p ∧ p ≤ 1) (ht : 0 ≤ t ∧ t ≤ 1) : bits .xor .i64 (2 * ((s : Nat) : Int) + p) t = 2 * ((s : Nat) : Int) + xorI p t := by
  have key : ∀ s, s < 32 → ∀ p, p < 2 → ∀ t, t < 2 → (2 * s + p) ^^^ t = 2 * s + (p ^^^ t) := by decide
  obtain ⟨p', rfl⟩ : ∃ n : Nat, p = n := ⟨p.toNat, by omega⟩
  obtain ⟨t', rfl⟩ : ∃ n : Nat, t = n := ⟨t.toNat, by omega⟩
  have h1 : 2 * ((s : Nat) : Int) + (p' : Int) = ((2 * s + p' : Nat) : Int) := by omega
  have h2 := key s hs p' (by omega) t' (by omega)
  rw [h1, bits_xor_nt (by omega) (by omega), h2, xorI, bits_xor_nt (by omega) (by omega)]; omega
def pwS (ts : List Int) (F : Int) (a : Nat) : Nat → Int
  | 0 => F
  | k + 1 => if andI a (ix ts (k * 2)) = ix ts (k * 2) then pwS ts F a k + ix ts (k * 2 + 1) else pwS ts F a k
def stS (os : List Int) (a : Nat) : Nat → Int
  | 0 => 0
  | k + 1 => 2 * stS os a k + xorI (parI (andI a (ix os (k * 2)))) (ix os (k * 2 + 1))
def coS (a : Nat) : Nat → Int
  | 0 => 0
  | q + 1 => 2 * coS a q + ((a : Nat) : Int) >>> q % 2
theorem coS_range (a : Nat) : ∀ q, 0 ≤ coS a q ∧ coS a q < ((2 ^ q : Nat) : Int)
  | 0 => by simp [coS]
  | q + 1 => by have := coS_range a q; rw [coS, Nat.pow_succ]; omega
structure PsF (I V R F : Int) (ts : List Int) (nt : Nat) (os : List Int) (no : Nat) : Prop where
  hI : 1 ≤ I ∧ I ≤ 5
  hV : 0 ≤ V
  hR : -60 ≤ R ∧ R ≤ 60
  hF : 0 ≤ F ∧ F ≤ 7
  ho : (no : Int) = I
  ht : ∀ i, i < nt → (1 ≤ ix ts (i * 2) ∧ ix ts (i * 2) < 16777216) ∧ 1 ≤ ix ts (i * 2 + 1) ∧ ix ts (i * 2 + 1) ≤ 7
  hq : ∀ i, i < no → (0 ≤ ix os (i * 2) ∧ ix os (i * 2) < 16777216) ∧ 0 ≤ ix os (i * 2 + 1) ∧ ix os (i * 2 + 1) ≤ 1
theorem psF_of {I V R F : Int} {ts : List Int} {nt : Nat} {os : List Int} {no : Nat} (h : psOk I V R F ts nt os no = true) : PsF I V R F ts nt os no := by
  simp only [psOk, Bool.and_eq_true, Bool.not_eq_true'] at h
  obtain ⟨⟨h1, h2⟩, h3⟩ := h
  obtain ⟨hI, hV, hR, hF, ho⟩ := psHead_iff h1
  have hp := pow_le24 (n := (I + V).toNat) (by omega)
  refine ⟨hI, hV.1, hR, hF, ho, fun i hi => ?_, fun i hi => ?_⟩
  · cases hb : termOk (2 ^ (I + V).toNat) ts i with
    | false => rw [anyI_true hi (by rw [hb]; rfl)] at h2; cases h2
    | true =>
      simp only [termOk, Bool.and_eq_true, within_iff] at hb
      obtain ⟨⟨⟨⟨hb1, hb2⟩, _⟩, _⟩, _⟩ := hb
      exact ⟨⟨hb1.1, by omega⟩, hb2⟩
  · cases hb : affOk (2 ^ (I + V).toNat) os i with
    | false => rw [anyI_true hi (by rw [hb]; rfl)] at h3; cases h3
    | true =>
      simp only [affOk, Bool.and_eq_true, within_iff] at hb
      exact ⟨⟨hb.1.1, by omega⟩, hb.2⟩
theorem pwS_range {I V R F : Int} {ts : List Int} {nt : Nat} {os : List Int} {no : Nat} (h : PsF I V R F ts nt os no) (a : Nat) : ∀ k, k ≤ nt → 0 ≤ pwS ts F a k ∧ pwS ts F a k ≤ 7 + 7 * k
  | 0, _ => by have := h.hF; simp only [pwS]; omega
  | k + 1, hk => by have h1 := pwS_range h a k (by omega); have h2 := h.ht k (by omega); rw [pwS]; split <;> omega
theorem stS_range {I V R F : Int} {ts : List Int} {nt : Nat} {os : List Int} {no : Nat} (h : PsF I V R F ts nt os no) (a : Nat) : ∀ k, k ≤ no → 0 ≤ stS os a k ∧ stS os a k < ((2 ^ k : Nat) : Int)
  | 0, _ => by simp [stS]
  | k + 1, hk => by
    have h1 := stS_range h a k (by omega)
    have h2 := xorI_range (parI_range (andI a (ix os (k * 2)))) (h.hq k (by omega)).2
    rw [stS, Nat.pow_succ]; omega
theorem pow_no {k : Nat} (h : k ≤ 5) : 2 ^ k ≤ 32 := Nat.pow_le_pow_right (n := 2) (by omega) h

set_option maxHeartbeats 1000000 in
set_option maxRecDepth 20000 in
theorem parityOf_spec {x : Int} {w : World} (h0 : 0 ≤ x) (h1 : x < 16777216) : Calls Try.prog 52 #[.int .i64 x] w (Post No w fun v _ => v = .int .i64 (parI x)) := by
  refine enter (n := 7) (args := [.int .i64 x]) Try.func52 rfl rfl (St.empty _ _) ?_
  refine Run.seq ?_
  refine Run.region ?_
  refine Run.q (v := .int .i64 0) rfl (OpQ.y (OpY.pure rfl)) ?_
  refine Run.done ?_
  refine Run.seq ?_
  refine Run.region ?_
  refine Run.q (v := .int .i64 x) rfl (OpQ.y (OpY.pure rfl)) ?_
  refine Run.q (v := .int .u64 x) rfl (OpQ.y (OpY.convIntEq Tsome_3 Tint_48 rfl (by rw [IntKind.wrap_u64]; omega))) ?_
  refine Run.q (v := .int .i64 ((((setL x).length : Nat) : Int))) rfl (OpQ.call (vs := [.int .u64 x]) (caps := []) Tcall_62 rfl rfl (fun w hs => (by have h := OnesCount_spec x w; rw [popE_set h0 h1] at h; exact h))) ?_
  refine Run.q (v := .int .i64 (((((setL x).length : Nat) : Int)) % 2)) rfl (OpQ.y (OpY.rem rfl rfl (by omega) (by omega))) ?_
  refine Run.q (v := .int .i64 (((((setL x).length : Nat) : Int)) % 2)) rfl (OpQ.y (OpY.pure rfl)) ?_
  refine Run.done ?_
  refine Run.ret ?_
  refine ⟨.int .i64 (((((setL x).length : Nat) : Int)) % 2), [], Out.one rfl rfl, (Some'.weak (.nil _)), ?_⟩
  show _ = _; rfl

set_option maxHeartbeats 1000000 in
set_option maxRecDepth 20000 in
theorem l13Parity_spec {x : Int} {w : World} (h0 : 0 ≤ x) (h1 : x < 16777216) : Calls Try.prog 41 #[.int .i64 x] w (Post No w fun v _ => v = .int .i64 (parI x)) := by
  refine enter (n := 7) (args := [.int .i64 x]) Try.func41 rfl rfl (St.empty _ _) ?_
  refine Run.seq ?_
  refine Run.region ?_
  refine Run.q (v := .int .i64 0) rfl (OpQ.y (OpY.pure rfl)) ?_
  refine Run.done ?_
  refine Run.seq ?_
  refine Run.region ?_
  refine Run.q (v := .int .i64 x) rfl (OpQ.y (OpY.pure rfl)) ?_
  refine Run.step rfl (OpStep.call (vs := [.int .i64 x]) (caps := []) Tcall_40 rfl rfl (fun w hs => l1Set_spec h0 h1) ?_)
  rintro us _ ⟨hs24, rfl⟩
  show Run _ _ (putF _ _ _ us) [.own us 3 1 ((setL x).length) (ints (setL x))]
  refine Run.formOwn (.head _) (fun A_us1 c_us1 hv hcapc_us1 hmaxc_us1 => ?_) (fun _ _ _ => ⟨nofun, nofun, nofun⟩)
  subst hv
  refine Run.q (v := .int .i64 ((((setL x).length : Nat) : Int))) rfl (OpQ.y (OpY.len Tsl_83 rfl)) ?_
  refine Run.q (v := .int .i64 (((((setL x).length : Nat) : Int)) % 2)) rfl (OpQ.y (OpY.rem rfl rfl (by omega) (by omega))) ?_
  refine Run.q (v := .int .i64 (((((setL x).length : Nat) : Int)) % 2)) rfl (OpQ.y (OpY.pure rfl)) ?_
  refine Run.done ?_
  refine Run.ret ?_
  refine ⟨.int .i64 (((((setL x).length : Nat) : Int)) % 2), [], Out.one rfl rfl, (Some'.weak (.nil _)), ?_⟩
  show _ = _; rfl


theorem OpY.xorEq {E : Env} {f : Fr} {H : List Res} {d : Option Tmp} {ty : TypeId} {pos : String} {after : Array Edge} {gd : Option (Nat × Bool)} {t t' : TypeId} {x y : Operand} {a b c : Int} (hx : f.eval x = .int .i64 a) (hy : f.eval y = .int .i64 b) (h : bits .xor .i64 a b = c) : OpY E ⟨d, .binOp .xor t x y t', ty, pos, after, gd⟩ f H (.int .i64 c) := by
  have := OpY.xor (E := E) (H := H) (d := d) (ty := ty) (pos := pos) (after := after) (gd := gd) (t := t) (t' := t') hx hy
  rwa [h] at this
theorem OpY.andEq {E : Env} {f : Fr} {H : List Res} {d : Option Tmp} {ty : TypeId} {pos : String} {after : Array Edge} {gd : Option (Nat × Bool)} {t t' : TypeId} {x y : Operand} {a b c : Int} (hx : f.eval x = .int .i64 a) (hy : f.eval y = .int .i64 b) (h : bits .and .i64 a b = c) : OpY E ⟨d, .binOp .and t x y t', ty, pos, after, gd⟩ f H (.int .i64 c) := by
  have := OpY.and (E := E) (H := H) (d := d) (ty := ty) (pos := pos) (after := after) (gd := gd) (t := t) (t' := t') hx hy
  rwa [h] at this

set_option maxHeartbeats 1000000 in
set_option maxRecDepth 20000 in
theorem outcome_spec {I V R F : Int} {vt vo : Value} {nt no : Nat} {ts os : List Int} {w : World} {a : Nat} (ha : a < 1024) (hnt9 : nt ≤ 1048576) (hf : PsF I V R F ts nt os no) (ht : Sl w vt 2 nt (ints ts)) (ho : Sl w vo 2 no (ints os)) : Calls Try.prog 27 #[.agg #[.int .i64 I, .int .i64 V, .int .i64 R, .int .i64 F, vt, vo], .int .i64 (a : Nat)] w (Post No w fun v _ => v = .tuple #[.int .i64 (stS os a no), .int .i64 (pwS ts F a nt % 8)]) := by
  have htl := ht.len
  have hol := ho.len
  have hno5 : no ≤ 5 := by have := hf.ho; have := hf.hI; omega
  obtain ⟨At, ct, rfl, _, _⟩ := ht.form0
  obtain ⟨Ao, co, rfl, _, _⟩ := ho.form0
  refine enter (n := 55) (args := [.agg #[.int .i64 I, .int .i64 V, .int .i64 R, .int .i64 F, .slice At nt ct, .slice Ao no co], .int .i64 (((a : Nat) : Int))]) Try.func27 rfl rfl (St.empty _ _) ?_
  refine Run.seq ?_
  refine Run.region ?_
  refine Run.step rfl (OpStep.box (us := [.int .i64 I, .int .i64 V, .int .i64 R, .int .i64 F, .slice At nt ct, .slice Ao no co]) rfl fun b1 => ?_)
  refine Run.q (v := .int .i64 0) rfl (OpQ.y (OpY.pure rfl)) ?_
  refine Run.q (v := .int .i64 0) rfl (OpQ.y (OpY.pure rfl)) ?_
  refine Run.done ?_
  refine Run.seq ?_
  refine Run.region ?_
  refine Run.q (v := .pointer (some ⟨b1, 3, none⟩)) rfl (OpQ.y (OpY.fieldAddr Tfo_35_3 rfl rfl)) ?_
  refine Run.q (v := .int .i64 F) rfl (OpQ.y (OpY.load1 Tone_3 rfl (Cells.blk (.head _) ⟨rfl, trivial⟩))) ?_
  refine Run.q (v := .int .i64 F) rfl (OpQ.y (OpY.pure rfl)) ?_
  refine Run.q (v := .int .i64 0) rfl (OpQ.y (OpY.pure rfl)) ?_
  refine Run.done ?_
  refine Run.seq ?_
  refine Run.seq ?_
  refine Run.region ?_
  refine Run.q (v := .pointer (some ⟨b1, 4, none⟩)) rfl (OpQ.y (OpY.fieldAddr Tfo_35_4 rfl rfl)) ?_
  refine Run.q (v := .slice At nt ct) rfl (OpQ.y (OpY.load1 Tone_32 rfl (Cells.blk (.head _) ⟨rfl, trivial⟩))) ?_
  refine Run.q (v := .int .i64 (((nt : Nat) : Int))) rfl (OpQ.y (OpY.len Tsl_32 rfl)) ?_
  refine Run.q (v := .int .i64 0) rfl (OpQ.y (OpY.pure rfl)) ?_
  refine Run.done ?_
  refine Run.block ?_
  refine Run.loop (ι := Nat) [6, 9, 17, 18, 19, 20, 21, 22, 23, 24, 25, 26, 27, 28, 29, 30, 31, 32] (fun k => [(6, .int .i64 (pwS ts F a k)), (17, .int .i64 (((k : Nat) : Int)))]) (fun k => [.blk b1 35 [.int .i64 I, .int .i64 V, .int .i64 R, .int .i64 F, .slice At nt ct, .slice Ao no co]]) (fun k => k ≤ nt ∧ (True)) (fun k => nt - k) 0 ?_ ?_ ?_ ?_
  · exact ⟨Nat.zero_le _, by first | trivial | (intro i hi; omega)⟩
  · exact ⟨rfl, rfl, trivial⟩
  · exact (Some'.weak (.take (.nil _)))
  · rintro k fr hinv
    show Run _ _ (over _ _ [(6, .int .i64 (pwS ts F a k)), (17, .int .i64 (((k : Nat) : Int)))] fr) [.blk b1 35 [.int .i64 I, .int .i64 V, .int .i64 R, .int .i64 F, .slice At nt ct, .slice Ao no co]]
    try dsimp only at hinv
    refine Run.seq ?_
    refine Run.region ?_
    refine Run.q (v := .bool (decide ((((k : Nat) : Int)) < (((nt : Nat) : Int))))) rfl (OpQ.y (OpY.pure rfl)) ?_
    refine Run.done ?_
    refine Run.seq ?_
    refine Run.cond (b := decide ((((k : Nat) : Int)) < (((nt : Nat) : Int)))) rfl (fun h18 => ?_) (fun h18 => ?_)
    · have p18 := h18; try simp only [bs] at p18
      have hltk : k < nt := by omega
      obtain ⟨bt, ot, rfl⟩ := ht.opn (by omega)
      have hp := pwS_range hf a k (by omega)
      have hk2 := hf.ht k hltk
      refine Run.skip ?_
      refine Run.seq ?_
      refine Run.block ?_
      refine Run.seq ?_
      refine Run.region ?_
      refine Run.q (v := .pointer (some ⟨bt, ot + k * 2, none⟩)) rfl (OpQ.y (OpY.index (kk := k) Tsl_32 rfl rfl (by omega) (by omega) (by first | rfl | omega))) ?_
      refine Run.q (v := .agg #[.int .i64 (ix ts (k * 2)), .int .i64 (ix ts (k * 2 + 1))]) rfl (OpQ.y (OpY.loadN (cs := [.int .i64 (ix ts (k * 2)), .int .i64 (ix ts (k * 2 + 1))]) Tagg_51 rfl (Cells.arg (k := k * 2) ht rfl (by omega) (pre2 (by omega))))) ?_
      refine Run.step rfl (OpStep.alloc (zs := [.int .i64 0, .int .i64 0]) Tzero_51 fun b2 => ?_)
      refine Run.step rfl (OpStep.storeAll (us := [.int .i64 (ix ts (k * 2)), .int .i64 (ix ts (k * 2 + 1))]) Tsize_51 rfl rfl rfl (.here _) rfl ?_)
      refine Run.done ?_
      refine Run.seq ?_
      refine Run.region ?_
      refine Run.q (v := .int .i64 (((a : Nat) : Int))) rfl (OpQ.y (OpY.pure rfl)) ?_
      refine Run.q (v := .pointer (some ⟨b2, 0, none⟩)) rfl (OpQ.y (OpY.fieldAddr Tfo_51_0 rfl rfl)) ?_
      refine Run.q (v := .int .i64 (ix ts (k * 2))) rfl (OpQ.y (OpY.load1 Tone_3 rfl (Cells.blk (.head _) ⟨rfl, trivial⟩))) ?_
      refine Run.q (v := .int .i64 (andI a (ix ts (k * 2)))) rfl (OpQ.y (OpY.and rfl rfl)) ?_
      refine Run.q (v := .pointer (some ⟨b2, 0, none⟩)) rfl (OpQ.y (OpY.fieldAddr Tfo_51_0 rfl rfl)) ?_
      refine Run.q (v := .int .i64 (ix ts (k * 2))) rfl (OpQ.y (OpY.load1 Tone_3 rfl (Cells.blk (.head _) ⟨rfl, trivial⟩))) ?_
      refine Run.q (v := .bool ((andI a (ix ts (k * 2))) == (ix ts (k * 2)))) rfl (OpQ.y (OpY.pure rfl)) ?_
      refine Run.done ?_
      refine Run.cond (b := (andI a (ix ts (k * 2))) == (ix ts (k * 2))) rfl (fun h27 => ?_) (fun h27 => ?_)
      · have p27 := h27; try simp only [bs] at p27
        refine Run.region ?_
        refine Run.q (v := .int .i64 (pwS ts F a k)) rfl (OpQ.y (OpY.pure rfl)) ?_
        refine Run.q (v := .pointer (some ⟨b2, 1, none⟩)) rfl (OpQ.y (OpY.fieldAddr Tfo_51_1 rfl rfl)) ?_
        refine Run.q (v := .int .i64 (ix ts (k * 2 + 1))) rfl (OpQ.y (OpY.load1 Tone_3 rfl (Cells.blk (.head _) ⟨rfl, trivial⟩))) ?_
        refine Run.q (v := .int .i64 ((pwS ts F a k) + (ix ts (k * 2 + 1)))) rfl (OpQ.y (OpY.add rfl rfl rfl (by omega) (by omega))) ?_
        refine Run.q (v := .int .i64 ((pwS ts F a k) + (ix ts (k * 2 + 1)))) rfl (OpQ.y (OpY.pure rfl)) ?_
        refine Run.done ?_
        refine Run.blockEnd ?_
        refine Run.region ?_
        refine Run.q (v := .int .i64 ((((k : Nat) : Int)) + 1)) rfl (OpQ.y (OpY.add rfl rfl rfl (by omega) (by omega))) ?_
        refine Run.q (v := .int .i64 ((((k : Nat) : Int)) + 1)) rfl (OpQ.y (OpY.pure rfl)) ?_
        refine Run.done ?_
        refine Run.goal ⟨(by repeat (first | exact Same.refl _ _ | refine Same.put rfl ?_ | refine Same.over rfl rfl ?_)), k + 1, ?_, ?_, ?_, ?_⟩
        · refine ⟨by omega, ?_⟩
          trivial
        · omega
        · exact ⟨(by show Value.int _ _ = Value.int _ _; first | rw [pwS, if_pos p27] | rw [pwS, if_neg p27]), (by first | rfl | (congr 1; omega) | simp), trivial⟩
        · exact (Some'.weak (.skip (.takeEq (by first | rfl | simp) (.nil _))))
      · have p27 := h27; try simp only [bs] at p27
        refine Run.skip ?_
        refine Run.blockEnd ?_
        refine Run.region ?_
        refine Run.q (v := .int .i64 ((((k : Nat) : Int)) + 1)) rfl (OpQ.y (OpY.add rfl rfl rfl (by omega) (by omega))) ?_
        refine Run.q (v := .int .i64 ((((k : Nat) : Int)) + 1)) rfl (OpQ.y (OpY.pure rfl)) ?_
        refine Run.done ?_
        refine Run.goal ⟨(by repeat (first | exact Same.refl _ _ | refine Same.put rfl ?_ | refine Same.over rfl rfl ?_)), k + 1, ?_, ?_, ?_, ?_⟩
        · refine ⟨by omega, ?_⟩
          trivial
        · omega
        · exact ⟨(by show Value.int _ _ = Value.int _ _; first | rw [pwS, if_pos p27] | rw [pwS, if_neg p27]), (by first | rfl | (congr 1; omega) | simp), trivial⟩
        · exact (Some'.weak (.skip (.takeEq (by first | rfl | simp) (.nil _))))
    · have p18 := h18; try simp only [bs] at p18
      have hknk : k = nt := by omega
      have hp := pwS_range hf a nt (Nat.le_refl _)
      have hpk : pwS ts F a k = pwS ts F a nt := by rw [hknk]
      refine Run.exit rfl ?_
      refine Run.seq ?_
      refine Run.seq ?_
      refine Run.region ?_
      refine Run.q (v := .pointer (some ⟨b1, 5, none⟩)) rfl (OpQ.y (OpY.fieldAddr Tfo_35_5 rfl rfl)) ?_
      refine Run.q (v := .slice Ao no co) rfl (OpQ.y (OpY.load1 Tone_33 rfl (Cells.blk (.head _) ⟨rfl, trivial⟩))) ?_
      refine Run.q (v := .int .i64 (((no : Nat) : Int))) rfl (OpQ.y (OpY.len Tsl_33 rfl)) ?_
      refine Run.q (v := .int .i64 0) rfl (OpQ.y (OpY.pure rfl)) ?_
      refine Run.done ?_
      refine Run.block ?_
      refine Run.loop (ι := Nat) [7, 11, 36, 37, 38, 39, 40, 41, 42, 43, 44, 45, 46, 47, 48, 49, 50, 51] (fun j => [(7, .int .i64 (stS os a j)), (36, .int .i64 (((j : Nat) : Int)))]) (fun j => [.blk b1 35 [.int .i64 I, .int .i64 V, .int .i64 R, .int .i64 F, .slice At nt ct, .slice Ao no co]]) (fun j => j ≤ no ∧ (True)) (fun j => no - j) 0 ?_ ?_ ?_ ?_
      · exact ⟨Nat.zero_le _, by first | trivial | (intro i hi; omega)⟩
      · exact ⟨rfl, rfl, trivial⟩
      · exact (Some'.weak (.take (.nil _)))
      · rintro j fr hinv
        show Run _ _ (over _ _ [(7, .int .i64 (stS os a j)), (36, .int .i64 (((j : Nat) : Int)))] fr) [.blk b1 35 [.int .i64 I, .int .i64 V, .int .i64 R, .int .i64 F, .slice At nt ct, .slice Ao no co]]
        try dsimp only at hinv
        refine Run.seq ?_
        refine Run.region ?_
        refine Run.q (v := .bool (decide ((((j : Nat) : Int)) < (((no : Nat) : Int))))) rfl (OpQ.y (OpY.pure rfl)) ?_
        refine Run.done ?_
        refine Run.seq ?_
        refine Run.cond (b := decide ((((j : Nat) : Int)) < (((no : Nat) : Int)))) rfl (fun h37 => ?_) (fun h37 => ?_)
        · have p37 := h37; try simp only [bs] at p37
          have hltj : j < no := by omega
          obtain ⟨bo, oo, rfl⟩ := ho.opn (by omega)
          have hsr := stS_range hf a j (by omega)
          have hpn := pow_no (k := j) (by omega)
          have hq := hf.hq j hltj
          have har := andI_range ha hq.1.1 hq.1.2
          have hpr := parI_range (andI a (ix os (j * 2)))
          obtain ⟨sn, hsn⟩ : ∃ sn : Nat, stS os a j = ((sn : Nat) : Int) := ⟨(stS os a j).toNat, by omega⟩
          have hs32 : sn < 32 := by omega
          refine Run.skip ?_
          refine Run.seq ?_
          refine Run.block ?_
          refine Run.seq ?_
          refine Run.region ?_
          refine Run.q (v := .pointer (some ⟨bo, oo + j * 2, none⟩)) rfl (OpQ.y (OpY.index (kk := j) Tsl_33 rfl rfl (by omega) (by omega) (by first | rfl | omega))) ?_
          refine Run.q (v := .agg #[.int .i64 (ix os (j * 2)), .int .i64 (ix os (j * 2 + 1))]) rfl (OpQ.y (OpY.loadN (cs := [.int .i64 (ix os (j * 2)), .int .i64 (ix os (j * 2 + 1))]) Tagg_54 rfl (Cells.arg (k := j * 2) ho rfl (by omega) (pre2 (by omega))))) ?_
          refine Run.step rfl (OpStep.alloc (zs := [.int .i64 0, .int .i64 0]) Tzero_54 fun b3 => ?_)
          refine Run.step rfl (OpStep.storeAll (us := [.int .i64 (ix os (j * 2)), .int .i64 (ix os (j * 2 + 1))]) Tsize_54 rfl rfl rfl (.here _) rfl ?_)
          refine Run.done ?_
          refine Run.draws (by kernel_rfl) (by kernel_rfl) ?_
          refine Lex.q (v := .int .i64 (stS os a j)) rfl (OpQ.y (OpY.pure rfl)) ?_
          refine Lex.q (v := .int .i64 (2 * ((sn : Nat) : Int))) rfl (OpQ.y (OpY.mul rfl rfl (by rw [hsn]) (by omega) (by omega))) ?_
          refine Lex.q (v := .int .i64 (((a : Nat) : Int))) rfl (OpQ.y (OpY.pure rfl)) ?_
          refine Lex.q (v := .pointer (some ⟨b3, 0, none⟩)) rfl (OpQ.y (OpY.fieldAddr Tfo_54_0 rfl rfl)) ?_
          refine Lex.q (v := .int .i64 (ix os (j * 2))) rfl (OpQ.y (OpY.load1 Tone_3 rfl (Cells.blk (.head _) ⟨rfl, trivial⟩))) ?_
          refine Lex.q (v := .int .i64 (andI a (ix os (j * 2)))) rfl (OpQ.y (OpY.and rfl rfl)) ?_
          refine Lex.q (v := .int .i64 (parI (andI a (ix os (j * 2))))) rfl (OpQ.call (vs := [.int .i64 (andI a (ix os (j * 2)))]) (caps := []) Tcall_52 rfl rfl (fun w hs => parityOf_spec har.1 (by omega))) ?_
          refine Lex.q (v := .int .i64 ((2 * ((sn : Nat) : Int)) + (parI (andI a (ix os (j * 2)))))) rfl (OpQ.y (OpY.add rfl rfl rfl (by omega) (by omega))) ?_
          refine Lex.q (v := .pointer (some ⟨b3, 1, none⟩)) rfl (OpQ.y (OpY.fieldAddr Tfo_54_1 rfl rfl)) ?_
          refine Lex.q (v := .int .i64 (ix os (j * 2 + 1))) rfl (OpQ.y (OpY.load1 Tone_3 rfl (Cells.blk (.head _) ⟨rfl, trivial⟩))) ?_
          refine Lex.q (v := .int .i64 (2 * ((sn : Nat) : Int) + xorI (parI (andI a (ix os (j * 2)))) (ix os (j * 2 + 1)))) rfl (OpQ.y (OpY.xorEq rfl rfl (xor_shift hs32 (parI_range _) hq.2))) ?_
          refine Lex.q (v := .int .i64 (2 * ((sn : Nat) : Int) + xorI (parI (andI a (ix os (j * 2)))) (ix os (j * 2 + 1)))) rfl (OpQ.y (OpY.pure rfl)) ?_
          refine Lex.done ?_
          refine Run.blockEnd ?_
          refine Run.region ?_
          refine Run.q (v := .int .i64 ((((j : Nat) : Int)) + 1)) rfl (OpQ.y (OpY.add rfl rfl rfl (by omega) (by omega))) ?_
          refine Run.q (v := .int .i64 ((((j : Nat) : Int)) + 1)) rfl (OpQ.y (OpY.pure rfl)) ?_
          refine Run.done ?_
          refine Run.goal ⟨(by repeat (first | exact Same.refl _ _ | refine Same.put rfl ?_ | refine Same.over rfl rfl ?_)), j + 1, ?_, ?_, ?_, ?_⟩
          · refine ⟨by omega, ?_⟩
            trivial
          · omega
          · exact ⟨(by show Value.int _ _ = Value.int _ _; rw [stS, hsn]), (by first | rfl | (congr 1; omega) | simp), trivial⟩
          · exact (Some'.weak (.skip (.takeEq (by first | rfl | simp) (.nil _))))
        · have p37 := h37; try simp only [bs] at p37
          have hknj : j = no := by omega
          refine Run.exit rfl ?_
          refine Run.seq ?_
          refine Run.region ?_
          refine Run.q (v := .int .i64 (stS os a j)) rfl (OpQ.y (OpY.pure rfl)) ?_
          refine Run.q (v := .int .i64 (pwS ts F a k)) rfl (OpQ.y (OpY.pure rfl)) ?_
          refine Run.q (v := .int .i64 (pwS ts F a k % 8)) rfl (OpQ.y (OpY.rem rfl rfl (by omega) (by omega))) ?_
          refine Run.q (v := .int .i64 (stS os a j)) rfl (OpQ.y (OpY.pure rfl)) ?_
          refine Run.q (v := .int .i64 (pwS ts F a k % 8)) rfl (OpQ.y (OpY.pure rfl)) ?_
          refine Run.done ?_
          refine Run.ret ?_
          refine ⟨.tuple #[.int .i64 (stS os a j), .int .i64 (pwS ts F a k % 8)], [], Out.two rfl rfl rfl, (Some'.weak (.nil _)), ?_⟩
          show _ = _; rw [hknj, hpk]

set_option maxHeartbeats 1000000 in
set_option maxRecDepth 20000 in
theorem l21Value_spec {m t : Int} {a : Nat} {w : World} (ha : a < 1024) (h0 : 0 ≤ m ∧ m < 16777216) : Calls Try.prog 16 #[.agg #[.int .i64 m, .int .i64 t], .int .i64 (a : Nat)] w (Post No w fun v _ => v = .int .i64 (xorI (parI (andI a m)) t)) := by
  have har := andI_range ha h0.1 h0.2
  refine enter (n := 13) (args := [.agg #[.int .i64 m, .int .i64 t], .int .i64 (((a : Nat) : Int))]) Try.func16 rfl rfl (St.empty _ _) ?_
  refine Run.seq ?_
  refine Run.region ?_
  refine Run.step rfl (OpStep.box (us := [.int .i64 m, .int .i64 t]) rfl fun b1 => ?_)
  refine Run.q (v := .int .i64 0) rfl (OpQ.y (OpY.pure rfl)) ?_
  refine Run.done ?_
  refine Run.seq ?_
  refine Run.draws (by kernel_rfl) (by kernel_rfl) ?_
  refine Lex.q (v := .pointer (some ⟨b1, 0, none⟩)) rfl (OpQ.y (OpY.fieldAddr Tfo_54_0 rfl rfl)) ?_
  refine Lex.q (v := .int .i64 m) rfl (OpQ.y (OpY.load1 Tone_3 rfl (Cells.blk (.head _) ⟨rfl, trivial⟩))) ?_
  refine Lex.q (v := .int .i64 (((a : Nat) : Int))) rfl (OpQ.y (OpY.pure rfl)) ?_
  refine Lex.q (v := .int .i64 (andI a m)) rfl (OpQ.y (OpY.andEq rfl rfl (andI_comm ha h0.1 h0.2))) ?_
  refine Lex.q (v := .int .i64 (parI (andI a m))) rfl (OpQ.call (vs := [.int .i64 (andI a m)]) (caps := []) Tcall_41 rfl rfl (fun w hs => l13Parity_spec har.1 (by omega))) ?_
  refine Lex.q (v := .pointer (some ⟨b1, 1, none⟩)) rfl (OpQ.y (OpY.fieldAddr Tfo_54_1 rfl rfl)) ?_
  refine Lex.q (v := .int .i64 t) rfl (OpQ.y (OpY.load1 Tone_3 rfl (Cells.blk (.head _) ⟨rfl, trivial⟩))) ?_
  refine Lex.q (v := .int .i64 (xorI (parI (andI a m)) t)) rfl (OpQ.y (OpY.xor rfl rfl)) ?_
  refine Lex.q (v := .int .i64 (xorI (parI (andI a m)) t)) rfl (OpQ.y (OpY.pure rfl)) ?_
  refine Lex.done ?_
  refine Run.ret ?_
  refine ⟨.int .i64 (xorI (parI (andI a m)) t), [], Out.one rfl rfl, (Some'.weak (.nil _)), ?_⟩
  rfl


/-- A number multiplied by the root of 2 so many times, checked each time. -/
def upS (x : R4) : Nat → R4
  | 0 => x
  | k + 1 => ckR (rtR (upS x k))
def upB (x : R4) : Nat → Bool
  | 0 => true
  | k + 1 => upB x k && gdR (rtR (upS x k))
theorem upS_good {x : R4} (h : gdR x = true) : ∀ k, gdR (upS x k) = true
  | 0 => h
  | k + 1 => ckR_good _
theorem upB_stop {x : R4} {j : Nat} (h : upB x j = false) : ∀ d, upB x (j + d) = false
  | 0 => h
  | d + 1 => by rw [← Nat.add_assoc, upB, upB_stop h d]; rfl
theorem upS_zero : ∀ k, upS R4.zero k = R4.zero ∧ upB R4.zero k = true
  | 0 => ⟨rfl, rfl⟩
  | k + 1 => by obtain ⟨h1, h2⟩ := upS_zero k; rw [upS, upB, h1, h2]; decide
theorem dnR_zero : ∀ e, dnR R4.zero e = (R4.zero, 0)
  | 0 => rfl
  | e + 1 => by rw [dnR, if_pos (by decide), show hfR R4.zero = R4.zero by decide, dnR_zero e]
def scB (x : R4) (E : Int) : Bool := upB x (-E).toNat
def scV (x : R4) (E : Int) : R4 × Nat := dnR (upS x (-E).toNat) E.toNat
def scl (x : R4) (E : Int) : List Int := [(scV x E).1.a, (scV x E).1.b, (scV x E).1.c, (scV x E).1.d, (((scV x E).2 : Nat) : Int)]
theorem scl_zero (E : Int) : scB R4.zero E = true ∧ scV R4.zero E = (R4.zero, 0) := by
  rw [scB, scV, (upS_zero _).1, (upS_zero _).2, dnR_zero]; exact ⟨rfl, rfl⟩
theorem rif_up {x : R4} (h : gdR x = true) : rifB x (rtR x) = gdR (rtR x) ∧ rifV x (rtR x) = ckR (rtR x) := by
  have h1 := mul_good h
  exact ⟨h1, by rw [rifV, h1, ckR]⟩

set_option maxHeartbeats 2000000 in
set_option maxRecDepth 20000 in
theorem scaled_spec {x : R4} {X : Int} {w : World} (hX : -60 ≤ X ∧ X ≤ 60) (hg : gdR x = true) : Calls Try.prog 30 #[.agg #[.int .i64 (x.a), .int .i64 (x.b), .int .i64 (x.c), .int .i64 (x.d)], .int .i64 X] w (Post No w fun v H => ∃ (y : R4) (e : Int), (scB x X = true → y = (scV x X).1 ∧ e = (((scV x X).2 : Nat) : Int)) ∧ v = .tuple #[.agg #[.int .i64 (y.a), .int .i64 (y.b), .int .i64 (y.c), .int .i64 (y.d), .int .i64 e], .bool (scB x X)] ∧ H = []) := by
  refine enter (n := 46) (args := [.agg #[.int .i64 (x.a), .int .i64 (x.b), .int .i64 (x.c), .int .i64 (x.d)], .int .i64 X]) Try.func30 rfl rfl (St.empty _ _) ?_
  refine Run.seq ?_
  refine Run.region ?_
  refine Run.step rfl (OpStep.box (us := [.int .i64 (x.a), .int .i64 (x.b), .int .i64 (x.c), .int .i64 (x.d)]) rfl fun b1 => ?_)
  refine Run.step rfl (OpStep.alloc (zs := [.int .i64 0, .int .i64 0, .int .i64 0, .int .i64 0, .int .i64 0]) Tzero_61 fun b2 => ?_)
  refine Run.q (v := .bool false) rfl (OpQ.y (OpY.pure rfl)) ?_
  refine Run.done ?_
  refine Run.seq ?_
  refine Run.seq ?_
  refine Run.region ?_
  refine Run.q (v := .agg #[.int .i64 (x.a), .int .i64 (x.b), .int .i64 (x.c), .int .i64 (x.d)]) rfl (OpQ.y (OpY.loadN (cs := [.int .i64 (x.a), .int .i64 (x.b), .int .i64 (x.c), .int .i64 (x.d)]) Tagg_56 rfl (Cells.blk (.tail _ (List.Mem.head _)) ⟨rfl, rfl, rfl, rfl, trivial⟩))) ?_
  refine Run.q (v := .agg #[.int .i64 0, .int .i64 0, .int .i64 0, .int .i64 0]) rfl (OpQ.y (OpY.build (cs := [.int .i64 0, .int .i64 0, .int .i64 0, .int .i64 0]) (by kernel_rfl))) ?_
  refine Run.q (v := .bool (decide ([x.a, x.b, x.c, x.d] = [0, 0, 0, 0]))) rfl (OpQ.y (OpY.eqStruct (xs := [x.a, x.b, x.c, x.d]) (ys := [0, 0, 0, 0]) Tns_56_4 rfl rfl rfl rfl)) ?_
  refine Run.done ?_
  refine Run.cond (b := decide ([x.a, x.b, x.c, x.d] = [0, 0, 0, 0])) rfl (fun h10 => ?_) (fun h10 => ?_)
  · have p10 := h10; try simp only [bs] at p10
    have hx0 : x = R4.zero := by
      cases x; simp only [List.cons.injEq, and_true] at p10; obtain ⟨rfl, rfl, rfl, rfl⟩ := p10; rfl
    obtain ⟨hz1, hz2⟩ := scl_zero X
    rw [← hx0] at hz1 hz2
    refine Run.seq ?_
    refine Run.region ?_
    refine Run.q (v := .agg #[.int .i64 0, .int .i64 0, .int .i64 0, .int .i64 0, .int .i64 0]) rfl (OpQ.y (OpY.build (cs := [.int .i64 0, .int .i64 0, .int .i64 0, .int .i64 0, .int .i64 0]) (by kernel_rfl))) ?_
    refine Run.step rfl (OpStep.storeAll (us := [.int .i64 0, .int .i64 0, .int .i64 0, .int .i64 0, .int .i64 0]) Tsize_61 rfl rfl rfl (.here _) rfl ?_)
    refine Run.q (v := .bool true) rfl (OpQ.y (OpY.pure rfl)) ?_
    refine Run.done ?_
    refine Run.ret ?_
    refine ⟨.tuple #[.agg #[.int .i64 0, .int .i64 0, .int .i64 0, .int .i64 0, .int .i64 0], .bool true], [], Out.cell2 (cs := [.int .i64 0, .int .i64 0, .int .i64 0, .int .i64 0, .int .i64 0]) rfl Tagg_61 rfl (Cells.blk (.head _) ⟨rfl, rfl, rfl, rfl, rfl, trivial⟩) rfl, (Some'.weak (.nil _)), ?_⟩
    exact ⟨R4.zero, 0, fun _ => by rw [hz2]; exact ⟨hx0.symm, rfl⟩, by rw [hz1]; rfl, rfl⟩
  · have p10 := h10; try simp only [bs] at p10
    refine Run.skip ?_
    refine Run.seq ?_
    refine Run.region ?_
    refine Run.q (v := .bool true) rfl (OpQ.y (OpY.pure rfl)) ?_
    refine Run.done ?_
    refine Run.seq ?_
    refine Run.block ?_
    refine Run.loop (ι := Nat) [1, 6, 12, 13, 14, 15, 16, 17, 18, 19, 20, 21, 22, 23] (fun j => [(1, .int .i64 (X + ((j : Nat) : Int))), (6, .bool (upB x j))]) (fun j => [.blk b2 61 [.int .i64 0, .int .i64 0, .int .i64 0, .int .i64 0, .int .i64 0], .blk b1 56 [.int .i64 ((upS x j).a), .int .i64 ((upS x j).b), .int .i64 ((upS x j).c), .int .i64 ((upS x j).d)]]) (fun j => j ≤ (-X).toNat) (fun j => (-X).toNat - j) 0 ?_ ?_ ?_ ?_
    · exact Nat.zero_le _
    · exact ⟨(by show Value.int _ _ = Value.int _ _; congr 1 <;> omega), rfl, trivial⟩
    · exact (Some'.weak (.take (.takeEq (by rfl) (.nil _))))
    · rintro j fr hinv
      show Run _ _ (over _ _ [(1, .int .i64 (X + ((j : Nat) : Int))), (6, .bool (upB x j))] fr) [.blk b2 61 [.int .i64 0, .int .i64 0, .int .i64 0, .int .i64 0, .int .i64 0], .blk b1 56 [.int .i64 ((upS x j).a), .int .i64 ((upS x j).b), .int .i64 ((upS x j).c), .int .i64 ((upS x j).d)]]
      try dsimp only at hinv
      refine Run.seq ?_
      refine Run.seq ?_
      refine Run.region ?_
      refine Run.q (v := .int .i64 (X + ((j : Nat) : Int))) rfl (OpQ.y (OpY.pure rfl)) ?_
      refine Run.q (v := .bool (decide ((X + ((j : Nat) : Int)) < 0))) rfl (OpQ.y (OpY.pure rfl)) ?_
      rcases Bool.eq_false_or_eq_true (decide ((X + ((j : Nat) : Int)) < 0)) with h14 | h14
      · refine Run.q (v := .bool true) rfl (OpQ.y (OpY.moveB rfl h14)) ?_
        have p14 := h14; try simp only [bs] at p14
        have hXj : X + (j : Int) < 0 := by omega
        have hgj := upS_good hg j
        refine Run.q (v := .bool (upB x j)) rfl (OpQ.y (OpY.pure rfl)) ?_
        refine Run.q (v := .bool (upB x j)) rfl (OpQ.y (OpY.pure rfl)) ?_
        refine Run.done ?_
        refine Run.cond (b := upB x j) rfl (fun h16 => ?_) (fun h16 => ?_)
        · have p16 := h16; try simp only [bs] at p16
          have hub : upB x (j + 1) = gdR (rtR (upS x j)) := by rw [upB, h16, Bool.true_and]
          refine Run.skip ?_
          refine Run.seq ?_
          refine Run.block ?_
          refine Run.region ?_
          refine Run.q (v := .agg #[.int .i64 ((upS x j).a), .int .i64 ((upS x j).b), .int .i64 ((upS x j).c), .int .i64 ((upS x j).d)]) rfl (OpQ.y (OpY.loadN (cs := [.int .i64 ((upS x j).a), .int .i64 ((upS x j).b), .int .i64 ((upS x j).c), .int .i64 ((upS x j).d)]) Tagg_56 rfl (Cells.blk (.tail _ (List.Mem.head _)) ⟨rfl, rfl, rfl, rfl, trivial⟩))) ?_
          refine Run.q (v := .tuple #[.agg #[.int .i64 ((ckR (rtR (upS x j))).a), .int .i64 ((ckR (rtR (upS x j))).b), .int .i64 ((ckR (rtR (upS x j))).c), .int .i64 ((ckR (rtR (upS x j))).d)], .bool (gdR (rtR (upS x j)))]) rfl (OpQ.call (vs := [.agg #[.int .i64 ((upS x j).a), .int .i64 ((upS x j).b), .int .i64 ((upS x j).c), .int .i64 ((upS x j).d)]]) (caps := []) Tcall_54 rfl rfl (fun w hs => (by have h := MulRootTwo_spec (x := upS x j) (w := w) (gd_lim hgj); rw [(rif_up hgj).1, (rif_up hgj).2] at h; exact h))) ?_
          refine Run.q (v := .tuple #[.agg #[.int .i64 ((ckR (rtR (upS x j))).a), .int .i64 ((ckR (rtR (upS x j))).b), .int .i64 ((ckR (rtR (upS x j))).c), .int .i64 ((ckR (rtR (upS x j))).d)], .bool (gdR (rtR (upS x j)))]) rfl (OpQ.y (OpY.pure rfl)) ?_
          refine Run.q (v := .agg #[.int .i64 ((ckR (rtR (upS x j))).a), .int .i64 ((ckR (rtR (upS x j))).b), .int .i64 ((ckR (rtR (upS x j))).c), .int .i64 ((ckR (rtR (upS x j))).d)]) rfl (OpQ.y (OpY.pure rfl)) ?_
          refine Run.q (v := .bool (gdR (rtR (upS x j)))) rfl (OpQ.y (OpY.pure rfl)) ?_
          refine Run.step rfl (OpStep.storeAll (us := [.int .i64 ((ckR (rtR (upS x j))).a), .int .i64 ((ckR (rtR (upS x j))).b), .int .i64 ((ckR (rtR (upS x j))).c), .int .i64 ((ckR (rtR (upS x j))).d)]) Tsize_56 rfl rfl rfl (.there _ (.here _)) rfl ?_)
          refine Run.q (v := .bool (gdR (rtR (upS x j)))) rfl (OpQ.y (OpY.pure rfl)) ?_
          refine Run.done ?_
          refine Run.blockEnd ?_
          refine Run.region ?_
          refine Run.q (v := .int .i64 (X + ((j : Nat) : Int))) rfl (OpQ.y (OpY.pure rfl)) ?_
          refine Run.q (v := .int .i64 ((X + ((j : Nat) : Int)) + 1)) rfl (OpQ.y (OpY.add rfl rfl rfl (by omega) (by omega))) ?_
          refine Run.q (v := .int .i64 ((X + ((j : Nat) : Int)) + 1)) rfl (OpQ.y (OpY.pure rfl)) ?_
          refine Run.done ?_
          refine Run.goal ⟨(by repeat (first | exact Same.refl _ _ | refine Same.put rfl ?_ | refine Same.over rfl rfl ?_)), j + 1, ?_, ?_, ?_, ?_⟩
          · omega
          · omega
          · exact ⟨(by show Value.int _ _ = Value.int _ _; congr 1 <;> omega), (by show Value.bool _ = Value.bool _; rw [hub]), trivial⟩
          · exact (Some'.weak (.takeEq (by rfl) (.takeEq (by rfl) (.nil _))))
        · have p16 := h16; try simp only [bs] at p16
          have hfin : upB x j = scB x X := by rw [scB, show (-X).toNat = j + ((-X).toNat - j) by omega, upB_stop h16, h16]
          have hinvA := hinv
          refine Run.exit rfl ?_
          refine Run.seq ?_
          refine Run.block ?_
          refine Run.loop (ι := R4 × Int) [1, 24, 25, 26, 27, 28, 29, 30, 31, 32, 33, 34, 35, 36] (fun ⟨y, e⟩ => [(1, .int .i64 e)]) (fun ⟨y, e⟩ => [.blk b2 61 [.int .i64 0, .int .i64 0, .int .i64 0, .int .i64 0, .int .i64 0], .blk b1 56 [.int .i64 (y.a), .int .i64 (y.b), .int .i64 (y.c), .int .i64 (y.d)]]) (fun ⟨y, e⟩ => gdR y = true ∧ e ≤ X + (j : Int) ∧ (0 ≤ X + (j : Int) → 0 ≤ e) ∧ dnR y e.toNat = dnR (upS x j) (X + (j : Int)).toNat) (fun ⟨y, e⟩ => e.toNat) (upS x j, X + ((j : Nat) : Int)) ?_ ?_ ?_ ?_
          · exact ⟨upS_good hg j, Int.le_refl _, fun h => h, rfl⟩
          · exact ⟨rfl, trivial⟩
          · exact (Some'.weak (.take (.takeEq (by rfl) (.nil _))))
          · rintro ⟨y, e⟩ fr hinv
            show Run _ _ (over _ _ [(1, .int .i64 e)] fr) [.blk b2 61 [.int .i64 0, .int .i64 0, .int .i64 0, .int .i64 0, .int .i64 0], .blk b1 56 [.int .i64 (y.a), .int .i64 (y.b), .int .i64 (y.c), .int .i64 (y.d)]]
            try dsimp only at hinv
            refine Run.seq ?_
            refine Run.seq ?_
            refine Run.region ?_
            refine Run.q (v := .int .i64 e) rfl (OpQ.y (OpY.pure rfl)) ?_
            refine Run.q (v := .bool (decide (e > 0))) rfl (OpQ.y (OpY.pure rfl)) ?_
            rcases Bool.eq_false_or_eq_true (decide (e > 0)) with h26 | h26
            · refine Run.q (v := .bool true) rfl (OpQ.y (OpY.moveB rfl h26)) ?_
              have p26 := h26; try simp only [bs] at p26
              have he0 : 0 < e := by omega
              refine Run.q (v := .agg #[.int .i64 (y.a), .int .i64 (y.b), .int .i64 (y.c), .int .i64 (y.d)]) rfl (OpQ.y (OpY.loadN (cs := [.int .i64 (y.a), .int .i64 (y.b), .int .i64 (y.c), .int .i64 (y.d)]) Tagg_56 rfl (Cells.blk (.tail _ (List.Mem.head _)) ⟨rfl, rfl, rfl, rfl, trivial⟩))) ?_
              refine Run.q (v := .bool (evR y)) rfl (OpQ.call (vs := [.agg #[.int .i64 (y.a), .int .i64 (y.b), .int .i64 (y.c), .int .i64 (y.d)]]) (caps := []) Tcall_55 rfl rfl (fun w hs => isEven_spec (x := y) (gd_lim hinv.1))) ?_
              refine Run.q (v := .bool (evR y)) rfl (OpQ.y (OpY.pure rfl)) ?_
              refine Run.done ?_
              refine Run.cond (b := evR y) rfl (fun h29 => ?_) (fun h29 => ?_)
              · have p29 := h29; try simp only [bs] at p29
                have hdn : dnR (hfR y) (e - 1).toNat = dnR (upS x j) (X + (j : Int)).toNat := by
                  rw [← hinv.2.2.2]
                  obtain ⟨q, hq⟩ : ∃ q : Nat, e.toNat = q + 1 := ⟨e.toNat - 1, by omega⟩
                  rw [hq, dnR_step h29, show (e - 1).toNat = q by omega]
                refine Run.skip ?_
                refine Run.block ?_
                refine Run.seq ?_
                refine Run.region ?_
                refine Run.q (v := .agg #[.int .i64 (y.a), .int .i64 (y.b), .int .i64 (y.c), .int .i64 (y.d)]) rfl (OpQ.y (OpY.loadN (cs := [.int .i64 (y.a), .int .i64 (y.b), .int .i64 (y.c), .int .i64 (y.d)]) Tagg_56 rfl (Cells.blk (.tail _ (List.Mem.head _)) ⟨rfl, rfl, rfl, rfl, trivial⟩))) ?_
                refine Run.q (v := .tuple #[.agg #[.int .i64 ((hfR y).a), .int .i64 ((hfR y).b), .int .i64 ((hfR y).c), .int .i64 ((hfR y).d)], .bool true]) rfl (OpQ.call (vs := [.agg #[.int .i64 (y.a), .int .i64 (y.b), .int .i64 (y.c), .int .i64 (y.d)]]) (caps := []) Tcall_56 rfl rfl (fun w hs => DivRootTwo_spec (x := y) hinv.1 h29)) ?_
                refine Run.q (v := .tuple #[.agg #[.int .i64 ((hfR y).a), .int .i64 ((hfR y).b), .int .i64 ((hfR y).c), .int .i64 ((hfR y).d)], .bool true]) rfl (OpQ.y (OpY.pure rfl)) ?_
                refine Run.q (v := .agg #[.int .i64 ((hfR y).a), .int .i64 ((hfR y).b), .int .i64 ((hfR y).c), .int .i64 ((hfR y).d)]) rfl (OpQ.y (OpY.pure rfl)) ?_
                refine Run.q (v := .bool true) rfl (OpQ.y (OpY.pure rfl)) ?_
                refine Run.step rfl (OpStep.storeAll (us := [.int .i64 ((hfR y).a), .int .i64 ((hfR y).b), .int .i64 ((hfR y).c), .int .i64 ((hfR y).d)]) Tsize_56 rfl rfl rfl (.there _ (.here _)) rfl ?_)
                refine Run.done ?_
                refine Run.region ?_
                refine Run.q (v := .int .i64 e) rfl (OpQ.y (OpY.pure rfl)) ?_
                refine Run.q (v := .int .i64 (e - 1)) rfl (OpQ.y (OpY.sub rfl rfl rfl (by omega) (by omega))) ?_
                refine Run.q (v := .int .i64 (e - 1)) rfl (OpQ.y (OpY.pure rfl)) ?_
                refine Run.done ?_
                refine Run.blockEnd ?_
                refine Run.goal ⟨(by repeat (first | exact Same.refl _ _ | refine Same.put rfl ?_ | refine Same.over rfl rfl ?_)), (hfR y, e - 1), ?_, ?_, ?_, ?_⟩
                · exact ⟨hfR_good hinv.1, by omega, fun _ => by omega, hdn⟩
                · show (e - 1).toNat < e.toNat; omega
                · exact ⟨(by first | rfl | (congr 1; omega) | simp), trivial⟩
                · exact (Some'.weak (.takeEq (by rfl) (.takeEq (by rfl) (.nil _))))
              · have p29 := h29; try simp only [bs] at p29
                have hst : e ≤ 0 ∨ evR y = false := .inr h29
                refine Run.exit rfl ?_
                refine Run.seq ?_
                have hdone : dnR (upS x j) (X + (j : Int)).toNat = (y, e.toNat) := by
                  rw [← hinv.2.2.2]
                  rcases hst with h | h
                  · rw [show e.toNat = 0 by omega]; rfl
                  · exact dnR_stop h
                have hval : upB x j = true → ((gdR y && within e 0 60) && ((e == 0) || !evR y)) = true := fun hu => by
                  have hX0 : 0 ≤ X + (j : Int) := by
                    refine Decidable.byContradiction fun hneg => ?_
                    first | omega | (rw [hu] at h16; cases h16)
                  have hw : within e 0 60 = true := within_iff.2 ⟨by omega, by omega⟩
                  rw [hinv.1, hw, Bool.true_and]
                  rcases hst with h | h
                  · rw [show e = 0 by omega]; rfl
                  · rw [h]; simp
                have hres : scB x X = true → y = (scV x X).1 ∧ e = (((scV x X).2 : Nat) : Int) := fun hu => by
                  have hX0 : 0 ≤ X + (j : Int) := by
                    refine Decidable.byContradiction fun hneg => ?_
                    first | omega | (rw [hfin, hu] at h16; cases h16)
                  have ej : (-X).toNat = j ∧ X.toNat = (X + (j : Int)).toNat := by omega
                  rw [scV, ej.1, ej.2, hdone]; exact ⟨rfl, by show e = ((e.toNat : Nat) : Int); omega⟩
                refine Run.region ?_
                refine Run.q (v := .agg #[.int .i64 (y.a), .int .i64 (y.b), .int .i64 (y.c), .int .i64 (y.d)]) rfl (OpQ.y (OpY.loadN (cs := [.int .i64 (y.a), .int .i64 (y.b), .int .i64 (y.c), .int .i64 (y.d)]) Tagg_56 rfl (Cells.blk (.tail _ (List.Mem.head _)) ⟨rfl, rfl, rfl, rfl, trivial⟩))) ?_
                refine Run.q (v := .int .i64 e) rfl (OpQ.y (OpY.pure rfl)) ?_
                refine Run.q (v := .agg #[.int .i64 (y.a), .int .i64 (y.b), .int .i64 (y.c), .int .i64 (y.d), .int .i64 e]) rfl (OpQ.y (OpY.build (cs := [.int .i64 (y.a), .int .i64 (y.b), .int .i64 (y.c), .int .i64 (y.d), .int .i64 e]) (by kernel_rfl))) ?_
                refine Run.step rfl (OpStep.alloc (zs := [.int .i64 0, .int .i64 0, .int .i64 0, .int .i64 0, .int .i64 0]) Tzero_61 fun b3 => ?_)
                refine Run.step rfl (OpStep.storeAll (us := [.int .i64 (y.a), .int .i64 (y.b), .int .i64 (y.c), .int .i64 (y.d), .int .i64 e]) Tsize_61 rfl rfl rfl (.here _) rfl ?_)
                refine Run.done ?_
                refine Run.seq ?_
                refine Run.heldB (base := [.blk b3 61 [.int .i64 (y.a), .int .i64 (y.b), .int .i64 (y.c), .int .i64 (y.d), .int .i64 e], .blk b1 56 [.int .i64 (y.a), .int .i64 (y.b), .int .i64 (y.c), .int .i64 (y.d)]]) (by kernel_rfl) ?_
                refine DW.take (i := 0) (v := .agg #[.int .i64 (y.a), .int .i64 (y.b), .int .i64 (y.c), .int .i64 (y.d), .int .i64 e]) rfl (by kernel_rfl) (by kernel_rfl) (by kernel_rfl) (fun _ _ _ h => h) (Some'.weak (.take (.skip (.take (.nil _))))) rfl (OpY.loadN (cs := [.int .i64 (y.a), .int .i64 (y.b), .int .i64 (y.c), .int .i64 (y.d), .int .i64 e]) Tagg_61 rfl (Cells.blk (.head _) ⟨rfl, rfl, rfl, rfl, rfl, trivial⟩)) ?_
                refine DW.take (i := 1) (v := .bool (upB x j)) rfl (by kernel_rfl) (by kernel_rfl) (by kernel_rfl) (fun _ _ _ h => h) (Some'.weak (.take (.skip (.take (.nil _))))) rfl (OpY.pure rfl) ?_
                rcases Bool.eq_false_or_eq_true (upB x j) with h42 | h42
                · refine DW.take (i := 2) (v := .bool true) rfl (by kernel_rfl) (by kernel_rfl) (by kernel_rfl) (fun _ _ _ h => h) (Some'.weak (.take (.skip (.take (.nil _))))) rfl (OpY.moveB rfl h42) ?_
                  have p42 := h42; try simp only [bs] at p42
                  refine DW.take (i := 3) (v := .agg #[.int .i64 (y.a), .int .i64 (y.b), .int .i64 (y.c), .int .i64 (y.d), .int .i64 e]) rfl (by kernel_rfl) (by kernel_rfl) (by kernel_rfl) (fun _ _ _ h => h) (Some'.weak (.take (.skip (.take (.nil _))))) rfl (OpY.loadN (cs := [.int .i64 (y.a), .int .i64 (y.b), .int .i64 (y.c), .int .i64 (y.d), .int .i64 e]) Tagg_61 rfl (Cells.blk (.head _) ⟨rfl, rfl, rfl, rfl, rfl, trivial⟩)) ?_
                  refine DW.step (i := 4) (by kernel_rfl) rfl rfl (OpStep.q (v := .bool true) (OpQ.call (vs := [.agg #[.int .i64 (y.a), .int .i64 (y.b), .int .i64 (y.c), .int .i64 (y.d), .int .i64 e]]) (caps := []) Tcall_57 rfl rfl (fun w hs => (by have h := IsValidDyadic_spec (x := y) (e := e) (w := w) (gd_lim hinv.1); rw [hval (by assumption)] at h; exact h))) ?_)
                  refine ⟨(Some'.weak (.take (.skip (.take (.nil _))))), ?_⟩
                  refine DW.take (i := 5) (v := .bool true) rfl (by kernel_rfl) (by kernel_rfl) (by kernel_rfl) (fun _ _ _ h => h) (Some'.weak (.take (.skip (.take (.nil _))))) rfl (OpY.pure rfl) ?_
                  refine DW.step (i := 6) (by kernel_rfl) rfl rfl (OpStep.storeAll (us := [.int .i64 (y.a), .int .i64 (y.b), .int .i64 (y.c), .int .i64 (y.d), .int .i64 e]) Tsize_61 rfl rfl rfl (.there _ (.here _)) rfl ?_)
                  refine ⟨(Some'.weak (.take (.skip (.take (.nil _))))), ?_⟩
                  refine DW.take (i := 7) (v := .bool true) rfl (by kernel_rfl) (by kernel_rfl) (by kernel_rfl) (fun _ _ _ h => h) (Some'.weak (.take (.skip (.take (.nil _))))) rfl (OpY.pure rfl) ?_
                  refine DW.done (by kernel_rfl) ?_
                  refine Run.ret ?_
                  refine ⟨.tuple #[.agg #[.int .i64 (y.a), .int .i64 (y.b), .int .i64 (y.c), .int .i64 (y.d), .int .i64 e], .bool true], [], Out.cell2 (cs := [.int .i64 (y.a), .int .i64 (y.b), .int .i64 (y.c), .int .i64 (y.d), .int .i64 e]) rfl Tagg_61 rfl (Cells.blk (.tail _ (List.Mem.head _)) ⟨rfl, rfl, rfl, rfl, rfl, trivial⟩) rfl, (Some'.weak (.nil _)), ?_⟩
                  exact ⟨y, e, hres, by rw [← hfin]; simp_all, rfl⟩
                · refine DW.take (i := 2) (v := .bool false) rfl (by kernel_rfl) (by kernel_rfl) (by kernel_rfl) (fun _ _ _ h => h) (Some'.weak (.take (.skip (.take (.nil _))))) rfl (OpY.moveB rfl h42) ?_
                  have p42 := h42; try simp only [bs] at p42
                  refine DW.pass (i := 3) rfl (by kernel_rfl) (by kernel_rfl) (by kernel_rfl) (fun _ _ _ h => h) (Some'.weak (.take (.skip (.take (.nil _))))) rfl ?_
                  refine DW.pass (i := 4) rfl (by kernel_rfl) (by kernel_rfl) (by kernel_rfl) (fun _ _ _ h => h) (Some'.weak (.take (.skip (.take (.nil _))))) rfl ?_
                  refine DW.take (i := 5) (v := .bool false) rfl (by kernel_rfl) (by kernel_rfl) (by kernel_rfl) (fun _ _ _ h => h) (Some'.weak (.take (.skip (.take (.nil _))))) rfl (OpY.pure rfl) ?_
                  refine DW.step (i := 6) (by kernel_rfl) rfl rfl (OpStep.storeAll (us := [.int .i64 (y.a), .int .i64 (y.b), .int .i64 (y.c), .int .i64 (y.d), .int .i64 e]) Tsize_61 rfl rfl rfl (.there _ (.here _)) rfl ?_)
                  refine ⟨(Some'.weak (.take (.skip (.take (.nil _))))), ?_⟩
                  refine DW.take (i := 7) (v := .bool false) rfl (by kernel_rfl) (by kernel_rfl) (by kernel_rfl) (fun _ _ _ h => h) (Some'.weak (.take (.skip (.take (.nil _))))) rfl (OpY.pure rfl) ?_
                  refine DW.done (by kernel_rfl) ?_
                  refine Run.ret ?_
                  refine ⟨.tuple #[.agg #[.int .i64 (y.a), .int .i64 (y.b), .int .i64 (y.c), .int .i64 (y.d), .int .i64 e], .bool false], [], Out.cell2 (cs := [.int .i64 (y.a), .int .i64 (y.b), .int .i64 (y.c), .int .i64 (y.d), .int .i64 e]) rfl Tagg_61 rfl (Cells.blk (.tail _ (List.Mem.head _)) ⟨rfl, rfl, rfl, rfl, rfl, trivial⟩) rfl, (Some'.weak (.nil _)), ?_⟩
                  exact ⟨y, e, hres, by rw [← hfin]; simp_all, rfl⟩
            · refine Run.q (v := .bool false) rfl (OpQ.y (OpY.moveB rfl h26)) ?_
              have p26 := h26; try simp only [bs] at p26
              have hst : e ≤ 0 ∨ evR y = false := .inl (by omega)
              refine Run.pass rfl ?_
              refine Run.pass rfl ?_
              refine Run.q (v := .bool false) rfl (OpQ.y (OpY.pure rfl)) ?_
              refine Run.done ?_
              refine Run.cond (b := false) rfl (fun h => nomatch h) (fun _ => ?_)
              refine Run.exit rfl ?_
              refine Run.seq ?_
              have hdone : dnR (upS x j) (X + (j : Int)).toNat = (y, e.toNat) := by
                rw [← hinv.2.2.2]
                rcases hst with h | h
                · rw [show e.toNat = 0 by omega]; rfl
                · exact dnR_stop h
              have hval : upB x j = true → ((gdR y && within e 0 60) && ((e == 0) || !evR y)) = true := fun hu => by
                have hX0 : 0 ≤ X + (j : Int) := by
                  refine Decidable.byContradiction fun hneg => ?_
                  first | omega | (rw [hu] at h16; cases h16)
                have hw : within e 0 60 = true := within_iff.2 ⟨by omega, by omega⟩
                rw [hinv.1, hw, Bool.true_and]
                rcases hst with h | h
                · rw [show e = 0 by omega]; rfl
                · rw [h]; simp
              have hres : scB x X = true → y = (scV x X).1 ∧ e = (((scV x X).2 : Nat) : Int) := fun hu => by
                have hX0 : 0 ≤ X + (j : Int) := by
                  refine Decidable.byContradiction fun hneg => ?_
                  first | omega | (rw [hfin, hu] at h16; cases h16)
                have ej : (-X).toNat = j ∧ X.toNat = (X + (j : Int)).toNat := by omega
                rw [scV, ej.1, ej.2, hdone]; exact ⟨rfl, by show e = ((e.toNat : Nat) : Int); omega⟩
              refine Run.region ?_
              refine Run.q (v := .agg #[.int .i64 (y.a), .int .i64 (y.b), .int .i64 (y.c), .int .i64 (y.d)]) rfl (OpQ.y (OpY.loadN (cs := [.int .i64 (y.a), .int .i64 (y.b), .int .i64 (y.c), .int .i64 (y.d)]) Tagg_56 rfl (Cells.blk (.tail _ (List.Mem.head _)) ⟨rfl, rfl, rfl, rfl, trivial⟩))) ?_
              refine Run.q (v := .int .i64 e) rfl (OpQ.y (OpY.pure rfl)) ?_
              refine Run.q (v := .agg #[.int .i64 (y.a), .int .i64 (y.b), .int .i64 (y.c), .int .i64 (y.d), .int .i64 e]) rfl (OpQ.y (OpY.build (cs := [.int .i64 (y.a), .int .i64 (y.b), .int .i64 (y.c), .int .i64 (y.d), .int .i64 e]) (by kernel_rfl))) ?_
              refine Run.step rfl (OpStep.alloc (zs := [.int .i64 0, .int .i64 0, .int .i64 0, .int .i64 0, .int .i64 0]) Tzero_61 fun b4 => ?_)
              refine Run.step rfl (OpStep.storeAll (us := [.int .i64 (y.a), .int .i64 (y.b), .int .i64 (y.c), .int .i64 (y.d), .int .i64 e]) Tsize_61 rfl rfl rfl (.here _) rfl ?_)
              refine Run.done ?_
              refine Run.seq ?_
              refine Run.heldB (base := [.blk b4 61 [.int .i64 (y.a), .int .i64 (y.b), .int .i64 (y.c), .int .i64 (y.d), .int .i64 e], .blk b1 56 [.int .i64 (y.a), .int .i64 (y.b), .int .i64 (y.c), .int .i64 (y.d)]]) (by kernel_rfl) ?_
              refine DW.take (i := 0) (v := .agg #[.int .i64 (y.a), .int .i64 (y.b), .int .i64 (y.c), .int .i64 (y.d), .int .i64 e]) rfl (by kernel_rfl) (by kernel_rfl) (by kernel_rfl) (fun _ _ _ h => h) (Some'.weak (.take (.skip (.take (.nil _))))) rfl (OpY.loadN (cs := [.int .i64 (y.a), .int .i64 (y.b), .int .i64 (y.c), .int .i64 (y.d), .int .i64 e]) Tagg_61 rfl (Cells.blk (.head _) ⟨rfl, rfl, rfl, rfl, rfl, trivial⟩)) ?_
              refine DW.take (i := 1) (v := .bool (upB x j)) rfl (by kernel_rfl) (by kernel_rfl) (by kernel_rfl) (fun _ _ _ h => h) (Some'.weak (.take (.skip (.take (.nil _))))) rfl (OpY.pure rfl) ?_
              rcases Bool.eq_false_or_eq_true (upB x j) with h42 | h42
              · refine DW.take (i := 2) (v := .bool true) rfl (by kernel_rfl) (by kernel_rfl) (by kernel_rfl) (fun _ _ _ h => h) (Some'.weak (.take (.skip (.take (.nil _))))) rfl (OpY.moveB rfl h42) ?_
                have p42 := h42; try simp only [bs] at p42
                refine DW.take (i := 3) (v := .agg #[.int .i64 (y.a), .int .i64 (y.b), .int .i64 (y.c), .int .i64 (y.d), .int .i64 e]) rfl (by kernel_rfl) (by kernel_rfl) (by kernel_rfl) (fun _ _ _ h => h) (Some'.weak (.take (.skip (.take (.nil _))))) rfl (OpY.loadN (cs := [.int .i64 (y.a), .int .i64 (y.b), .int .i64 (y.c), .int .i64 (y.d), .int .i64 e]) Tagg_61 rfl (Cells.blk (.head _) ⟨rfl, rfl, rfl, rfl, rfl, trivial⟩)) ?_
                refine DW.step (i := 4) (by kernel_rfl) rfl rfl (OpStep.q (v := .bool true) (OpQ.call (vs := [.agg #[.int .i64 (y.a), .int .i64 (y.b), .int .i64 (y.c), .int .i64 (y.d), .int .i64 e]]) (caps := []) Tcall_57 rfl rfl (fun w hs => (by have h := IsValidDyadic_spec (x := y) (e := e) (w := w) (gd_lim hinv.1); rw [hval (by assumption)] at h; exact h))) ?_)
                refine ⟨(Some'.weak (.take (.skip (.take (.nil _))))), ?_⟩
                refine DW.take (i := 5) (v := .bool true) rfl (by kernel_rfl) (by kernel_rfl) (by kernel_rfl) (fun _ _ _ h => h) (Some'.weak (.take (.skip (.take (.nil _))))) rfl (OpY.pure rfl) ?_
                refine DW.step (i := 6) (by kernel_rfl) rfl rfl (OpStep.storeAll (us := [.int .i64 (y.a), .int .i64 (y.b), .int .i64 (y.c), .int .i64 (y.d), .int .i64 e]) Tsize_61 rfl rfl rfl (.there _ (.here _)) rfl ?_)
                refine ⟨(Some'.weak (.take (.skip (.take (.nil _))))), ?_⟩
                refine DW.take (i := 7) (v := .bool true) rfl (by kernel_rfl) (by kernel_rfl) (by kernel_rfl) (fun _ _ _ h => h) (Some'.weak (.take (.skip (.take (.nil _))))) rfl (OpY.pure rfl) ?_
                refine DW.done (by kernel_rfl) ?_
                refine Run.ret ?_
                refine ⟨.tuple #[.agg #[.int .i64 (y.a), .int .i64 (y.b), .int .i64 (y.c), .int .i64 (y.d), .int .i64 e], .bool true], [], Out.cell2 (cs := [.int .i64 (y.a), .int .i64 (y.b), .int .i64 (y.c), .int .i64 (y.d), .int .i64 e]) rfl Tagg_61 rfl (Cells.blk (.tail _ (List.Mem.head _)) ⟨rfl, rfl, rfl, rfl, rfl, trivial⟩) rfl, (Some'.weak (.nil _)), ?_⟩
                exact ⟨y, e, hres, by rw [← hfin]; simp_all, rfl⟩
              · refine DW.take (i := 2) (v := .bool false) rfl (by kernel_rfl) (by kernel_rfl) (by kernel_rfl) (fun _ _ _ h => h) (Some'.weak (.take (.skip (.take (.nil _))))) rfl (OpY.moveB rfl h42) ?_
                have p42 := h42; try simp only [bs] at p42
                refine DW.pass (i := 3) rfl (by kernel_rfl) (by kernel_rfl) (by kernel_rfl) (fun _ _ _ h => h) (Some'.weak (.take (.skip (.take (.nil _))))) rfl ?_
                refine DW.pass (i := 4) rfl (by kernel_rfl) (by kernel_rfl) (by kernel_rfl) (fun _ _ _ h => h) (Some'.weak (.take (.skip (.take (.nil _))))) rfl ?_
                refine DW.take (i := 5) (v := .bool false) rfl (by kernel_rfl) (by kernel_rfl) (by kernel_rfl) (fun _ _ _ h => h) (Some'.weak (.take (.skip (.take (.nil _))))) rfl (OpY.pure rfl) ?_
                refine DW.step (i := 6) (by kernel_rfl) rfl rfl (OpStep.storeAll (us := [.int .i64 (y.a), .int .i64 (y.b), .int .i64 (y.c), .int .i64 (y.d), .int .i64 e]) Tsize_61 rfl rfl rfl (.there _ (.here _)) rfl ?_)
                refine ⟨(Some'.weak (.take (.skip (.take (.nil _))))), ?_⟩
                refine DW.take (i := 7) (v := .bool false) rfl (by kernel_rfl) (by kernel_rfl) (by kernel_rfl) (fun _ _ _ h => h) (Some'.weak (.take (.skip (.take (.nil _))))) rfl (OpY.pure rfl) ?_
                refine DW.done (by kernel_rfl) ?_
                refine Run.ret ?_
                refine ⟨.tuple #[.agg #[.int .i64 (y.a), .int .i64 (y.b), .int .i64 (y.c), .int .i64 (y.d), .int .i64 e], .bool false], [], Out.cell2 (cs := [.int .i64 (y.a), .int .i64 (y.b), .int .i64 (y.c), .int .i64 (y.d), .int .i64 e]) rfl Tagg_61 rfl (Cells.blk (.tail _ (List.Mem.head _)) ⟨rfl, rfl, rfl, rfl, rfl, trivial⟩) rfl, (Some'.weak (.nil _)), ?_⟩
                exact ⟨y, e, hres, by rw [← hfin]; simp_all, rfl⟩
      · refine Run.q (v := .bool false) rfl (OpQ.y (OpY.moveB rfl h14)) ?_
        have p14 := h14; try simp only [bs] at p14
        have hfin : upB x j = scB x X := by rw [scB, show (-X).toNat = j by omega]
        have hinvA := hinv
        refine Run.pass rfl ?_
        refine Run.q (v := .bool false) rfl (OpQ.y (OpY.pure rfl)) ?_
        refine Run.done ?_
        refine Run.cond (b := false) rfl (fun h => nomatch h) (fun _ => ?_)
        refine Run.exit rfl ?_
        refine Run.seq ?_
        refine Run.block ?_
        refine Run.loop (ι := R4 × Int) [1, 24, 25, 26, 27, 28, 29, 30, 31, 32, 33, 34, 35, 36] (fun ⟨y, e⟩ => [(1, .int .i64 e)]) (fun ⟨y, e⟩ => [.blk b2 61 [.int .i64 0, .int .i64 0, .int .i64 0, .int .i64 0, .int .i64 0], .blk b1 56 [.int .i64 (y.a), .int .i64 (y.b), .int .i64 (y.c), .int .i64 (y.d)]]) (fun ⟨y, e⟩ => gdR y = true ∧ e ≤ X + (j : Int) ∧ (0 ≤ X + (j : Int) → 0 ≤ e) ∧ dnR y e.toNat = dnR (upS x j) (X + (j : Int)).toNat) (fun ⟨y, e⟩ => e.toNat) (upS x j, X + ((j : Nat) : Int)) ?_ ?_ ?_ ?_
        · exact ⟨upS_good hg j, Int.le_refl _, fun h => h, rfl⟩
        · exact ⟨rfl, trivial⟩
        · exact (Some'.weak (.take (.takeEq (by rfl) (.nil _))))
        · rintro ⟨y, e⟩ fr hinv
          show Run _ _ (over _ _ [(1, .int .i64 e)] fr) [.blk b2 61 [.int .i64 0, .int .i64 0, .int .i64 0, .int .i64 0, .int .i64 0], .blk b1 56 [.int .i64 (y.a), .int .i64 (y.b), .int .i64 (y.c), .int .i64 (y.d)]]
          try dsimp only at hinv
          refine Run.seq ?_
          refine Run.seq ?_
          refine Run.region ?_
          refine Run.q (v := .int .i64 e) rfl (OpQ.y (OpY.pure rfl)) ?_
          refine Run.q (v := .bool (decide (e > 0))) rfl (OpQ.y (OpY.pure rfl)) ?_
          rcases Bool.eq_false_or_eq_true (decide (e > 0)) with h26 | h26
          · refine Run.q (v := .bool true) rfl (OpQ.y (OpY.moveB rfl h26)) ?_
            have p26 := h26; try simp only [bs] at p26
            have he0 : 0 < e := by omega
            refine Run.q (v := .agg #[.int .i64 (y.a), .int .i64 (y.b), .int .i64 (y.c), .int .i64 (y.d)]) rfl (OpQ.y (OpY.loadN (cs := [.int .i64 (y.a), .int .i64 (y.b), .int .i64 (y.c), .int .i64 (y.d)]) Tagg_56 rfl (Cells.blk (.tail _ (List.Mem.head _)) ⟨rfl, rfl, rfl, rfl, trivial⟩))) ?_
            refine Run.q (v := .bool (evR y)) rfl (OpQ.call (vs := [.agg #[.int .i64 (y.a), .int .i64 (y.b), .int .i64 (y.c), .int .i64 (y.d)]]) (caps := []) Tcall_55 rfl rfl (fun w hs => isEven_spec (x := y) (gd_lim hinv.1))) ?_
            refine Run.q (v := .bool (evR y)) rfl (OpQ.y (OpY.pure rfl)) ?_
            refine Run.done ?_
            refine Run.cond (b := evR y) rfl (fun h29 => ?_) (fun h29 => ?_)
            · have p29 := h29; try simp only [bs] at p29
              have hdn : dnR (hfR y) (e - 1).toNat = dnR (upS x j) (X + (j : Int)).toNat := by
                rw [← hinv.2.2.2]
                obtain ⟨q, hq⟩ : ∃ q : Nat, e.toNat = q + 1 := ⟨e.toNat - 1, by omega⟩
                rw [hq, dnR_step h29, show (e - 1).toNat = q by omega]
              refine Run.skip ?_
              refine Run.block ?_
              refine Run.seq ?_
              refine Run.region ?_
              refine Run.q (v := .agg #[.int .i64 (y.a), .int .i64 (y.b), .int .i64 (y.c), .int .i64 (y.d)]) rfl (OpQ.y (OpY.loadN (cs := [.int .i64 (y.a), .int .i64 (y.b), .int .i64 (y.c), .int .i64 (y.d)]) Tagg_56 rfl (Cells.blk (.tail _ (List.Mem.head _)) ⟨rfl, rfl, rfl, rfl, trivial⟩))) ?_
              refine Run.q (v := .tuple #[.agg #[.int .i64 ((hfR y).a), .int .i64 ((hfR y).b), .int .i64 ((hfR y).c), .int .i64 ((hfR y).d)], .bool true]) rfl (OpQ.call (vs := [.agg #[.int .i64 (y.a), .int .i64 (y.b), .int .i64 (y.c), .int .i64 (y.d)]]) (caps := []) Tcall_56 rfl rfl (fun w hs => DivRootTwo_spec (x := y) hinv.1 h29)) ?_
              refine Run.q (v := .tuple #[.agg #[.int .i64 ((hfR y).a), .int .i64 ((hfR y).b), .int .i64 ((hfR y).c), .int .i64 ((hfR y).d)], .bool true]) rfl (OpQ.y (OpY.pure rfl)) ?_
              refine Run.q (v := .agg #[.int .i64 ((hfR y).a), .int .i64 ((hfR y).b), .int .i64 ((hfR y).c), .int .i64 ((hfR y).d)]) rfl (OpQ.y (OpY.pure rfl)) ?_
              refine Run.q (v := .bool true) rfl (OpQ.y (OpY.pure rfl)) ?_
              refine Run.step rfl (OpStep.storeAll (us := [.int .i64 ((hfR y).a), .int .i64 ((hfR y).b), .int .i64 ((hfR y).c), .int .i64 ((hfR y).d)]) Tsize_56 rfl rfl rfl (.there _ (.here _)) rfl ?_)
              refine Run.done ?_
              refine Run.region ?_
              refine Run.q (v := .int .i64 e) rfl (OpQ.y (OpY.pure rfl)) ?_
              refine Run.q (v := .int .i64 (e - 1)) rfl (OpQ.y (OpY.sub rfl rfl rfl (by omega) (by omega))) ?_
              refine Run.q (v := .int .i64 (e - 1)) rfl (OpQ.y (OpY.pure rfl)) ?_
              refine Run.done ?_
              refine Run.blockEnd ?_
              refine Run.goal ⟨(by repeat (first | exact Same.refl _ _ | refine Same.put rfl ?_ | refine Same.over rfl rfl ?_)), (hfR y, e - 1), ?_, ?_, ?_, ?_⟩
              · exact ⟨hfR_good hinv.1, by omega, fun _ => by omega, hdn⟩
              · show (e - 1).toNat < e.toNat; omega
              · exact ⟨(by first | rfl | (congr 1; omega) | simp), trivial⟩
              · exact (Some'.weak (.takeEq (by rfl) (.takeEq (by rfl) (.nil _))))
            · have p29 := h29; try simp only [bs] at p29
              have hst : e ≤ 0 ∨ evR y = false := .inr h29
              refine Run.exit rfl ?_
              refine Run.seq ?_
              have hdone : dnR (upS x j) (X + (j : Int)).toNat = (y, e.toNat) := by
                rw [← hinv.2.2.2]
                rcases hst with h | h
                · rw [show e.toNat = 0 by omega]; rfl
                · exact dnR_stop h
              have hval : upB x j = true → ((gdR y && within e 0 60) && ((e == 0) || !evR y)) = true := fun hu => by
                have hX0 : 0 ≤ X + (j : Int) := by
                  refine Decidable.byContradiction fun hneg => ?_
                  first | omega | (rw [hu] at h16; cases h16)
                have hw : within e 0 60 = true := within_iff.2 ⟨by omega, by omega⟩
                rw [hinv.1, hw, Bool.true_and]
                rcases hst with h | h
                · rw [show e = 0 by omega]; rfl
                · rw [h]; simp
              have hres : scB x X = true → y = (scV x X).1 ∧ e = (((scV x X).2 : Nat) : Int) := fun hu => by
                have hX0 : 0 ≤ X + (j : Int) := by
                  refine Decidable.byContradiction fun hneg => ?_
                  first | omega | (rw [hfin, hu] at h16; cases h16)
                have ej : (-X).toNat = j ∧ X.toNat = (X + (j : Int)).toNat := by omega
                rw [scV, ej.1, ej.2, hdone]; exact ⟨rfl, by show e = ((e.toNat : Nat) : Int); omega⟩
              refine Run.region ?_
              refine Run.q (v := .agg #[.int .i64 (y.a), .int .i64 (y.b), .int .i64 (y.c), .int .i64 (y.d)]) rfl (OpQ.y (OpY.loadN (cs := [.int .i64 (y.a), .int .i64 (y.b), .int .i64 (y.c), .int .i64 (y.d)]) Tagg_56 rfl (Cells.blk (.tail _ (List.Mem.head _)) ⟨rfl, rfl, rfl, rfl, trivial⟩))) ?_
              refine Run.q (v := .int .i64 e) rfl (OpQ.y (OpY.pure rfl)) ?_
              refine Run.q (v := .agg #[.int .i64 (y.a), .int .i64 (y.b), .int .i64 (y.c), .int .i64 (y.d), .int .i64 e]) rfl (OpQ.y (OpY.build (cs := [.int .i64 (y.a), .int .i64 (y.b), .int .i64 (y.c), .int .i64 (y.d), .int .i64 e]) (by kernel_rfl))) ?_
              refine Run.step rfl (OpStep.alloc (zs := [.int .i64 0, .int .i64 0, .int .i64 0, .int .i64 0, .int .i64 0]) Tzero_61 fun b5 => ?_)
              refine Run.step rfl (OpStep.storeAll (us := [.int .i64 (y.a), .int .i64 (y.b), .int .i64 (y.c), .int .i64 (y.d), .int .i64 e]) Tsize_61 rfl rfl rfl (.here _) rfl ?_)
              refine Run.done ?_
              refine Run.seq ?_
              refine Run.heldB (base := [.blk b5 61 [.int .i64 (y.a), .int .i64 (y.b), .int .i64 (y.c), .int .i64 (y.d), .int .i64 e], .blk b1 56 [.int .i64 (y.a), .int .i64 (y.b), .int .i64 (y.c), .int .i64 (y.d)]]) (by kernel_rfl) ?_
              refine DW.take (i := 0) (v := .agg #[.int .i64 (y.a), .int .i64 (y.b), .int .i64 (y.c), .int .i64 (y.d), .int .i64 e]) rfl (by kernel_rfl) (by kernel_rfl) (by kernel_rfl) (fun _ _ _ h => h) (Some'.weak (.take (.skip (.take (.nil _))))) rfl (OpY.loadN (cs := [.int .i64 (y.a), .int .i64 (y.b), .int .i64 (y.c), .int .i64 (y.d), .int .i64 e]) Tagg_61 rfl (Cells.blk (.head _) ⟨rfl, rfl, rfl, rfl, rfl, trivial⟩)) ?_
              refine DW.take (i := 1) (v := .bool (upB x j)) rfl (by kernel_rfl) (by kernel_rfl) (by kernel_rfl) (fun _ _ _ h => h) (Some'.weak (.take (.skip (.take (.nil _))))) rfl (OpY.pure rfl) ?_
              rcases Bool.eq_false_or_eq_true (upB x j) with h42 | h42
              · refine DW.take (i := 2) (v := .bool true) rfl (by kernel_rfl) (by kernel_rfl) (by kernel_rfl) (fun _ _ _ h => h) (Some'.weak (.take (.skip (.take (.nil _))))) rfl (OpY.moveB rfl h42) ?_
                have p42 := h42; try simp only [bs] at p42
                refine DW.take (i := 3) (v := .agg #[.int .i64 (y.a), .int .i64 (y.b), .int .i64 (y.c), .int .i64 (y.d), .int .i64 e]) rfl (by kernel_rfl) (by kernel_rfl) (by kernel_rfl) (fun _ _ _ h => h) (Some'.weak (.take (.skip (.take (.nil _))))) rfl (OpY.loadN (cs := [.int .i64 (y.a), .int .i64 (y.b), .int .i64 (y.c), .int .i64 (y.d), .int .i64 e]) Tagg_61 rfl (Cells.blk (.head _) ⟨rfl, rfl, rfl, rfl, rfl, trivial⟩)) ?_
                refine DW.step (i := 4) (by kernel_rfl) rfl rfl (OpStep.q (v := .bool true) (OpQ.call (vs := [.agg #[.int .i64 (y.a), .int .i64 (y.b), .int .i64 (y.c), .int .i64 (y.d), .int .i64 e]]) (caps := []) Tcall_57 rfl rfl (fun w hs => (by have h := IsValidDyadic_spec (x := y) (e := e) (w := w) (gd_lim hinv.1); rw [hval (by assumption)] at h; exact h))) ?_)
                refine ⟨(Some'.weak (.take (.skip (.take (.nil _))))), ?_⟩
                refine DW.take (i := 5) (v := .bool true) rfl (by kernel_rfl) (by kernel_rfl) (by kernel_rfl) (fun _ _ _ h => h) (Some'.weak (.take (.skip (.take (.nil _))))) rfl (OpY.pure rfl) ?_
                refine DW.step (i := 6) (by kernel_rfl) rfl rfl (OpStep.storeAll (us := [.int .i64 (y.a), .int .i64 (y.b), .int .i64 (y.c), .int .i64 (y.d), .int .i64 e]) Tsize_61 rfl rfl rfl (.there _ (.here _)) rfl ?_)
                refine ⟨(Some'.weak (.take (.skip (.take (.nil _))))), ?_⟩
                refine DW.take (i := 7) (v := .bool true) rfl (by kernel_rfl) (by kernel_rfl) (by kernel_rfl) (fun _ _ _ h => h) (Some'.weak (.take (.skip (.take (.nil _))))) rfl (OpY.pure rfl) ?_
                refine DW.done (by kernel_rfl) ?_
                refine Run.ret ?_
                refine ⟨.tuple #[.agg #[.int .i64 (y.a), .int .i64 (y.b), .int .i64 (y.c), .int .i64 (y.d), .int .i64 e], .bool true], [], Out.cell2 (cs := [.int .i64 (y.a), .int .i64 (y.b), .int .i64 (y.c), .int .i64 (y.d), .int .i64 e]) rfl Tagg_61 rfl (Cells.blk (.tail _ (List.Mem.head _)) ⟨rfl, rfl, rfl, rfl, rfl, trivial⟩) rfl, (Some'.weak (.nil _)), ?_⟩
                exact ⟨y, e, hres, by rw [← hfin]; simp_all, rfl⟩
              · refine DW.take (i := 2) (v := .bool false) rfl (by kernel_rfl) (by kernel_rfl) (by kernel_rfl) (fun _ _ _ h => h) (Some'.weak (.take (.skip (.take (.nil _))))) rfl (OpY.moveB rfl h42) ?_
                have p42 := h42; try simp only [bs] at p42
                refine DW.pass (i := 3) rfl (by kernel_rfl) (by kernel_rfl) (by kernel_rfl) (fun _ _ _ h => h) (Some'.weak (.take (.skip (.take (.nil _))))) rfl ?_
                refine DW.pass (i := 4) rfl (by kernel_rfl) (by kernel_rfl) (by kernel_rfl) (fun _ _ _ h => h) (Some'.weak (.take (.skip (.take (.nil _))))) rfl ?_
                refine DW.take (i := 5) (v := .bool false) rfl (by kernel_rfl) (by kernel_rfl) (by kernel_rfl) (fun _ _ _ h => h) (Some'.weak (.take (.skip (.take (.nil _))))) rfl (OpY.pure rfl) ?_
                refine DW.step (i := 6) (by kernel_rfl) rfl rfl (OpStep.storeAll (us := [.int .i64 (y.a), .int .i64 (y.b), .int .i64 (y.c), .int .i64 (y.d), .int .i64 e]) Tsize_61 rfl rfl rfl (.there _ (.here _)) rfl ?_)
                refine ⟨(Some'.weak (.take (.skip (.take (.nil _))))), ?_⟩
                refine DW.take (i := 7) (v := .bool false) rfl (by kernel_rfl) (by kernel_rfl) (by kernel_rfl) (fun _ _ _ h => h) (Some'.weak (.take (.skip (.take (.nil _))))) rfl (OpY.pure rfl) ?_
                refine DW.done (by kernel_rfl) ?_
                refine Run.ret ?_
                refine ⟨.tuple #[.agg #[.int .i64 (y.a), .int .i64 (y.b), .int .i64 (y.c), .int .i64 (y.d), .int .i64 e], .bool false], [], Out.cell2 (cs := [.int .i64 (y.a), .int .i64 (y.b), .int .i64 (y.c), .int .i64 (y.d), .int .i64 e]) rfl Tagg_61 rfl (Cells.blk (.tail _ (List.Mem.head _)) ⟨rfl, rfl, rfl, rfl, rfl, trivial⟩) rfl, (Some'.weak (.nil _)), ?_⟩
                exact ⟨y, e, hres, by rw [← hfin]; simp_all, rfl⟩
          · refine Run.q (v := .bool false) rfl (OpQ.y (OpY.moveB rfl h26)) ?_
            have p26 := h26; try simp only [bs] at p26
            have hst : e ≤ 0 ∨ evR y = false := .inl (by omega)
            refine Run.pass rfl ?_
            refine Run.pass rfl ?_
            refine Run.q (v := .bool false) rfl (OpQ.y (OpY.pure rfl)) ?_
            refine Run.done ?_
            refine Run.cond (b := false) rfl (fun h => nomatch h) (fun _ => ?_)
            refine Run.exit rfl ?_
            refine Run.seq ?_
            have hdone : dnR (upS x j) (X + (j : Int)).toNat = (y, e.toNat) := by
              rw [← hinv.2.2.2]
              rcases hst with h | h
              · rw [show e.toNat = 0 by omega]; rfl
              · exact dnR_stop h
            have hval : upB x j = true → ((gdR y && within e 0 60) && ((e == 0) || !evR y)) = true := fun hu => by
              have hX0 : 0 ≤ X + (j : Int) := by
                refine Decidable.byContradiction fun hneg => ?_
                first | omega | (rw [hu] at h16; cases h16)
              have hw : within e 0 60 = true := within_iff.2 ⟨by omega, by omega⟩
              rw [hinv.1, hw, Bool.true_and]
              rcases hst with h | h
              · rw [show e = 0 by omega]; rfl
              · rw [h]; simp
            have hres : scB x X = true → y = (scV x X).1 ∧ e = (((scV x X).2 : Nat) : Int) := fun hu => by
              have hX0 : 0 ≤ X + (j : Int) := by
                refine Decidable.byContradiction fun hneg => ?_
                first | omega | (rw [hfin, hu] at h16; cases h16)
              have ej : (-X).toNat = j ∧ X.toNat = (X + (j : Int)).toNat := by omega
              rw [scV, ej.1, ej.2, hdone]; exact ⟨rfl, by show e = ((e.toNat : Nat) : Int); omega⟩
            refine Run.region ?_
            refine Run.q (v := .agg #[.int .i64 (y.a), .int .i64 (y.b), .int .i64 (y.c), .int .i64 (y.d)]) rfl (OpQ.y (OpY.loadN (cs := [.int .i64 (y.a), .int .i64 (y.b), .int .i64 (y.c), .int .i64 (y.d)]) Tagg_56 rfl (Cells.blk (.tail _ (List.Mem.head _)) ⟨rfl, rfl, rfl, rfl, trivial⟩))) ?_
            refine Run.q (v := .int .i64 e) rfl (OpQ.y (OpY.pure rfl)) ?_
            refine Run.q (v := .agg #[.int .i64 (y.a), .int .i64 (y.b), .int .i64 (y.c), .int .i64 (y.d), .int .i64 e]) rfl (OpQ.y (OpY.build (cs := [.int .i64 (y.a), .int .i64 (y.b), .int .i64 (y.c), .int .i64 (y.d), .int .i64 e]) (by kernel_rfl))) ?_
            refine Run.step rfl (OpStep.alloc (zs := [.int .i64 0, .int .i64 0, .int .i64 0, .int .i64 0, .int .i64 0]) Tzero_61 fun b6 => ?_)
            refine Run.step rfl (OpStep.storeAll (us := [.int .i64 (y.a), .int .i64 (y.b), .int .i64 (y.c), .int .i64 (y.d), .int .i64 e]) Tsize_61 rfl rfl rfl (.here _) rfl ?_)
            refine Run.done ?_
            refine Run.seq ?_
            refine Run.heldB (base := [.blk b6 61 [.int .i64 (y.a), .int .i64 (y.b), .int .i64 (y.c), .int .i64 (y.d), .int .i64 e], .blk b1 56 [.int .i64 (y.a), .int .i64 (y.b), .int .i64 (y.c), .int .i64 (y.d)]]) (by kernel_rfl) ?_
            refine DW.take (i := 0) (v := .agg #[.int .i64 (y.a), .int .i64 (y.b), .int .i64 (y.c), .int .i64 (y.d), .int .i64 e]) rfl (by kernel_rfl) (by kernel_rfl) (by kernel_rfl) (fun _ _ _ h => h) (Some'.weak (.take (.skip (.take (.nil _))))) rfl (OpY.loadN (cs := [.int .i64 (y.a), .int .i64 (y.b), .int .i64 (y.c), .int .i64 (y.d), .int .i64 e]) Tagg_61 rfl (Cells.blk (.head _) ⟨rfl, rfl, rfl, rfl, rfl, trivial⟩)) ?_
            refine DW.take (i := 1) (v := .bool (upB x j)) rfl (by kernel_rfl) (by kernel_rfl) (by kernel_rfl) (fun _ _ _ h => h) (Some'.weak (.take (.skip (.take (.nil _))))) rfl (OpY.pure rfl) ?_
            rcases Bool.eq_false_or_eq_true (upB x j) with h42 | h42
            · refine DW.take (i := 2) (v := .bool true) rfl (by kernel_rfl) (by kernel_rfl) (by kernel_rfl) (fun _ _ _ h => h) (Some'.weak (.take (.skip (.take (.nil _))))) rfl (OpY.moveB rfl h42) ?_
              have p42 := h42; try simp only [bs] at p42
              refine DW.take (i := 3) (v := .agg #[.int .i64 (y.a), .int .i64 (y.b), .int .i64 (y.c), .int .i64 (y.d), .int .i64 e]) rfl (by kernel_rfl) (by kernel_rfl) (by kernel_rfl) (fun _ _ _ h => h) (Some'.weak (.take (.skip (.take (.nil _))))) rfl (OpY.loadN (cs := [.int .i64 (y.a), .int .i64 (y.b), .int .i64 (y.c), .int .i64 (y.d), .int .i64 e]) Tagg_61 rfl (Cells.blk (.head _) ⟨rfl, rfl, rfl, rfl, rfl, trivial⟩)) ?_
              refine DW.step (i := 4) (by kernel_rfl) rfl rfl (OpStep.q (v := .bool true) (OpQ.call (vs := [.agg #[.int .i64 (y.a), .int .i64 (y.b), .int .i64 (y.c), .int .i64 (y.d), .int .i64 e]]) (caps := []) Tcall_57 rfl rfl (fun w hs => (by have h := IsValidDyadic_spec (x := y) (e := e) (w := w) (gd_lim hinv.1); rw [hval (by assumption)] at h; exact h))) ?_)
              refine ⟨(Some'.weak (.take (.skip (.take (.nil _))))), ?_⟩
              refine DW.take (i := 5) (v := .bool true) rfl (by kernel_rfl) (by kernel_rfl) (by kernel_rfl) (fun _ _ _ h => h) (Some'.weak (.take (.skip (.take (.nil _))))) rfl (OpY.pure rfl) ?_
              refine DW.step (i := 6) (by kernel_rfl) rfl rfl (OpStep.storeAll (us := [.int .i64 (y.a), .int .i64 (y.b), .int .i64 (y.c), .int .i64 (y.d), .int .i64 e]) Tsize_61 rfl rfl rfl (.there _ (.here _)) rfl ?_)
              refine ⟨(Some'.weak (.take (.skip (.take (.nil _))))), ?_⟩
              refine DW.take (i := 7) (v := .bool true) rfl (by kernel_rfl) (by kernel_rfl) (by kernel_rfl) (fun _ _ _ h => h) (Some'.weak (.take (.skip (.take (.nil _))))) rfl (OpY.pure rfl) ?_
              refine DW.done (by kernel_rfl) ?_
              refine Run.ret ?_
              refine ⟨.tuple #[.agg #[.int .i64 (y.a), .int .i64 (y.b), .int .i64 (y.c), .int .i64 (y.d), .int .i64 e], .bool true], [], Out.cell2 (cs := [.int .i64 (y.a), .int .i64 (y.b), .int .i64 (y.c), .int .i64 (y.d), .int .i64 e]) rfl Tagg_61 rfl (Cells.blk (.tail _ (List.Mem.head _)) ⟨rfl, rfl, rfl, rfl, rfl, trivial⟩) rfl, (Some'.weak (.nil _)), ?_⟩
              exact ⟨y, e, hres, by rw [← hfin]; simp_all, rfl⟩
            · refine DW.take (i := 2) (v := .bool false) rfl (by kernel_rfl) (by kernel_rfl) (by kernel_rfl) (fun _ _ _ h => h) (Some'.weak (.take (.skip (.take (.nil _))))) rfl (OpY.moveB rfl h42) ?_
              have p42 := h42; try simp only [bs] at p42
              refine DW.pass (i := 3) rfl (by kernel_rfl) (by kernel_rfl) (by kernel_rfl) (fun _ _ _ h => h) (Some'.weak (.take (.skip (.take (.nil _))))) rfl ?_
              refine DW.pass (i := 4) rfl (by kernel_rfl) (by kernel_rfl) (by kernel_rfl) (fun _ _ _ h => h) (Some'.weak (.take (.skip (.take (.nil _))))) rfl ?_
              refine DW.take (i := 5) (v := .bool false) rfl (by kernel_rfl) (by kernel_rfl) (by kernel_rfl) (fun _ _ _ h => h) (Some'.weak (.take (.skip (.take (.nil _))))) rfl (OpY.pure rfl) ?_
              refine DW.step (i := 6) (by kernel_rfl) rfl rfl (OpStep.storeAll (us := [.int .i64 (y.a), .int .i64 (y.b), .int .i64 (y.c), .int .i64 (y.d), .int .i64 e]) Tsize_61 rfl rfl rfl (.there _ (.here _)) rfl ?_)
              refine ⟨(Some'.weak (.take (.skip (.take (.nil _))))), ?_⟩
              refine DW.take (i := 7) (v := .bool false) rfl (by kernel_rfl) (by kernel_rfl) (by kernel_rfl) (fun _ _ _ h => h) (Some'.weak (.take (.skip (.take (.nil _))))) rfl (OpY.pure rfl) ?_
              refine DW.done (by kernel_rfl) ?_
              refine Run.ret ?_
              refine ⟨.tuple #[.agg #[.int .i64 (y.a), .int .i64 (y.b), .int .i64 (y.c), .int .i64 (y.d), .int .i64 e], .bool false], [], Out.cell2 (cs := [.int .i64 (y.a), .int .i64 (y.b), .int .i64 (y.c), .int .i64 (y.d), .int .i64 e]) rfl Tagg_61 rfl (Cells.blk (.tail _ (List.Mem.head _)) ⟨rfl, rfl, rfl, rfl, rfl, trivial⟩) rfl, (Some'.weak (.nil _)), ?_⟩
              exact ⟨y, e, hres, by rw [← hfin]; simp_all, rfl⟩

end Go.Proofs.Ytadobifnhcafpaa
