/- Walks: the ring of numbers with a root of minus one, of program and reference. -/
import Derived.Test.YtadobifnhcafpaaEl
import Derived.Test.YtadobifnhcafpaaCi
import Derived.Test.YtadobifnhcafpaaProg
set_option linter.unusedSimpArgs false
set_option linter.unusedVariables false
namespace Go.Proofs.Ytadobifnhcafpaa
open Go Go.RowKit
namespace RgT
theorem Tagg_56 : aggOf Try.prog 56 = some 4 := by kernel_rfl
theorem Tagg_61 : aggOf Try.prog 61 = some 5 := by kernel_rfl
theorem Tarr_70 : arrayOf Try.prog 70 = some (8, 1) := by kernel_rfl
theorem Tcall_20 : callable Try.prog 20 = true := by kernel_rfl
theorem Tcall_42 : callable Try.prog 42 = true := by kernel_rfl
theorem Tcall_43 : callable Try.prog 43 = true := by kernel_rfl
theorem Tcall_44 : callable Try.prog 44 = true := by kernel_rfl
theorem Tcall_47 : callable Try.prog 47 = true := by kernel_rfl
theorem Tcall_55 : callable Try.prog 55 = true := by kernel_rfl
theorem Tcall_61 : callable Try.prog 61 = true := by kernel_rfl
theorem Tcall_64 : callable Try.prog 64 = true := by kernel_rfl
theorem Tcall_65 : callable Try.prog 65 = true := by kernel_rfl
theorem Tcall_69 : callable Try.prog 69 = true := by kernel_rfl
theorem Tfo_47_0 : fieldOff Try.prog 47 0 = some 0 := by kernel_rfl
theorem Tfo_56_0 : fieldOff Try.prog 56 0 = some 0 := by kernel_rfl
theorem Tfo_56_1 : fieldOff Try.prog 56 1 = some 1 := by kernel_rfl
theorem Tfo_56_2 : fieldOff Try.prog 56 2 = some 2 := by kernel_rfl
theorem Tfo_56_3 : fieldOff Try.prog 56 3 = some 3 := by kernel_rfl
theorem Tfo_61_0 : fieldOff Try.prog 61 0 = some 0 := by kernel_rfl
theorem Tfo_61_1 : fieldOff Try.prog 61 1 = some 4 := by kernel_rfl
theorem Tone_3 : oneOf Try.prog 3 = true := by kernel_rfl
theorem Tsize_4 : (Try.prog.info? 4).map (·.size) = some 1 := by kernel_rfl
theorem Tsize_56 : (Try.prog.info? 56).map (·.size) = some 4 := by kernel_rfl
theorem Tsize_61 : (Try.prog.info? 61).map (·.size) = some 5 := by kernel_rfl
theorem Tsl_49 : sliceOf Try.prog 49 = some (56, 4, 32, [.int .i64 0, .int .i64 0, .int .i64 0, .int .i64 0]) := by kernel_rfl
theorem Tsl_83 : sliceOf Try.prog 83 = some (3, 1, 8, [.int .i64 0]) := by kernel_rfl
theorem Tzero_56 : zeroOf Try.prog 56 = some [.int .i64 0, .int .i64 0, .int .i64 0, .int .i64 0] := by kernel_rfl
theorem Tzero_61 : zeroOf Try.prog 61 = some [.int .i64 0, .int .i64 0, .int .i64 0, .int .i64 0, .int .i64 0] := by kernel_rfl
end RgT
open RgT

theorem preN {xs : List Int} {o k : Nat} (h : o + k ≤ xs.length) : Pre (ints xs) o ((List.range k).map fun j => .int .i64 (ix xs (o + j))) := by
  induction k generalizing o with
  | zero => trivial
  | succ k ih =>
    rw [List.range_succ_eq_map, List.map_cons, List.map_map]
    refine ⟨ints_get (by omega), ?_⟩
    have := ih (o := o + 1) (by omega)
    have e : ((fun j => Value.int .i64 (ix xs (o + j))) ∘ Nat.succ) = fun j => Value.int .i64 (ix xs (o + 1 + j)) := by
      funext j; simp only [Function.comp]; rw [show o + Nat.succ j = o + 1 + j by omega]
    rw [e]; exact this
theorem pre4 {xs : List Int} {o : Nat} (h : o + 3 < xs.length) : Pre (ints xs) o [.int .i64 (ix xs o), .int .i64 (ix xs (o + 1)), .int .i64 (ix xs (o + 2)), .int .i64 (ix xs (o + 3))] := preN (k := 4) (by omega)
theorem pre5 {xs : List Int} {o : Nat} (h : o + 4 < xs.length) : Pre (ints xs) o [.int .i64 (ix xs o), .int .i64 (ix xs (o + 1)), .int .i64 (ix xs (o + 2)), .int .i64 (ix xs (o + 3)), .int .i64 (ix xs (o + 4))] := preN (k := 5) (by omega)
theorem pre8 {xs : List Int} {o : Nat} (h : o + 7 < xs.length) : Pre (ints xs) o [.int .i64 (ix xs o), .int .i64 (ix xs (o + 1)), .int .i64 (ix xs (o + 2)), .int .i64 (ix xs (o + 3)), .int .i64 (ix xs (o + 4)), .int .i64 (ix xs (o + 5)), .int .i64 (ix xs (o + 6)), .int .i64 (ix xs (o + 7))] := preN (k := 8) (by omega)
structure R4 where
  a : Int
  b : Int
  c : Int
  d : Int
deriving DecidableEq
def R4.zero : R4 := ⟨0, 0, 0, 0⟩
def gdC (n : Int) : Bool := within n (-1000000000) 1000000000
def gdR (x : R4) : Bool := ((gdC x.a && gdC x.b) && gdC x.c) && gdC x.d
def Lim (x : R4) : Prop := ((-4000000000 ≤ x.a ∧ x.a ≤ 4000000000) ∧ (-4000000000 ≤ x.b ∧ x.b ≤ 4000000000)) ∧ (-4000000000 ≤ x.c ∧ x.c ≤ 4000000000) ∧ -4000000000 ≤ x.d ∧ x.d ≤ 4000000000
theorem gdR_iff {x : R4} : gdR x = true ↔ ((-1000000000 ≤ x.a ∧ x.a ≤ 1000000000) ∧ (-1000000000 ≤ x.b ∧ x.b ≤ 1000000000)) ∧ (-1000000000 ≤ x.c ∧ x.c ≤ 1000000000) ∧ -1000000000 ≤ x.d ∧ x.d ≤ 1000000000 := by
  simp only [gdR, gdC, Bool.and_eq_true, within_iff]
  constructor <;> intro h <;> omega
theorem gd_lim {x : R4} (h : gdR x = true) : Lim x := by
  have := gdR_iff.1 h
  unfold Lim; omega
def rtR (x : R4) : R4 := ⟨x.b - x.d, x.a + x.c, x.b + x.d, x.c - x.a⟩
def evR (x : R4) : Bool := ((x.a + x.c).tmod 2 == 0) && ((x.b + x.d).tmod 2 == 0)
def hfR (x : R4) : R4 := ⟨(x.b - x.d).tdiv 2, (x.a + x.c).tdiv 2, (x.b + x.d).tdiv 2, (x.c - x.a).tdiv 2⟩
def adR (x y : R4) : R4 := ⟨x.a + y.a, x.b + y.b, x.c + y.c, x.d + y.d⟩
def twR : Nat → R4
  | 0 => ⟨1, 0, 0, 0⟩
  | k + 1 => ⟨-(twR k).d, (twR k).a, (twR k).b, (twR k).c⟩
theorem twR_lim : ∀ k, ((-1 ≤ (twR k).a ∧ (twR k).a ≤ 1) ∧ (-1 ≤ (twR k).b ∧ (twR k).b ≤ 1)) ∧ (-1 ≤ (twR k).c ∧ (twR k).c ≤ 1) ∧ -1 ≤ (twR k).d ∧ (twR k).d ≤ 1
  | 0 => by decide
  | k + 1 => by have := twR_lim k; simp only [twR]; omega
theorem tdiv2 {x M : Int} (h0 : 0 ≤ M) (h1 : -(2 * M) ≤ x) (h2 : x ≤ 2 * M) : -M ≤ x.tdiv 2 ∧ x.tdiv 2 ≤ M := by
  by_cases h : 0 ≤ x
  · rw [Int.tdiv_eq_ediv_of_nonneg h]; omega
  · have e : x.tdiv 2 = -((-x).tdiv 2) := by rw [Int.neg_tdiv, Int.neg_neg]
    rw [e, Int.tdiv_eq_ediv_of_nonneg (by omega)]; omega
theorem hfR_good {x : R4} (h : gdR x = true) : gdR (hfR x) = true := by
  have hx := gdR_iff.1 h
  have h1 := tdiv2 (x := x.b - x.d) (M := 1000000000) (by omega) (by omega) (by omega)
  have h2 := tdiv2 (x := x.a + x.c) (M := 1000000000) (by omega) (by omega) (by omega)
  have h3 := tdiv2 (x := x.b + x.d) (M := 1000000000) (by omega) (by omega) (by omega)
  have h4 := tdiv2 (x := x.c - x.a) (M := 1000000000) (by omega) (by omega) (by omega)
  exact gdR_iff.2 ⟨⟨h1, h2⟩, h3, h4⟩
theorem OpY.remI {E : Env} {f : Fr} {H : List Res} {d : Option Tmp} {ty : TypeId} {pos : String} {after : Array Edge} {gd : Option (Nat × Bool)} {t t' : TypeId} {x y : Operand} {a b : Int} (hx : f.eval x = .int .i64 a) (hy : f.eval y = .int .i64 b) (hb : b ≠ 0) :
    OpY E ⟨d, .binOp .rem t x y t', ty, pos, after, gd⟩ f H (.int .i64 (a.tmod b)) := by
  intro w _
  simp [execOp, hx, hy, eqGuard, binOp, Op.intDiv, hb]
theorem OpY.quoR {E : Env} {f : Fr} {H : List Res} {d : Option Tmp} {ty : TypeId} {pos : String} {after : Array Edge} {gd : Option (Nat × Bool)} {t t' : TypeId} {x y : Operand} {A : Int} (hx : f.eval x = .int .i64 A) (hy : f.eval y = .int .i64 2) (h : -1000000000000 ≤ A ∧ A ≤ 1000000000000) :
    OpY E ⟨d, .binOp .quo t x y t', ty, pos, after, gd⟩ f H (.int .i64 (A.tdiv 2)) := by
  intro w _
  have h2 := tdiv2 (x := A) (M := 1000000000000) (by omega) (by omega) (by omega)
  have hw : IntKind.i64.wrap (A.tdiv 2) = A.tdiv 2 := by rw [IntKind.wrap_i64]; omega
  simp [execOp, hx, hy, eqGuard, binOp, Op.intDiv, hw]

set_option maxHeartbeats 1000000 in
set_option maxRecDepth 20000 in
theorem isCoef_spec (n : Int) (w : World) : Calls Try.prog 69 #[.int .i64 n] w (Post No w fun v _ => v = .bool (gdC n)) := by
  refine enter (n := 5) (args := [.int .i64 n]) Try.func69 rfl rfl (St.empty _ _) ?_
  refine Run.seq ?_
  refine Run.region ?_
  refine Run.q (v := .bool false) rfl (OpQ.y (OpY.pure rfl)) ?_
  refine Run.done ?_
  refine Run.seq ?_
  refine Run.region ?_
  refine Run.q (v := .int .i64 n) rfl (OpQ.y (OpY.pure rfl)) ?_
  refine Run.q (v := .bool (within n (-1000000000) 1000000000)) rfl (OpQ.call (vs := [.int .i64 n, .int .i64 (-1000000000), .int .i64 1000000000]) (caps := []) Tcall_47 rfl rfl (fun w hs => within_spec _ _ _ w)) ?_
  refine Run.q (v := .bool (within n (-1000000000) 1000000000)) rfl (OpQ.y (OpY.pure rfl)) ?_
  refine Run.done ?_
  refine Run.ret ?_
  refine ⟨.bool (within n (-1000000000) 1000000000), [], Out.one rfl rfl, (Some'.weak (.nil _)), ?_⟩
  rfl

set_option maxHeartbeats 1000000 in
set_option maxRecDepth 20000 in
theorem IsValidRing_spec (x : R4) (w : World) : Calls Try.prog 65 #[.agg #[.int .i64 (x.a), .int .i64 (x.b), .int .i64 (x.c), .int .i64 (x.d)]] w (Post No w fun v _ => v = .bool (gdR x)) := by
  refine enter (n := 21) (args := [.agg #[.int .i64 (x.a), .int .i64 (x.b), .int .i64 (x.c), .int .i64 (x.d)]]) Try.func65 rfl rfl (St.empty _ _) ?_
  refine Run.seq ?_
  refine Run.region ?_
  refine Run.step rfl (OpStep.box (us := [.int .i64 (x.a), .int .i64 (x.b), .int .i64 (x.c), .int .i64 (x.d)]) rfl fun b1 => ?_)
  refine Run.q (v := .bool false) rfl (OpQ.y (OpY.pure rfl)) ?_
  refine Run.done ?_
  refine Run.seq ?_
  refine Run.region ?_
  refine Run.q (v := .pointer (some ⟨b1, 0, none⟩)) rfl (OpQ.y (OpY.fieldAddr Tfo_56_0 rfl rfl)) ?_
  refine Run.q (v := .int .i64 (x.a)) rfl (OpQ.y (OpY.load1 Tone_3 rfl (Cells.blk (.head _) ⟨rfl, trivial⟩))) ?_
  refine Run.q (v := .bool (gdC x.a)) rfl (OpQ.call (vs := [.int .i64 (x.a)]) (caps := []) Tcall_69 rfl rfl (fun w hs => isCoef_spec _ w)) ?_
  rcases Bool.eq_false_or_eq_true (gdC x.a) with h6 | h6
  · refine Run.q (v := .bool true) rfl (OpQ.y (OpY.moveB rfl h6)) ?_
    have p6 := h6; try simp only [bs] at p6
    refine Run.q (v := .pointer (some ⟨b1, 1, none⟩)) rfl (OpQ.y (OpY.fieldAddr Tfo_56_1 rfl rfl)) ?_
    refine Run.q (v := .int .i64 (x.b)) rfl (OpQ.y (OpY.load1 Tone_3 rfl (Cells.blk (.head _) ⟨rfl, trivial⟩))) ?_
    refine Run.q (v := .bool (gdC x.b)) rfl (OpQ.call (vs := [.int .i64 (x.b)]) (caps := []) Tcall_69 rfl rfl (fun w hs => isCoef_spec _ w)) ?_
    refine Run.q (v := .bool (gdC x.b)) rfl (OpQ.y (OpY.pure rfl)) ?_
    rcases Bool.eq_false_or_eq_true (gdC x.b) with h11 | h11
    · refine Run.q (v := .bool true) rfl (OpQ.y (OpY.moveB rfl h11)) ?_
      have p11 := h11; try simp only [bs] at p11
      refine Run.q (v := .pointer (some ⟨b1, 2, none⟩)) rfl (OpQ.y (OpY.fieldAddr Tfo_56_2 rfl rfl)) ?_
      refine Run.q (v := .int .i64 (x.c)) rfl (OpQ.y (OpY.load1 Tone_3 rfl (Cells.blk (.head _) ⟨rfl, trivial⟩))) ?_
      refine Run.q (v := .bool (gdC x.c)) rfl (OpQ.call (vs := [.int .i64 (x.c)]) (caps := []) Tcall_69 rfl rfl (fun w hs => isCoef_spec _ w)) ?_
      refine Run.q (v := .bool (gdC x.c)) rfl (OpQ.y (OpY.pure rfl)) ?_
      rcases Bool.eq_false_or_eq_true (gdC x.c) with h16 | h16
      · refine Run.q (v := .bool true) rfl (OpQ.y (OpY.moveB rfl h16)) ?_
        have p16 := h16; try simp only [bs] at p16
        refine Run.q (v := .pointer (some ⟨b1, 3, none⟩)) rfl (OpQ.y (OpY.fieldAddr Tfo_56_3 rfl rfl)) ?_
        refine Run.q (v := .int .i64 (x.d)) rfl (OpQ.y (OpY.load1 Tone_3 rfl (Cells.blk (.head _) ⟨rfl, trivial⟩))) ?_
        refine Run.q (v := .bool (gdC x.d)) rfl (OpQ.call (vs := [.int .i64 (x.d)]) (caps := []) Tcall_69 rfl rfl (fun w hs => isCoef_spec _ w)) ?_
        refine Run.q (v := .bool (gdC x.d)) rfl (OpQ.y (OpY.pure rfl)) ?_
        refine Run.q (v := .bool (gdC x.d)) rfl (OpQ.y (OpY.pure rfl)) ?_
        refine Run.done ?_
        refine Run.ret ?_
        refine ⟨.bool (gdC x.d), [], Out.one rfl rfl, (Some'.weak (.nil _)), ?_⟩
        show _ = _; simp_all [gdR]
      · refine Run.q (v := .bool false) rfl (OpQ.y (OpY.moveB rfl h16)) ?_
        have p16 := h16; try simp only [bs] at p16
        refine Run.pass rfl ?_
        refine Run.pass rfl ?_
        refine Run.pass rfl ?_
        refine Run.q (v := .bool false) rfl (OpQ.y (OpY.pure rfl)) ?_
        refine Run.q (v := .bool false) rfl (OpQ.y (OpY.pure rfl)) ?_
        refine Run.done ?_
        refine Run.ret ?_
        refine ⟨.bool false, [], Out.one rfl rfl, (Some'.weak (.nil _)), ?_⟩
        show _ = _; simp_all [gdR]
    · refine Run.q (v := .bool false) rfl (OpQ.y (OpY.moveB rfl h11)) ?_
      have p11 := h11; try simp only [bs] at p11
      refine Run.pass rfl ?_
      refine Run.pass rfl ?_
      refine Run.pass rfl ?_
      refine Run.q (v := .bool false) rfl (OpQ.y (OpY.pure rfl)) ?_
      refine Run.q (v := .bool false) rfl (OpQ.y (OpY.pure rfl)) ?_
      refine Run.pass rfl ?_
      refine Run.pass rfl ?_
      refine Run.pass rfl ?_
      refine Run.q (v := .bool false) rfl (OpQ.y (OpY.pure rfl)) ?_
      refine Run.q (v := .bool false) rfl (OpQ.y (OpY.pure rfl)) ?_
      refine Run.done ?_
      refine Run.ret ?_
      refine ⟨.bool false, [], Out.one rfl rfl, (Some'.weak (.nil _)), ?_⟩
      show _ = _; simp_all [gdR]
  · refine Run.q (v := .bool false) rfl (OpQ.y (OpY.moveB rfl h6)) ?_
    have p6 := h6; try simp only [bs] at p6
    refine Run.pass rfl ?_
    refine Run.pass rfl ?_
    refine Run.pass rfl ?_
    refine Run.q (v := .bool false) rfl (OpQ.y (OpY.pure rfl)) ?_
    refine Run.q (v := .bool false) rfl (OpQ.y (OpY.pure rfl)) ?_
    refine Run.pass rfl ?_
    refine Run.pass rfl ?_
    refine Run.pass rfl ?_
    refine Run.q (v := .bool false) rfl (OpQ.y (OpY.pure rfl)) ?_
    refine Run.q (v := .bool false) rfl (OpQ.y (OpY.pure rfl)) ?_
    refine Run.pass rfl ?_
    refine Run.pass rfl ?_
    refine Run.pass rfl ?_
    refine Run.q (v := .bool false) rfl (OpQ.y (OpY.pure rfl)) ?_
    refine Run.q (v := .bool false) rfl (OpQ.y (OpY.pure rfl)) ?_
    refine Run.done ?_
    refine Run.ret ?_
    refine ⟨.bool false, [], Out.one rfl rfl, (Some'.weak (.nil _)), ?_⟩
    show _ = _; simp_all [gdR]


def rifB (x y : R4) : Bool := gdR x && gdR y
def rifV (x y : R4) : R4 := if rifB x y then y else R4.zero
theorem mul_good {x : R4} (h : gdR x = true) : rifB x (rtR x) = gdR (rtR x) := by rw [rifB, h, Bool.true_and]

set_option maxHeartbeats 1000000 in
set_option maxRecDepth 20000 in
theorem ringIf_spec {x y : R4} {va : Value} {w : World} (h : (Res.own va 56 4 1 (ints [x.a, x.b, x.c, x.d])).holds w) : Calls Try.prog 64 #[.agg #[.int .i64 (y.a), .int .i64 (y.b), .int .i64 (y.c), .int .i64 (y.d)], va] w (Post (Of [.own va 56 4 1 (ints [x.a, x.b, x.c, x.d])]) w fun v H => v = .tuple #[.agg #[.int .i64 ((rifV x y).a), .int .i64 ((rifV x y).b), .int .i64 ((rifV x y).c), .int .i64 ((rifV x y).d)], .bool (rifB x y)] ∧ H = []) := by
  refine enter (n := 23) (args := [.agg #[.int .i64 (y.a), .int .i64 (y.b), .int .i64 (y.c), .int .i64 (y.d)], va]) Try.func64 rfl rfl (St.start1 h) ?_
  refine Run.seq ?_
  refine Run.region ?_
  refine Run.step rfl (OpStep.box (us := [.int .i64 (y.a), .int .i64 (y.b), .int .i64 (y.c), .int .i64 (y.d)]) rfl fun b1 => ?_)
  refine Run.step rfl (OpStep.alloc (zs := [.int .i64 0, .int .i64 0, .int .i64 0, .int .i64 0]) Tzero_56 fun b2 => ?_)
  refine Run.q (v := .bool false) rfl (OpQ.y (OpY.pure rfl)) ?_
  refine Run.done ?_
  refine Run.seq ?_
  refine Run.seq ?_
  refine Run.region ?_
  refine Run.q (v := va) rfl (OpQ.y (OpY.pure rfl)) ?_
  refine Run.q (v := .agg #[.int .i64 (y.a), .int .i64 (y.b), .int .i64 (y.c), .int .i64 (y.d)]) rfl (OpQ.y (OpY.loadN (cs := [.int .i64 (y.a), .int .i64 (y.b), .int .i64 (y.c), .int .i64 (y.d)]) Tagg_56 rfl (Cells.blk (.tail _ (List.Mem.head _)) ⟨rfl, rfl, rfl, rfl, trivial⟩))) ?_
  refine Run.step rfl (OpStep.buildSlice (us := [.int .i64 (y.a), .int .i64 (y.b), .int .i64 (y.c), .int .i64 (y.d)]) Tsl_49 (by decide) (by decide) ⟨rfl, [.int .i64 (y.a), .int .i64 (y.b), .int .i64 (y.c), .int .i64 (y.d)], _, rfl, rfl, rfl, rfl⟩ rfl fun b3 => ?_)
  refine Run.step rfl (OpStep.append (H1 := [.own (.slice (some ⟨b3, 0, none⟩) 1 1) 56 4 1 ([.int .i64 (y.a), .int .i64 (y.b), .int .i64 (y.c), .int .i64 (y.d)]), .blk b2 56 [.int .i64 0, .int .i64 0, .int .i64 0, .int .i64 0], .blk b1 56 [.int .i64 (y.a), .int .i64 (y.b), .int .i64 (y.c), .int .i64 (y.d)]]) (H2 := []) (v := va) (u := .slice (some ⟨b3, 0, none⟩) 1 1) (n := 1) (m := 1) (xs := ints [x.a, x.b, x.c, x.d]) (ys := [.int .i64 (y.a), .int .i64 (y.b), .int .i64 (y.c), .int .i64 (y.d)]) Tsl_49 (by decide) rfl rfl rfl rfl (fun w hs => hs.slOwn (.head _)) (by simp [Value.oneCell']) (by omega) (by simp only [maxLen]; omega) fun av1 hnav1 => ?_)
  refine Run.weak (H' := [.own (.slice (some ⟨b3, 0, none⟩) 1 1) 56 4 1 ([.int .i64 (y.a), .int .i64 (y.b), .int .i64 (y.c), .int .i64 (y.d)]), .blk b2 56 [.int .i64 0, .int .i64 0, .int .i64 0, .int .i64 0], .blk b1 56 [.int .i64 (y.a), .int .i64 (y.b), .int .i64 (y.c), .int .i64 (y.d)], .own av1 56 4 2 (ints [x.a, x.b, x.c, x.d, y.a, y.b, y.c, y.d])]) (Some'.weak (.take (.take (.take (.takeEq (by rfl) (.nil _)))))) ?_ ⟨_, _, rfl, fun _ => nofun, fun _ => nofun⟩
  refine Run.formOwn (.tail _ (.tail _ (.tail _ (List.Mem.head _)))) (fun A_av11 c_av11 hv hcapc_av11 hmaxc_av11 => ?_) (fun _ _ _ => ⟨nofun, nofun, nofun⟩)
  subst hv
  refine Run.q (v := .int .i64 2) rfl (OpQ.y (OpY.len Tsl_49 rfl)) ?_
  refine Run.q (v := .int .i64 0) rfl (OpQ.y (OpY.pure rfl)) ?_
  refine Run.done ?_
  refine Run.openOwn (.tail _ (.tail _ (.tail _ (List.Mem.head _)))) (by decide) (fun gv cv hvgv hcapgv _ => ?_) (fun _ _ _ => ⟨nofun, nofun, nofun⟩)
  injection hvgv with hAgv _ hcgv; subst hAgv; subst hcgv
  refine Run.block ?_
  refine Run.unroll 3 ?_
  refine Run.again ?_
  refine Run.seq ?_
  refine Run.region ?_
  refine Run.q (v := .bool true) rfl (OpQ.y (OpY.pure rfl)) ?_
  refine Run.done ?_
  refine Run.seq ?_
  refine Run.cond (b := true) rfl (fun _ => ?_) (fun h => nomatch h)
  refine Run.skip ?_
  refine Run.seq ?_
  refine Run.block ?_
  refine Run.seq ?_
  refine Run.region ?_
  refine Run.q (v := .pointer (some ⟨gv, 0, none⟩)) rfl (OpQ.y (OpY.index (kk := 0) Tsl_49 rfl rfl (by first | rfl | decide) (by first | rfl | decide) (by first | rfl | omega))) ?_
  refine Run.q (v := .agg #[.int .i64 (ix [x.a, x.b, x.c, x.d, y.a, y.b, y.c, y.d] (0)), .int .i64 (ix [x.a, x.b, x.c, x.d, y.a, y.b, y.c, y.d] (0 + 1)), .int .i64 (ix [x.a, x.b, x.c, x.d, y.a, y.b, y.c, y.d] (0 + 2)), .int .i64 (ix [x.a, x.b, x.c, x.d, y.a, y.b, y.c, y.d] (0 + 3))]) rfl (OpQ.y (OpY.loadN (cs := [.int .i64 (ix [x.a, x.b, x.c, x.d, y.a, y.b, y.c, y.d] (0)), .int .i64 (ix [x.a, x.b, x.c, x.d, y.a, y.b, y.c, y.d] (0 + 1)), .int .i64 (ix [x.a, x.b, x.c, x.d, y.a, y.b, y.c, y.d] (0 + 2)), .int .i64 (ix [x.a, x.b, x.c, x.d, y.a, y.b, y.c, y.d] (0 + 3))]) Tagg_56 rfl (Cells.own0 (.tail _ (.tail _ (.tail _ (List.Mem.head _)))) (pre4 (by simp))))) ?_
  refine Run.step rfl (OpStep.alloc (zs := [.int .i64 0, .int .i64 0, .int .i64 0, .int .i64 0]) Tzero_56 fun b4 => ?_)
  refine Run.step rfl (OpStep.storeAll (us := [.int .i64 (ix [x.a, x.b, x.c, x.d, y.a, y.b, y.c, y.d] (0)), .int .i64 (ix [x.a, x.b, x.c, x.d, y.a, y.b, y.c, y.d] (0 + 1)), .int .i64 (ix [x.a, x.b, x.c, x.d, y.a, y.b, y.c, y.d] (0 + 2)), .int .i64 (ix [x.a, x.b, x.c, x.d, y.a, y.b, y.c, y.d] (0 + 3))]) Tsize_56 rfl rfl rfl (.here _) rfl ?_)
  refine Run.done ?_
  refine Run.seq ?_
  refine Run.region ?_
  refine Run.q (v := .agg #[.int .i64 (ix [x.a, x.b, x.c, x.d, y.a, y.b, y.c, y.d] (0)), .int .i64 (ix [x.a, x.b, x.c, x.d, y.a, y.b, y.c, y.d] (0 + 1)), .int .i64 (ix [x.a, x.b, x.c, x.d, y.a, y.b, y.c, y.d] (0 + 2)), .int .i64 (ix [x.a, x.b, x.c, x.d, y.a, y.b, y.c, y.d] (0 + 3))]) rfl (OpQ.y (OpY.loadN (cs := [.int .i64 (ix [x.a, x.b, x.c, x.d, y.a, y.b, y.c, y.d] (0)), .int .i64 (ix [x.a, x.b, x.c, x.d, y.a, y.b, y.c, y.d] (0 + 1)), .int .i64 (ix [x.a, x.b, x.c, x.d, y.a, y.b, y.c, y.d] (0 + 2)), .int .i64 (ix [x.a, x.b, x.c, x.d, y.a, y.b, y.c, y.d] (0 + 3))]) Tagg_56 rfl (Cells.blk (.head _) ⟨rfl, rfl, rfl, rfl, trivial⟩))) ?_
  refine Run.q (v := .bool (gdR x)) rfl (OpQ.call (vs := [.agg #[.int .i64 (ix [x.a, x.b, x.c, x.d, y.a, y.b, y.c, y.d] (0)), .int .i64 (ix [x.a, x.b, x.c, x.d, y.a, y.b, y.c, y.d] (0 + 1)), .int .i64 (ix [x.a, x.b, x.c, x.d, y.a, y.b, y.c, y.d] (0 + 2)), .int .i64 (ix [x.a, x.b, x.c, x.d, y.a, y.b, y.c, y.d] (0 + 3))]]) (caps := []) Tcall_65 rfl rfl (fun w hs => IsValidRing_spec x w)) ?_
  refine Run.q (v := .bool (!(gdR x))) rfl (OpQ.y (OpY.pure rfl)) ?_
  refine Run.done ?_
  refine Run.cond (b := !(gdR x)) rfl (fun h19 => ?_) (fun h19 => ?_)
  · have p19 := h19; try simp only [bs] at p19
    refine Run.seq ?_
    refine Run.region ?_
    refine Run.q (v := .agg #[.int .i64 0, .int .i64 0, .int .i64 0, .int .i64 0]) rfl (OpQ.y (OpY.build (cs := [.int .i64 0, .int .i64 0, .int .i64 0, .int .i64 0]) (by kernel_rfl))) ?_
    refine Run.step rfl (OpStep.storeAll (us := [.int .i64 0, .int .i64 0, .int .i64 0, .int .i64 0]) Tsize_56 rfl rfl rfl (.there _ (.there _ (.here _))) rfl ?_)
    refine Run.q (v := .bool false) rfl (OpQ.y (OpY.pure rfl)) ?_
    refine Run.done ?_
    refine Run.ret ?_
    refine ⟨.tuple #[.agg #[.int .i64 0, .int .i64 0, .int .i64 0, .int .i64 0], .bool false], [], Out.cell2 (cs := [.int .i64 0, .int .i64 0, .int .i64 0, .int .i64 0]) rfl Tagg_56 rfl (Cells.blk (.tail _ (.tail _ (List.Mem.head _))) ⟨rfl, rfl, rfl, rfl, trivial⟩) rfl, (Some'.weak (.nil _)), ?_⟩
    exact ⟨by show _ = _; simp_all [rifV, rifB, R4.zero], rfl⟩
  · have p19 := h19; try simp only [bs] at p19
    refine Run.skip ?_
    refine Run.blockEnd ?_
    refine Run.region ?_
    refine Run.q (v := .int .i64 1) rfl (OpQ.y (OpY.pure rfl)) ?_
    refine Run.q (v := .int .i64 1) rfl (OpQ.y (OpY.pure rfl)) ?_
    refine Run.done ?_
    refine Run.again ?_
    refine Run.seq ?_
    refine Run.region ?_
    refine Run.q (v := .bool true) rfl (OpQ.y (OpY.pure rfl)) ?_
    refine Run.done ?_
    refine Run.seq ?_
    refine Run.cond (b := true) rfl (fun _ => ?_) (fun h => nomatch h)
    refine Run.skip ?_
    refine Run.seq ?_
    refine Run.block ?_
    refine Run.seq ?_
    refine Run.region ?_
    refine Run.q (v := .pointer (some ⟨gv, 4, none⟩)) rfl (OpQ.y (OpY.index (kk := 1) Tsl_49 rfl rfl (by first | rfl | decide) (by first | rfl | decide) (by first | rfl | omega))) ?_
    refine Run.q (v := .agg #[.int .i64 (ix [x.a, x.b, x.c, x.d, y.a, y.b, y.c, y.d] (4)), .int .i64 (ix [x.a, x.b, x.c, x.d, y.a, y.b, y.c, y.d] (4 + 1)), .int .i64 (ix [x.a, x.b, x.c, x.d, y.a, y.b, y.c, y.d] (4 + 2)), .int .i64 (ix [x.a, x.b, x.c, x.d, y.a, y.b, y.c, y.d] (4 + 3))]) rfl (OpQ.y (OpY.loadN (cs := [.int .i64 (ix [x.a, x.b, x.c, x.d, y.a, y.b, y.c, y.d] (4)), .int .i64 (ix [x.a, x.b, x.c, x.d, y.a, y.b, y.c, y.d] (4 + 1)), .int .i64 (ix [x.a, x.b, x.c, x.d, y.a, y.b, y.c, y.d] (4 + 2)), .int .i64 (ix [x.a, x.b, x.c, x.d, y.a, y.b, y.c, y.d] (4 + 3))]) Tagg_56 rfl (Cells.own0 (.tail _ (.tail _ (.tail _ (.tail _ (List.Mem.head _))))) (pre4 (by simp))))) ?_
    refine Run.step rfl (OpStep.alloc (zs := [.int .i64 0, .int .i64 0, .int .i64 0, .int .i64 0]) Tzero_56 fun b5 => ?_)
    refine Run.step rfl (OpStep.storeAll (us := [.int .i64 (ix [x.a, x.b, x.c, x.d, y.a, y.b, y.c, y.d] (4)), .int .i64 (ix [x.a, x.b, x.c, x.d, y.a, y.b, y.c, y.d] (4 + 1)), .int .i64 (ix [x.a, x.b, x.c, x.d, y.a, y.b, y.c, y.d] (4 + 2)), .int .i64 (ix [x.a, x.b, x.c, x.d, y.a, y.b, y.c, y.d] (4 + 3))]) Tsize_56 rfl rfl rfl (.here _) rfl ?_)
    refine Run.done ?_
    refine Run.seq ?_
    refine Run.region ?_
    refine Run.q (v := .agg #[.int .i64 (ix [x.a, x.b, x.c, x.d, y.a, y.b, y.c, y.d] (4)), .int .i64 (ix [x.a, x.b, x.c, x.d, y.a, y.b, y.c, y.d] (4 + 1)), .int .i64 (ix [x.a, x.b, x.c, x.d, y.a, y.b, y.c, y.d] (4 + 2)), .int .i64 (ix [x.a, x.b, x.c, x.d, y.a, y.b, y.c, y.d] (4 + 3))]) rfl (OpQ.y (OpY.loadN (cs := [.int .i64 (ix [x.a, x.b, x.c, x.d, y.a, y.b, y.c, y.d] (4)), .int .i64 (ix [x.a, x.b, x.c, x.d, y.a, y.b, y.c, y.d] (4 + 1)), .int .i64 (ix [x.a, x.b, x.c, x.d, y.a, y.b, y.c, y.d] (4 + 2)), .int .i64 (ix [x.a, x.b, x.c, x.d, y.a, y.b, y.c, y.d] (4 + 3))]) Tagg_56 rfl (Cells.blk (.head _) ⟨rfl, rfl, rfl, rfl, trivial⟩))) ?_
    refine Run.q (v := .bool (gdR y)) rfl (OpQ.call (vs := [.agg #[.int .i64 (ix [x.a, x.b, x.c, x.d, y.a, y.b, y.c, y.d] (4)), .int .i64 (ix [x.a, x.b, x.c, x.d, y.a, y.b, y.c, y.d] (4 + 1)), .int .i64 (ix [x.a, x.b, x.c, x.d, y.a, y.b, y.c, y.d] (4 + 2)), .int .i64 (ix [x.a, x.b, x.c, x.d, y.a, y.b, y.c, y.d] (4 + 3))]]) (caps := []) Tcall_65 rfl rfl (fun w hs => IsValidRing_spec y w)) ?_
    refine Run.q (v := .bool (!(gdR y))) rfl (OpQ.y (OpY.pure rfl)) ?_
    refine Run.done ?_
    refine Run.cond (b := !(gdR y)) rfl (fun h19 => ?_) (fun h19 => ?_)
    · have p19 := h19; try simp only [bs] at p19
      refine Run.seq ?_
      refine Run.region ?_
      refine Run.q (v := .agg #[.int .i64 0, .int .i64 0, .int .i64 0, .int .i64 0]) rfl (OpQ.y (OpY.build (cs := [.int .i64 0, .int .i64 0, .int .i64 0, .int .i64 0]) (by kernel_rfl))) ?_
      refine Run.step rfl (OpStep.storeAll (us := [.int .i64 0, .int .i64 0, .int .i64 0, .int .i64 0]) Tsize_56 rfl rfl rfl (.there _ (.there _ (.there _ (.here _)))) rfl ?_)
      refine Run.q (v := .bool false) rfl (OpQ.y (OpY.pure rfl)) ?_
      refine Run.done ?_
      refine Run.ret ?_
      refine ⟨.tuple #[.agg #[.int .i64 0, .int .i64 0, .int .i64 0, .int .i64 0], .bool false], [], Out.cell2 (cs := [.int .i64 0, .int .i64 0, .int .i64 0, .int .i64 0]) rfl Tagg_56 rfl (Cells.blk (.tail _ (.tail _ (.tail _ (List.Mem.head _)))) ⟨rfl, rfl, rfl, rfl, trivial⟩) rfl, (Some'.weak (.nil _)), ?_⟩
      exact ⟨by show _ = _; simp_all [rifV, rifB, R4.zero], rfl⟩
    · have p19 := h19; try simp only [bs] at p19
      refine Run.skip ?_
      refine Run.blockEnd ?_
      refine Run.region ?_
      refine Run.q (v := .int .i64 2) rfl (OpQ.y (OpY.pure rfl)) ?_
      refine Run.q (v := .int .i64 2) rfl (OpQ.y (OpY.pure rfl)) ?_
      refine Run.done ?_
      refine Run.again ?_
      refine Run.seq ?_
      refine Run.region ?_
      refine Run.q (v := .bool false) rfl (OpQ.y (OpY.pure rfl)) ?_
      refine Run.done ?_
      refine Run.seq ?_
      refine Run.cond (b := false) rfl (fun h => nomatch h) (fun _ => ?_)
      refine Run.exit rfl ?_
      refine Run.seq ?_
      refine Run.region ?_
      refine Run.q (v := .agg #[.int .i64 (y.a), .int .i64 (y.b), .int .i64 (y.c), .int .i64 (y.d)]) rfl (OpQ.y (OpY.loadN (cs := [.int .i64 (y.a), .int .i64 (y.b), .int .i64 (y.c), .int .i64 (y.d)]) Tagg_56 rfl (Cells.blk (.tail _ (.tail _ (.tail _ (.tail _ (List.Mem.head _))))) ⟨rfl, rfl, rfl, rfl, trivial⟩))) ?_
      refine Run.step rfl (OpStep.storeAll (us := [.int .i64 (y.a), .int .i64 (y.b), .int .i64 (y.c), .int .i64 (y.d)]) Tsize_56 rfl rfl rfl (.there _ (.there _ (.there _ (.here _)))) rfl ?_)
      refine Run.q (v := .bool true) rfl (OpQ.y (OpY.pure rfl)) ?_
      refine Run.done ?_
      refine Run.ret ?_
      refine ⟨.tuple #[.agg #[.int .i64 (y.a), .int .i64 (y.b), .int .i64 (y.c), .int .i64 (y.d)], .bool true], [], Out.cell2 (cs := [.int .i64 (y.a), .int .i64 (y.b), .int .i64 (y.c), .int .i64 (y.d)]) rfl Tagg_56 rfl (Cells.blk (.tail _ (.tail _ (.tail _ (List.Mem.head _)))) ⟨rfl, rfl, rfl, rfl, trivial⟩) rfl, (Some'.weak (.nil _)), ?_⟩
      exact ⟨by show _ = _; simp_all [rifV, rifB, R4.zero], rfl⟩

set_option maxHeartbeats 1000000 in
set_option maxRecDepth 20000 in
theorem MulRootTwo_spec {x : R4} {w : World} (hx : Lim x) : Calls Try.prog 54 #[.agg #[.int .i64 (x.a), .int .i64 (x.b), .int .i64 (x.c), .int .i64 (x.d)]] w (Post No w fun v _ => v = .tuple #[.agg #[.int .i64 ((rifV x (rtR x)).a), .int .i64 ((rifV x (rtR x)).b), .int .i64 ((rifV x (rtR x)).c), .int .i64 ((rifV x (rtR x)).d)], .bool (rifB x (rtR x))]) := by
  obtain ⟨⟨⟨hA, hA2⟩, hB, hB2⟩, ⟨hC, hC2⟩, hD, hD2⟩ := hx
  refine enter (n := 30) (args := [.agg #[.int .i64 (x.a), .int .i64 (x.b), .int .i64 (x.c), .int .i64 (x.d)]]) Try.func54 rfl rfl (St.empty _ _) ?_
  refine Run.seq ?_
  refine Run.region ?_
  refine Run.step rfl (OpStep.box (us := [.int .i64 (x.a), .int .i64 (x.b), .int .i64 (x.c), .int .i64 (x.d)]) rfl fun b1 => ?_)
  refine Run.step rfl (OpStep.alloc (zs := [.int .i64 0, .int .i64 0, .int .i64 0, .int .i64 0]) Tzero_56 fun b2 => ?_)
  refine Run.q (v := .bool false) rfl (OpQ.y (OpY.pure rfl)) ?_
  refine Run.done ?_
  refine Run.seq ?_
  refine Run.region ?_
  refine Run.q (v := .pointer (some ⟨b1, 1, none⟩)) rfl (OpQ.y (OpY.fieldAddr Tfo_56_1 rfl rfl)) ?_
  refine Run.q (v := .int .i64 (x.b)) rfl (OpQ.y (OpY.load1 Tone_3 rfl (Cells.blk (.tail _ (List.Mem.head _)) ⟨rfl, trivial⟩))) ?_
  refine Run.q (v := .pointer (some ⟨b1, 3, none⟩)) rfl (OpQ.y (OpY.fieldAddr Tfo_56_3 rfl rfl)) ?_
  refine Run.q (v := .int .i64 (x.d)) rfl (OpQ.y (OpY.load1 Tone_3 rfl (Cells.blk (.tail _ (List.Mem.head _)) ⟨rfl, trivial⟩))) ?_
  refine Run.q (v := .int .i64 ((x.b) - (x.d))) rfl (OpQ.y (OpY.sub rfl rfl rfl (by omega) (by omega))) ?_
  refine Run.q (v := .pointer (some ⟨b1, 0, none⟩)) rfl (OpQ.y (OpY.fieldAddr Tfo_56_0 rfl rfl)) ?_
  refine Run.q (v := .int .i64 (x.a)) rfl (OpQ.y (OpY.load1 Tone_3 rfl (Cells.blk (.tail _ (List.Mem.head _)) ⟨rfl, trivial⟩))) ?_
  refine Run.q (v := .pointer (some ⟨b1, 2, none⟩)) rfl (OpQ.y (OpY.fieldAddr Tfo_56_2 rfl rfl)) ?_
  refine Run.q (v := .int .i64 (x.c)) rfl (OpQ.y (OpY.load1 Tone_3 rfl (Cells.blk (.tail _ (List.Mem.head _)) ⟨rfl, trivial⟩))) ?_
  refine Run.q (v := .int .i64 ((x.a) + (x.c))) rfl (OpQ.y (OpY.add rfl rfl rfl (by omega) (by omega))) ?_
  refine Run.q (v := .pointer (some ⟨b1, 1, none⟩)) rfl (OpQ.y (OpY.fieldAddr Tfo_56_1 rfl rfl)) ?_
  refine Run.q (v := .int .i64 (x.b)) rfl (OpQ.y (OpY.load1 Tone_3 rfl (Cells.blk (.tail _ (List.Mem.head _)) ⟨rfl, trivial⟩))) ?_
  refine Run.q (v := .pointer (some ⟨b1, 3, none⟩)) rfl (OpQ.y (OpY.fieldAddr Tfo_56_3 rfl rfl)) ?_
  refine Run.q (v := .int .i64 (x.d)) rfl (OpQ.y (OpY.load1 Tone_3 rfl (Cells.blk (.tail _ (List.Mem.head _)) ⟨rfl, trivial⟩))) ?_
  refine Run.q (v := .int .i64 ((x.b) + (x.d))) rfl (OpQ.y (OpY.add rfl rfl rfl (by omega) (by omega))) ?_
  refine Run.q (v := .pointer (some ⟨b1, 2, none⟩)) rfl (OpQ.y (OpY.fieldAddr Tfo_56_2 rfl rfl)) ?_
  refine Run.q (v := .int .i64 (x.c)) rfl (OpQ.y (OpY.load1 Tone_3 rfl (Cells.blk (.tail _ (List.Mem.head _)) ⟨rfl, trivial⟩))) ?_
  refine Run.q (v := .pointer (some ⟨b1, 0, none⟩)) rfl (OpQ.y (OpY.fieldAddr Tfo_56_0 rfl rfl)) ?_
  refine Run.q (v := .int .i64 (x.a)) rfl (OpQ.y (OpY.load1 Tone_3 rfl (Cells.blk (.tail _ (List.Mem.head _)) ⟨rfl, trivial⟩))) ?_
  refine Run.q (v := .int .i64 ((x.c) - (x.a))) rfl (OpQ.y (OpY.sub rfl rfl rfl (by omega) (by omega))) ?_
  refine Run.q (v := .agg #[.int .i64 ((x.b) - (x.d)), .int .i64 ((x.a) + (x.c)), .int .i64 ((x.b) + (x.d)), .int .i64 ((x.c) - (x.a))]) rfl (OpQ.y (OpY.build (cs := [.int .i64 ((x.b) - (x.d)), .int .i64 ((x.a) + (x.c)), .int .i64 ((x.b) + (x.d)), .int .i64 ((x.c) - (x.a))]) (by kernel_rfl))) ?_
  refine Run.q (v := .agg #[.int .i64 (x.a), .int .i64 (x.b), .int .i64 (x.c), .int .i64 (x.d)]) rfl (OpQ.y (OpY.loadN (cs := [.int .i64 (x.a), .int .i64 (x.b), .int .i64 (x.c), .int .i64 (x.d)]) Tagg_56 rfl (Cells.blk (.tail _ (List.Mem.head _)) ⟨rfl, rfl, rfl, rfl, trivial⟩))) ?_
  refine Run.step rfl (OpStep.buildSlice (us := [.int .i64 (x.a), .int .i64 (x.b), .int .i64 (x.c), .int .i64 (x.d)]) Tsl_49 (by decide) (by decide) ⟨rfl, [.int .i64 (x.a), .int .i64 (x.b), .int .i64 (x.c), .int .i64 (x.d)], _, rfl, rfl, rfl, rfl⟩ rfl fun b3 => ?_)
  refine Run.step rfl (OpStep.callM (H1 := [.own (.slice (some ⟨b3, 0, none⟩) 1 1) 56 4 1 (ints [x.a, x.b, x.c, x.d])]) (H2 := [.blk b2 56 [.int .i64 0, .int .i64 0, .int .i64 0, .int .i64 0], .blk b1 56 [.int .i64 (x.a), .int .i64 (x.b), .int .i64 (x.c), .int .i64 (x.d)]]) (vs := [.agg #[.int .i64 ((x.b) - (x.d)), .int .i64 ((x.a) + (x.c)), .int .i64 ((x.b) + (x.d)), .int .i64 ((x.c) - (x.a))], .slice (some ⟨b3, 0, none⟩) 1 1]) (caps := []) Tcall_64 rfl rfl (Weak.refl _) (fun w hs => ringIf_spec (x := x) (y := rtR x) (hs.holds _ (.head _))) ?_)
  rintro _ _ ⟨rfl, rfl⟩
  show Run _ _ (putF _ _ _ (.tuple #[.agg #[.int .i64 ((rifV x (rtR x)).a), .int .i64 ((rifV x (rtR x)).b), .int .i64 ((rifV x (rtR x)).c), .int .i64 ((rifV x (rtR x)).d)], .bool (rifB x (rtR x))])) [.blk b2 56 [.int .i64 0, .int .i64 0, .int .i64 0, .int .i64 0], .blk b1 56 [.int .i64 (x.a), .int .i64 (x.b), .int .i64 (x.c), .int .i64 (x.d)]]
  refine Run.q (v := .agg #[.int .i64 ((rifV x (rtR x)).a), .int .i64 ((rifV x (rtR x)).b), .int .i64 ((rifV x (rtR x)).c), .int .i64 ((rifV x (rtR x)).d)]) rfl (OpQ.y (OpY.pure rfl)) ?_
  refine Run.q (v := .bool (rifB x (rtR x))) rfl (OpQ.y (OpY.pure rfl)) ?_
  refine Run.step rfl (OpStep.storeAll (us := [.int .i64 ((rifV x (rtR x)).a), .int .i64 ((rifV x (rtR x)).b), .int .i64 ((rifV x (rtR x)).c), .int .i64 ((rifV x (rtR x)).d)]) Tsize_56 rfl rfl rfl (.here _) rfl ?_)
  refine Run.q (v := .bool (rifB x (rtR x))) rfl (OpQ.y (OpY.pure rfl)) ?_
  refine Run.done ?_
  refine Run.ret ?_
  refine ⟨.tuple #[.agg #[.int .i64 ((rifV x (rtR x)).a), .int .i64 ((rifV x (rtR x)).b), .int .i64 ((rifV x (rtR x)).c), .int .i64 ((rifV x (rtR x)).d)], .bool (rifB x (rtR x))], [], Out.cell2 (cs := [.int .i64 ((rifV x (rtR x)).a), .int .i64 ((rifV x (rtR x)).b), .int .i64 ((rifV x (rtR x)).c), .int .i64 ((rifV x (rtR x)).d)]) rfl Tagg_56 rfl (Cells.blk (.head _) ⟨rfl, rfl, rfl, rfl, trivial⟩) rfl, (Some'.weak (.nil _)), ?_⟩
  rfl

set_option maxHeartbeats 1000000 in
set_option maxRecDepth 20000 in
theorem isEven_spec {x : R4} {w : World} (hx : Lim x) : Calls Try.prog 55 #[.agg #[.int .i64 (x.a), .int .i64 (x.b), .int .i64 (x.c), .int .i64 (x.d)]] w (Post No w fun v _ => v = .bool (evR x)) := by
  obtain ⟨⟨⟨hA, hA2⟩, hB, hB2⟩, ⟨hC, hC2⟩, hD, hD2⟩ := hx
  refine enter (n := 19) (args := [.agg #[.int .i64 (x.a), .int .i64 (x.b), .int .i64 (x.c), .int .i64 (x.d)]]) Try.func55 rfl rfl (St.empty _ _) ?_
  refine Run.seq ?_
  refine Run.region ?_
  refine Run.step rfl (OpStep.box (us := [.int .i64 (x.a), .int .i64 (x.b), .int .i64 (x.c), .int .i64 (x.d)]) rfl fun b1 => ?_)
  refine Run.q (v := .bool false) rfl (OpQ.y (OpY.pure rfl)) ?_
  refine Run.done ?_
  refine Run.seq ?_
  refine Run.region ?_
  refine Run.q (v := .pointer (some ⟨b1, 0, none⟩)) rfl (OpQ.y (OpY.fieldAddr Tfo_56_0 rfl rfl)) ?_
  refine Run.q (v := .int .i64 (x.a)) rfl (OpQ.y (OpY.load1 Tone_3 rfl (Cells.blk (.head _) ⟨rfl, trivial⟩))) ?_
  refine Run.q (v := .pointer (some ⟨b1, 2, none⟩)) rfl (OpQ.y (OpY.fieldAddr Tfo_56_2 rfl rfl)) ?_
  refine Run.q (v := .int .i64 (x.c)) rfl (OpQ.y (OpY.load1 Tone_3 rfl (Cells.blk (.head _) ⟨rfl, trivial⟩))) ?_
  refine Run.q (v := .int .i64 ((x.a) + (x.c))) rfl (OpQ.y (OpY.add rfl rfl rfl (by omega) (by omega))) ?_
  refine Run.q (v := .int .i64 (((x.a) + (x.c)).tmod 2)) rfl (OpQ.y (OpY.remI rfl rfl (by decide))) ?_
  refine Run.q (v := .bool ((((x.a) + (x.c)).tmod 2) == 0)) rfl (OpQ.y (OpY.pure rfl)) ?_
  rcases Bool.eq_false_or_eq_true ((((x.a) + (x.c)).tmod 2) == 0) with h10 | h10
  · refine Run.q (v := .bool true) rfl (OpQ.y (OpY.moveB rfl h10)) ?_
    have p10 := h10; try simp only [bs] at p10
    refine Run.q (v := .pointer (some ⟨b1, 1, none⟩)) rfl (OpQ.y (OpY.fieldAddr Tfo_56_1 rfl rfl)) ?_
    refine Run.q (v := .int .i64 (x.b)) rfl (OpQ.y (OpY.load1 Tone_3 rfl (Cells.blk (.head _) ⟨rfl, trivial⟩))) ?_
    refine Run.q (v := .pointer (some ⟨b1, 3, none⟩)) rfl (OpQ.y (OpY.fieldAddr Tfo_56_3 rfl rfl)) ?_
    refine Run.q (v := .int .i64 (x.d)) rfl (OpQ.y (OpY.load1 Tone_3 rfl (Cells.blk (.head _) ⟨rfl, trivial⟩))) ?_
    refine Run.q (v := .int .i64 ((x.b) + (x.d))) rfl (OpQ.y (OpY.add rfl rfl rfl (by omega) (by omega))) ?_
    refine Run.q (v := .int .i64 (((x.b) + (x.d)).tmod 2)) rfl (OpQ.y (OpY.remI rfl rfl (by decide))) ?_
    refine Run.q (v := .bool ((((x.b) + (x.d)).tmod 2) == 0)) rfl (OpQ.y (OpY.pure rfl)) ?_
    refine Run.q (v := .bool ((((x.b) + (x.d)).tmod 2) == 0)) rfl (OpQ.y (OpY.pure rfl)) ?_
    refine Run.q (v := .bool ((((x.b) + (x.d)).tmod 2) == 0)) rfl (OpQ.y (OpY.pure rfl)) ?_
    refine Run.done ?_
    refine Run.ret ?_
    refine ⟨.bool ((((x.b) + (x.d)).tmod 2) == 0), [], Out.one rfl rfl, (Some'.weak (.nil _)), ?_⟩
    show _ = _; simp_all [evR]
  · refine Run.q (v := .bool false) rfl (OpQ.y (OpY.moveB rfl h10)) ?_
    have p10 := h10; try simp only [bs] at p10
    refine Run.pass rfl ?_
    refine Run.pass rfl ?_
    refine Run.pass rfl ?_
    refine Run.pass rfl ?_
    refine Run.pass rfl ?_
    refine Run.pass rfl ?_
    refine Run.pass rfl ?_
    refine Run.q (v := .bool false) rfl (OpQ.y (OpY.pure rfl)) ?_
    refine Run.q (v := .bool false) rfl (OpQ.y (OpY.pure rfl)) ?_
    refine Run.done ?_
    refine Run.ret ?_
    refine ⟨.bool false, [], Out.one rfl rfl, (Some'.weak (.nil _)), ?_⟩
    show _ = _; simp_all [evR]

set_option maxHeartbeats 1000000 in
set_option maxRecDepth 20000 in
theorem DivRootTwo_spec {x : R4} {w : World} (hg : gdR x = true) (he : evR x = true) : Calls Try.prog 56 #[.agg #[.int .i64 (x.a), .int .i64 (x.b), .int .i64 (x.c), .int .i64 (x.d)]] w (Post No w fun v _ => v = .tuple #[.agg #[.int .i64 ((hfR x).a), .int .i64 ((hfR x).b), .int .i64 ((hfR x).c), .int .i64 ((hfR x).d)], .bool true]) := by
  have hx := gd_lim hg
  have hh := hfR_good hg
  obtain ⟨⟨⟨hA, hA2⟩, hB, hB2⟩, ⟨hC, hC2⟩, hD, hD2⟩ := hx
  have hv : rifV x (hfR x) = hfR x := by rw [rifV, rifB, hg, hh]; rfl
  have hb : rifB x (hfR x) = true := by rw [rifB, hg, hh]; rfl
  refine enter (n := 43) (args := [.agg #[.int .i64 (x.a), .int .i64 (x.b), .int .i64 (x.c), .int .i64 (x.d)]]) Try.func56 rfl rfl (St.empty _ _) ?_
  refine Run.seq ?_
  refine Run.region ?_
  refine Run.step rfl (OpStep.box (us := [.int .i64 (x.a), .int .i64 (x.b), .int .i64 (x.c), .int .i64 (x.d)]) rfl fun b1 => ?_)
  refine Run.step rfl (OpStep.alloc (zs := [.int .i64 0, .int .i64 0, .int .i64 0, .int .i64 0]) Tzero_56 fun b2 => ?_)
  refine Run.q (v := .bool false) rfl (OpQ.y (OpY.pure rfl)) ?_
  refine Run.done ?_
  refine Run.seq ?_
  refine Run.seq ?_
  refine Run.region ?_
  refine Run.q (v := .agg #[.int .i64 (x.a), .int .i64 (x.b), .int .i64 (x.c), .int .i64 (x.d)]) rfl (OpQ.y (OpY.loadN (cs := [.int .i64 (x.a), .int .i64 (x.b), .int .i64 (x.c), .int .i64 (x.d)]) Tagg_56 rfl (Cells.blk (.tail _ (List.Mem.head _)) ⟨rfl, rfl, rfl, rfl, trivial⟩))) ?_
  refine Run.q (v := .bool true) rfl (OpQ.call (vs := [.agg #[.int .i64 (x.a), .int .i64 (x.b), .int .i64 (x.c), .int .i64 (x.d)]]) (caps := []) Tcall_65 rfl rfl (fun w hs => (by have h := IsValidRing_spec x w; rw [hg] at h; exact h))) ?_
  refine Run.q (v := .bool false) rfl (OpQ.y (OpY.pure rfl)) ?_
  refine Run.q (v := .bool false) rfl (OpQ.y (OpY.pure rfl)) ?_
  refine Run.q (v := .agg #[.int .i64 (x.a), .int .i64 (x.b), .int .i64 (x.c), .int .i64 (x.d)]) rfl (OpQ.y (OpY.loadN (cs := [.int .i64 (x.a), .int .i64 (x.b), .int .i64 (x.c), .int .i64 (x.d)]) Tagg_56 rfl (Cells.blk (.tail _ (List.Mem.head _)) ⟨rfl, rfl, rfl, rfl, trivial⟩))) ?_
  refine Run.q (v := .bool true) rfl (OpQ.call (vs := [.agg #[.int .i64 (x.a), .int .i64 (x.b), .int .i64 (x.c), .int .i64 (x.d)]]) (caps := []) Tcall_55 rfl rfl (fun w hs => (by have h := isEven_spec (w := w) (gd_lim hg); rw [he] at h; exact h))) ?_
  refine Run.q (v := .bool false) rfl (OpQ.y (OpY.pure rfl)) ?_
  refine Run.q (v := .bool false) rfl (OpQ.y (OpY.pure rfl)) ?_
  refine Run.done ?_
  refine Run.cond (b := false) rfl (fun h => nomatch h) (fun _ => ?_)
  refine Run.skip ?_
  refine Run.seq ?_
  refine Run.region ?_
  refine Run.q (v := .pointer (some ⟨b1, 1, none⟩)) rfl (OpQ.y (OpY.fieldAddr Tfo_56_1 rfl rfl)) ?_
  refine Run.q (v := .int .i64 (x.b)) rfl (OpQ.y (OpY.load1 Tone_3 rfl (Cells.blk (.tail _ (List.Mem.head _)) ⟨rfl, trivial⟩))) ?_
  refine Run.q (v := .pointer (some ⟨b1, 3, none⟩)) rfl (OpQ.y (OpY.fieldAddr Tfo_56_3 rfl rfl)) ?_
  refine Run.q (v := .int .i64 (x.d)) rfl (OpQ.y (OpY.load1 Tone_3 rfl (Cells.blk (.tail _ (List.Mem.head _)) ⟨rfl, trivial⟩))) ?_
  refine Run.q (v := .int .i64 ((x.b) - (x.d))) rfl (OpQ.y (OpY.sub rfl rfl rfl (by omega) (by omega))) ?_
  refine Run.q (v := .int .i64 (((x.b) - (x.d)).tdiv 2)) rfl (OpQ.y (OpY.quoR rfl rfl (by omega))) ?_
  refine Run.q (v := .pointer (some ⟨b1, 0, none⟩)) rfl (OpQ.y (OpY.fieldAddr Tfo_56_0 rfl rfl)) ?_
  refine Run.q (v := .int .i64 (x.a)) rfl (OpQ.y (OpY.load1 Tone_3 rfl (Cells.blk (.tail _ (List.Mem.head _)) ⟨rfl, trivial⟩))) ?_
  refine Run.q (v := .pointer (some ⟨b1, 2, none⟩)) rfl (OpQ.y (OpY.fieldAddr Tfo_56_2 rfl rfl)) ?_
  refine Run.q (v := .int .i64 (x.c)) rfl (OpQ.y (OpY.load1 Tone_3 rfl (Cells.blk (.tail _ (List.Mem.head _)) ⟨rfl, trivial⟩))) ?_
  refine Run.q (v := .int .i64 ((x.a) + (x.c))) rfl (OpQ.y (OpY.add rfl rfl rfl (by omega) (by omega))) ?_
  refine Run.q (v := .int .i64 (((x.a) + (x.c)).tdiv 2)) rfl (OpQ.y (OpY.quoR rfl rfl (by omega))) ?_
  refine Run.q (v := .pointer (some ⟨b1, 1, none⟩)) rfl (OpQ.y (OpY.fieldAddr Tfo_56_1 rfl rfl)) ?_
  refine Run.q (v := .int .i64 (x.b)) rfl (OpQ.y (OpY.load1 Tone_3 rfl (Cells.blk (.tail _ (List.Mem.head _)) ⟨rfl, trivial⟩))) ?_
  refine Run.q (v := .pointer (some ⟨b1, 3, none⟩)) rfl (OpQ.y (OpY.fieldAddr Tfo_56_3 rfl rfl)) ?_
  refine Run.q (v := .int .i64 (x.d)) rfl (OpQ.y (OpY.load1 Tone_3 rfl (Cells.blk (.tail _ (List.Mem.head _)) ⟨rfl, trivial⟩))) ?_
  refine Run.q (v := .int .i64 ((x.b) + (x.d))) rfl (OpQ.y (OpY.add rfl rfl rfl (by omega) (by omega))) ?_
  refine Run.q (v := .int .i64 (((x.b) + (x.d)).tdiv 2)) rfl (OpQ.y (OpY.quoR rfl rfl (by omega))) ?_
  refine Run.q (v := .pointer (some ⟨b1, 2, none⟩)) rfl (OpQ.y (OpY.fieldAddr Tfo_56_2 rfl rfl)) ?_
  refine Run.q (v := .int .i64 (x.c)) rfl (OpQ.y (OpY.load1 Tone_3 rfl (Cells.blk (.tail _ (List.Mem.head _)) ⟨rfl, trivial⟩))) ?_
  refine Run.q (v := .pointer (some ⟨b1, 0, none⟩)) rfl (OpQ.y (OpY.fieldAddr Tfo_56_0 rfl rfl)) ?_
  refine Run.q (v := .int .i64 (x.a)) rfl (OpQ.y (OpY.load1 Tone_3 rfl (Cells.blk (.tail _ (List.Mem.head _)) ⟨rfl, trivial⟩))) ?_
  refine Run.q (v := .int .i64 ((x.c) - (x.a))) rfl (OpQ.y (OpY.sub rfl rfl rfl (by omega) (by omega))) ?_
  refine Run.q (v := .int .i64 (((x.c) - (x.a)).tdiv 2)) rfl (OpQ.y (OpY.quoR rfl rfl (by omega))) ?_
  refine Run.q (v := .agg #[.int .i64 (((x.b) - (x.d)).tdiv 2), .int .i64 (((x.a) + (x.c)).tdiv 2), .int .i64 (((x.b) + (x.d)).tdiv 2), .int .i64 (((x.c) - (x.a)).tdiv 2)]) rfl (OpQ.y (OpY.build (cs := [.int .i64 (((x.b) - (x.d)).tdiv 2), .int .i64 (((x.a) + (x.c)).tdiv 2), .int .i64 (((x.b) + (x.d)).tdiv 2), .int .i64 (((x.c) - (x.a)).tdiv 2)]) (by kernel_rfl))) ?_
  refine Run.q (v := .agg #[.int .i64 (x.a), .int .i64 (x.b), .int .i64 (x.c), .int .i64 (x.d)]) rfl (OpQ.y (OpY.loadN (cs := [.int .i64 (x.a), .int .i64 (x.b), .int .i64 (x.c), .int .i64 (x.d)]) Tagg_56 rfl (Cells.blk (.tail _ (List.Mem.head _)) ⟨rfl, rfl, rfl, rfl, trivial⟩))) ?_
  refine Run.step rfl (OpStep.buildSlice (us := [.int .i64 (x.a), .int .i64 (x.b), .int .i64 (x.c), .int .i64 (x.d)]) Tsl_49 (by decide) (by decide) ⟨rfl, [.int .i64 (x.a), .int .i64 (x.b), .int .i64 (x.c), .int .i64 (x.d)], _, rfl, rfl, rfl, rfl⟩ rfl fun b3 => ?_)
  refine Run.step rfl (OpStep.callM (H1 := [.own (.slice (some ⟨b3, 0, none⟩) 1 1) 56 4 1 (ints [x.a, x.b, x.c, x.d])]) (H2 := [.blk b2 56 [.int .i64 0, .int .i64 0, .int .i64 0, .int .i64 0], .blk b1 56 [.int .i64 (x.a), .int .i64 (x.b), .int .i64 (x.c), .int .i64 (x.d)]]) (vs := [.agg #[.int .i64 (((x.b) - (x.d)).tdiv 2), .int .i64 (((x.a) + (x.c)).tdiv 2), .int .i64 (((x.b) + (x.d)).tdiv 2), .int .i64 (((x.c) - (x.a)).tdiv 2)], .slice (some ⟨b3, 0, none⟩) 1 1]) (caps := []) Tcall_64 rfl rfl (Weak.refl _) (fun w hs => (by have h := ringIf_spec (x := x) (y := hfR x) (hs.holds _ (.head _)); rw [hv, hb] at h; exact h)) ?_)
  rintro _ _ ⟨rfl, rfl⟩
  show Run _ _ (putF _ _ _ (.tuple #[.agg #[.int .i64 ((hfR x).a), .int .i64 ((hfR x).b), .int .i64 ((hfR x).c), .int .i64 ((hfR x).d)], .bool true])) [.blk b2 56 [.int .i64 0, .int .i64 0, .int .i64 0, .int .i64 0], .blk b1 56 [.int .i64 (x.a), .int .i64 (x.b), .int .i64 (x.c), .int .i64 (x.d)]]
  refine Run.q (v := .agg #[.int .i64 ((hfR x).a), .int .i64 ((hfR x).b), .int .i64 ((hfR x).c), .int .i64 ((hfR x).d)]) rfl (OpQ.y (OpY.pure rfl)) ?_
  refine Run.q (v := .bool true) rfl (OpQ.y (OpY.pure rfl)) ?_
  refine Run.step rfl (OpStep.storeAll (us := [.int .i64 ((hfR x).a), .int .i64 ((hfR x).b), .int .i64 ((hfR x).c), .int .i64 ((hfR x).d)]) Tsize_56 rfl rfl rfl (.here _) rfl ?_)
  refine Run.q (v := .bool true) rfl (OpQ.y (OpY.pure rfl)) ?_
  refine Run.done ?_
  refine Run.ret ?_
  refine ⟨.tuple #[.agg #[.int .i64 ((hfR x).a), .int .i64 ((hfR x).b), .int .i64 ((hfR x).c), .int .i64 ((hfR x).d)], .bool true], [], Out.cell2 (cs := [.int .i64 ((hfR x).a), .int .i64 ((hfR x).b), .int .i64 ((hfR x).c), .int .i64 ((hfR x).d)]) rfl Tagg_56 rfl (Cells.blk (.head _) ⟨rfl, rfl, rfl, rfl, trivial⟩) rfl, (Some'.weak (.nil _)), ?_⟩
  rfl

set_option maxHeartbeats 1000000 in
set_option maxRecDepth 20000 in
theorem IsValidDyadic_spec {x : R4} {e : Int} {w : World} (hx : Lim x) : Calls Try.prog 57 #[.agg #[.int .i64 (x.a), .int .i64 (x.b), .int .i64 (x.c), .int .i64 (x.d), .int .i64 e]] w (Post No w fun v _ => v = .bool ((gdR x && within e 0 60) && ((e == 0) || !evR x))) := by
  refine enter (n := 22) (args := [.agg #[.int .i64 (x.a), .int .i64 (x.b), .int .i64 (x.c), .int .i64 (x.d), .int .i64 e]]) Try.func57 rfl rfl (St.empty _ _) ?_
  refine Run.seq ?_
  refine Run.region ?_
  refine Run.step rfl (OpStep.box (us := [.int .i64 (x.a), .int .i64 (x.b), .int .i64 (x.c), .int .i64 (x.d), .int .i64 e]) rfl fun b1 => ?_)
  refine Run.q (v := .bool false) rfl (OpQ.y (OpY.pure rfl)) ?_
  refine Run.done ?_
  refine Run.seq ?_
  refine Run.region ?_
  refine Run.q (v := .pointer (some ⟨b1, 0, none⟩)) rfl (OpQ.y (OpY.fieldAddr Tfo_61_0 rfl rfl)) ?_
  refine Run.q (v := .agg #[.int .i64 (x.a), .int .i64 (x.b), .int .i64 (x.c), .int .i64 (x.d)]) rfl (OpQ.y (OpY.loadN (cs := [.int .i64 (x.a), .int .i64 (x.b), .int .i64 (x.c), .int .i64 (x.d)]) Tagg_56 rfl (Cells.blk (.head _) ⟨rfl, rfl, rfl, rfl, trivial⟩))) ?_
  refine Run.q (v := .bool (gdR x)) rfl (OpQ.call (vs := [.agg #[.int .i64 (x.a), .int .i64 (x.b), .int .i64 (x.c), .int .i64 (x.d)]]) (caps := []) Tcall_65 rfl rfl (fun w hs => IsValidRing_spec x w)) ?_
  rcases Bool.eq_false_or_eq_true (gdR x) with h6 | h6
  · refine Run.q (v := .bool true) rfl (OpQ.y (OpY.moveB rfl h6)) ?_
    have p6 := h6; try simp only [bs] at p6
    refine Run.q (v := .pointer (some ⟨b1, 4, none⟩)) rfl (OpQ.y (OpY.fieldAddr Tfo_61_1 rfl rfl)) ?_
    refine Run.q (v := .int .i64 e) rfl (OpQ.y (OpY.load1 Tone_3 rfl (Cells.blk (.head _) ⟨rfl, trivial⟩))) ?_
    refine Run.q (v := .bool (within e 0 60)) rfl (OpQ.call (vs := [.int .i64 e, .int .i64 0, .int .i64 60]) (caps := []) Tcall_47 rfl rfl (fun w hs => within_spec _ _ _ w)) ?_
    refine Run.q (v := .bool (within e 0 60)) rfl (OpQ.y (OpY.pure rfl)) ?_
    rcases Bool.eq_false_or_eq_true (within e 0 60) with h11 | h11
    · refine Run.q (v := .bool true) rfl (OpQ.y (OpY.moveB rfl h11)) ?_
      have p11 := h11; try simp only [bs] at p11
      refine Run.q (v := .pointer (some ⟨b1, 4, none⟩)) rfl (OpQ.y (OpY.fieldAddr Tfo_61_1 rfl rfl)) ?_
      refine Run.q (v := .int .i64 e) rfl (OpQ.y (OpY.load1 Tone_3 rfl (Cells.blk (.head _) ⟨rfl, trivial⟩))) ?_
      refine Run.q (v := .bool (e == 0)) rfl (OpQ.y (OpY.pure rfl)) ?_
      rcases Bool.eq_false_or_eq_true (e == 0) with h15 | h15
      · refine Run.q (v := .bool true) rfl (OpQ.y (OpY.moveB rfl h15)) ?_
        have p15 := h15; try simp only [bs] at p15
        refine Run.pass rfl ?_
        refine Run.pass rfl ?_
        refine Run.pass rfl ?_
        refine Run.pass rfl ?_
        refine Run.q (v := .bool true) rfl (OpQ.y (OpY.pure rfl)) ?_
        refine Run.q (v := .bool true) rfl (OpQ.y (OpY.pure rfl)) ?_
        refine Run.q (v := .bool true) rfl (OpQ.y (OpY.pure rfl)) ?_
        refine Run.done ?_
        refine Run.ret ?_
        refine ⟨.bool true, [], Out.one rfl rfl, (Some'.weak (.nil _)), ?_⟩
        show _ = _; simp_all
      · refine Run.q (v := .bool false) rfl (OpQ.y (OpY.moveB rfl h15)) ?_
        have p15 := h15; try simp only [bs] at p15
        refine Run.q (v := .pointer (some ⟨b1, 0, none⟩)) rfl (OpQ.y (OpY.fieldAddr Tfo_61_0 rfl rfl)) ?_
        refine Run.q (v := .agg #[.int .i64 (x.a), .int .i64 (x.b), .int .i64 (x.c), .int .i64 (x.d)]) rfl (OpQ.y (OpY.loadN (cs := [.int .i64 (x.a), .int .i64 (x.b), .int .i64 (x.c), .int .i64 (x.d)]) Tagg_56 rfl (Cells.blk (.head _) ⟨rfl, rfl, rfl, rfl, trivial⟩))) ?_
        refine Run.q (v := .bool (evR x)) rfl (OpQ.call (vs := [.agg #[.int .i64 (x.a), .int .i64 (x.b), .int .i64 (x.c), .int .i64 (x.d)]]) (caps := []) Tcall_55 rfl rfl (fun w hs => isEven_spec hx)) ?_
        refine Run.q (v := .bool (!(evR x))) rfl (OpQ.y (OpY.pure rfl)) ?_
        refine Run.q (v := .bool (!(evR x))) rfl (OpQ.y (OpY.pure rfl)) ?_
        refine Run.q (v := .bool (!(evR x))) rfl (OpQ.y (OpY.pure rfl)) ?_
        refine Run.q (v := .bool (!(evR x))) rfl (OpQ.y (OpY.pure rfl)) ?_
        refine Run.done ?_
        refine Run.ret ?_
        refine ⟨.bool (!(evR x)), [], Out.one rfl rfl, (Some'.weak (.nil _)), ?_⟩
        show _ = _; simp_all
    · refine Run.q (v := .bool false) rfl (OpQ.y (OpY.moveB rfl h11)) ?_
      have p11 := h11; try simp only [bs] at p11
      refine Run.pass rfl ?_
      refine Run.pass rfl ?_
      refine Run.pass rfl ?_
      refine Run.pass rfl ?_
      refine Run.pass rfl ?_
      refine Run.pass rfl ?_
      refine Run.pass rfl ?_
      refine Run.pass rfl ?_
      refine Run.pass rfl ?_
      refine Run.q (v := .bool false) rfl (OpQ.y (OpY.pure rfl)) ?_
      refine Run.q (v := .bool false) rfl (OpQ.y (OpY.pure rfl)) ?_
      refine Run.done ?_
      refine Run.ret ?_
      refine ⟨.bool false, [], Out.one rfl rfl, (Some'.weak (.nil _)), ?_⟩
      show _ = _; simp_all
  · refine Run.q (v := .bool false) rfl (OpQ.y (OpY.moveB rfl h6)) ?_
    have p6 := h6; try simp only [bs] at p6
    refine Run.pass rfl ?_
    refine Run.pass rfl ?_
    refine Run.pass rfl ?_
    refine Run.q (v := .bool false) rfl (OpQ.y (OpY.pure rfl)) ?_
    refine Run.q (v := .bool false) rfl (OpQ.y (OpY.pure rfl)) ?_
    refine Run.pass rfl ?_
    refine Run.pass rfl ?_
    refine Run.pass rfl ?_
    refine Run.pass rfl ?_
    refine Run.pass rfl ?_
    refine Run.pass rfl ?_
    refine Run.pass rfl ?_
    refine Run.pass rfl ?_
    refine Run.pass rfl ?_
    refine Run.q (v := .bool false) rfl (OpQ.y (OpY.pure rfl)) ?_
    refine Run.q (v := .bool false) rfl (OpQ.y (OpY.pure rfl)) ?_
    refine Run.done ?_
    refine Run.ret ?_
    refine ⟨.bool false, [], Out.one rfl rfl, (Some'.weak (.nil _)), ?_⟩
    show _ = _; simp_all

set_option maxHeartbeats 1000000 in
set_option maxRecDepth 20000 in
theorem summed_spec {p0 p1 p2 p3 p4 p5 p6 p7 : Int} {w : World} (h : (0 ≤ p0 ∧ p0 ≤ 1000000) ∧ (0 ≤ p1 ∧ p1 ≤ 1000000) ∧ (0 ≤ p2 ∧ p2 ≤ 1000000) ∧ (0 ≤ p3 ∧ p3 ≤ 1000000) ∧ (0 ≤ p4 ∧ p4 ≤ 1000000) ∧ (0 ≤ p5 ∧ p5 ≤ 1000000) ∧ (0 ≤ p6 ∧ p6 ≤ 1000000) ∧ (0 ≤ p7 ∧ p7 ≤ 1000000)) : Calls Try.prog 31 #[.agg #[.int .i64 p0, .int .i64 p1, .int .i64 p2, .int .i64 p3, .int .i64 p4, .int .i64 p5, .int .i64 p6, .int .i64 p7]] w (Post No w fun v _ => v = .agg #[.int .i64 (p0 - p4), .int .i64 (p1 - p5), .int .i64 (p2 - p6), .int .i64 (p3 - p7)]) := by
  refine enter (n := 24) (args := [.agg #[.int .i64 p0, .int .i64 p1, .int .i64 p2, .int .i64 p3, .int .i64 p4, .int .i64 p5, .int .i64 p6, .int .i64 p7]]) Try.func31 rfl rfl (St.empty _ _) ?_
  refine Run.seq ?_
  refine Run.region ?_
  refine Run.step rfl (OpStep.box (us := [.int .i64 p0, .int .i64 p1, .int .i64 p2, .int .i64 p3, .int .i64 p4, .int .i64 p5, .int .i64 p6, .int .i64 p7]) rfl fun b1 => ?_)
  refine Run.step rfl (OpStep.alloc (zs := [.int .i64 0, .int .i64 0, .int .i64 0, .int .i64 0]) Tzero_56 fun b2 => ?_)
  refine Run.done ?_
  refine Run.seq ?_
  refine Run.region ?_
  refine Run.q (v := .pointer (some ⟨b1, 0, none⟩)) rfl (OpQ.y (OpY.indexArr (kk := 0) Tarr_70 rfl rfl (by first | rfl | decide) (by first | rfl | decide) (by first | rfl | omega))) ?_
  refine Run.q (v := .int .i64 p0) rfl (OpQ.y (OpY.load1 Tone_3 rfl (Cells.blk (.tail _ (List.Mem.head _)) ⟨rfl, trivial⟩))) ?_
  refine Run.q (v := .pointer (some ⟨b1, 4, none⟩)) rfl (OpQ.y (OpY.indexArr (kk := 4) Tarr_70 rfl rfl (by first | rfl | decide) (by first | rfl | decide) (by first | rfl | omega))) ?_
  refine Run.q (v := .int .i64 p4) rfl (OpQ.y (OpY.load1 Tone_3 rfl (Cells.blk (.tail _ (List.Mem.head _)) ⟨rfl, trivial⟩))) ?_
  refine Run.q (v := .int .i64 (p0 - p4)) rfl (OpQ.y (OpY.sub rfl rfl rfl (by omega) (by omega))) ?_
  refine Run.q (v := .pointer (some ⟨b1, 1, none⟩)) rfl (OpQ.y (OpY.indexArr (kk := 1) Tarr_70 rfl rfl (by first | rfl | decide) (by first | rfl | decide) (by first | rfl | omega))) ?_
  refine Run.q (v := .int .i64 p1) rfl (OpQ.y (OpY.load1 Tone_3 rfl (Cells.blk (.tail _ (List.Mem.head _)) ⟨rfl, trivial⟩))) ?_
  refine Run.q (v := .pointer (some ⟨b1, 5, none⟩)) rfl (OpQ.y (OpY.indexArr (kk := 5) Tarr_70 rfl rfl (by first | rfl | decide) (by first | rfl | decide) (by first | rfl | omega))) ?_
  refine Run.q (v := .int .i64 p5) rfl (OpQ.y (OpY.load1 Tone_3 rfl (Cells.blk (.tail _ (List.Mem.head _)) ⟨rfl, trivial⟩))) ?_
  refine Run.q (v := .int .i64 (p1 - p5)) rfl (OpQ.y (OpY.sub rfl rfl rfl (by omega) (by omega))) ?_
  refine Run.q (v := .pointer (some ⟨b1, 2, none⟩)) rfl (OpQ.y (OpY.indexArr (kk := 2) Tarr_70 rfl rfl (by first | rfl | decide) (by first | rfl | decide) (by first | rfl | omega))) ?_
  refine Run.q (v := .int .i64 p2) rfl (OpQ.y (OpY.load1 Tone_3 rfl (Cells.blk (.tail _ (List.Mem.head _)) ⟨rfl, trivial⟩))) ?_
  refine Run.q (v := .pointer (some ⟨b1, 6, none⟩)) rfl (OpQ.y (OpY.indexArr (kk := 6) Tarr_70 rfl rfl (by first | rfl | decide) (by first | rfl | decide) (by first | rfl | omega))) ?_
  refine Run.q (v := .int .i64 p6) rfl (OpQ.y (OpY.load1 Tone_3 rfl (Cells.blk (.tail _ (List.Mem.head _)) ⟨rfl, trivial⟩))) ?_
  refine Run.q (v := .int .i64 (p2 - p6)) rfl (OpQ.y (OpY.sub rfl rfl rfl (by omega) (by omega))) ?_
  refine Run.q (v := .pointer (some ⟨b1, 3, none⟩)) rfl (OpQ.y (OpY.indexArr (kk := 3) Tarr_70 rfl rfl (by first | rfl | decide) (by first | rfl | decide) (by first | rfl | omega))) ?_
  refine Run.q (v := .int .i64 p3) rfl (OpQ.y (OpY.load1 Tone_3 rfl (Cells.blk (.tail _ (List.Mem.head _)) ⟨rfl, trivial⟩))) ?_
  refine Run.q (v := .pointer (some ⟨b1, 7, none⟩)) rfl (OpQ.y (OpY.indexArr (kk := 7) Tarr_70 rfl rfl (by first | rfl | decide) (by first | rfl | decide) (by first | rfl | omega))) ?_
  refine Run.q (v := .int .i64 p7) rfl (OpQ.y (OpY.load1 Tone_3 rfl (Cells.blk (.tail _ (List.Mem.head _)) ⟨rfl, trivial⟩))) ?_
  refine Run.q (v := .int .i64 (p3 - p7)) rfl (OpQ.y (OpY.sub rfl rfl rfl (by omega) (by omega))) ?_
  refine Run.q (v := .agg #[.int .i64 (p0 - p4), .int .i64 (p1 - p5), .int .i64 (p2 - p6), .int .i64 (p3 - p7)]) rfl (OpQ.y (OpY.build (cs := [.int .i64 (p0 - p4), .int .i64 (p1 - p5), .int .i64 (p2 - p6), .int .i64 (p3 - p7)]) (by kernel_rfl))) ?_
  refine Run.step rfl (OpStep.storeAll (us := [.int .i64 (p0 - p4), .int .i64 (p1 - p5), .int .i64 (p2 - p6), .int .i64 (p3 - p7)]) Tsize_56 rfl rfl rfl (.here _) rfl ?_)
  refine Run.done ?_
  refine Run.ret ?_
  refine ⟨.agg #[.int .i64 (p0 - p4), .int .i64 (p1 - p5), .int .i64 (p2 - p6), .int .i64 (p3 - p7)], [], Out.cell1 (cs := [.int .i64 (p0 - p4), .int .i64 (p1 - p5), .int .i64 (p2 - p6), .int .i64 (p3 - p7)]) rfl Tagg_56 rfl (Cells.blk (.head _) ⟨rfl, rfl, rfl, rfl, trivial⟩), (Some'.weak (.nil _)), ?_⟩
  rfl

set_option maxHeartbeats 1000000 in
set_option maxRecDepth 20000 in
theorem l1Add4_spec {x y : R4} {w : World} (hx : Lim x) (hy : Lim y) : Calls Try.prog 17 #[.agg #[.int .i64 (x.a), .int .i64 (x.b), .int .i64 (x.c), .int .i64 (x.d)], .agg #[.int .i64 (y.a), .int .i64 (y.b), .int .i64 (y.c), .int .i64 (y.d)]] w (Post No w fun v _ => v = .agg #[.int .i64 ((adR x y).a), .int .i64 ((adR x y).b), .int .i64 ((adR x y).c), .int .i64 ((adR x y).d)]) := by
  obtain ⟨⟨⟨hA, hA2⟩, hB, hB2⟩, ⟨hC, hC2⟩, hD, hD2⟩ := hx
  obtain ⟨⟨⟨gA, gA2⟩, gB, gB2⟩, ⟨gC, gC2⟩, gD, gD2⟩ := hy
  refine enter (n := 26) (args := [.agg #[.int .i64 (x.a), .int .i64 (x.b), .int .i64 (x.c), .int .i64 (x.d)], .agg #[.int .i64 (y.a), .int .i64 (y.b), .int .i64 (y.c), .int .i64 (y.d)]]) Try.func17 rfl rfl (St.empty _ _) ?_
  refine Run.seq ?_
  refine Run.region ?_
  refine Run.step rfl (OpStep.box (us := [.int .i64 (x.a), .int .i64 (x.b), .int .i64 (x.c), .int .i64 (x.d)]) rfl fun b1 => ?_)
  refine Run.step rfl (OpStep.box (us := [.int .i64 (y.a), .int .i64 (y.b), .int .i64 (y.c), .int .i64 (y.d)]) rfl fun b2 => ?_)
  refine Run.step rfl (OpStep.alloc (zs := [.int .i64 0, .int .i64 0, .int .i64 0, .int .i64 0]) Tzero_56 fun b3 => ?_)
  refine Run.done ?_
  refine Run.seq ?_
  refine Run.region ?_
  refine Run.q (v := .pointer (some ⟨b1, 0, none⟩)) rfl (OpQ.y (OpY.fieldAddr Tfo_56_0 rfl rfl)) ?_
  refine Run.q (v := .int .i64 (x.a)) rfl (OpQ.y (OpY.load1 Tone_3 rfl (Cells.blk (.tail _ (.tail _ (List.Mem.head _))) ⟨rfl, trivial⟩))) ?_
  refine Run.q (v := .pointer (some ⟨b2, 0, none⟩)) rfl (OpQ.y (OpY.fieldAddr Tfo_56_0 rfl rfl)) ?_
  refine Run.q (v := .int .i64 (y.a)) rfl (OpQ.y (OpY.load1 Tone_3 rfl (Cells.blk (.tail _ (List.Mem.head _)) ⟨rfl, trivial⟩))) ?_
  refine Run.q (v := .int .i64 ((x.a) + (y.a))) rfl (OpQ.y (OpY.add rfl rfl rfl (by omega) (by omega))) ?_
  refine Run.q (v := .pointer (some ⟨b1, 1, none⟩)) rfl (OpQ.y (OpY.fieldAddr Tfo_56_1 rfl rfl)) ?_
  refine Run.q (v := .int .i64 (x.b)) rfl (OpQ.y (OpY.load1 Tone_3 rfl (Cells.blk (.tail _ (.tail _ (List.Mem.head _))) ⟨rfl, trivial⟩))) ?_
  refine Run.q (v := .pointer (some ⟨b2, 1, none⟩)) rfl (OpQ.y (OpY.fieldAddr Tfo_56_1 rfl rfl)) ?_
  refine Run.q (v := .int .i64 (y.b)) rfl (OpQ.y (OpY.load1 Tone_3 rfl (Cells.blk (.tail _ (List.Mem.head _)) ⟨rfl, trivial⟩))) ?_
  refine Run.q (v := .int .i64 ((x.b) + (y.b))) rfl (OpQ.y (OpY.add rfl rfl rfl (by omega) (by omega))) ?_
  refine Run.q (v := .pointer (some ⟨b1, 2, none⟩)) rfl (OpQ.y (OpY.fieldAddr Tfo_56_2 rfl rfl)) ?_
  refine Run.q (v := .int .i64 (x.c)) rfl (OpQ.y (OpY.load1 Tone_3 rfl (Cells.blk (.tail _ (.tail _ (List.Mem.head _))) ⟨rfl, trivial⟩))) ?_
  refine Run.q (v := .pointer (some ⟨b2, 2, none⟩)) rfl (OpQ.y (OpY.fieldAddr Tfo_56_2 rfl rfl)) ?_
  refine Run.q (v := .int .i64 (y.c)) rfl (OpQ.y (OpY.load1 Tone_3 rfl (Cells.blk (.tail _ (List.Mem.head _)) ⟨rfl, trivial⟩))) ?_
  refine Run.q (v := .int .i64 ((x.c) + (y.c))) rfl (OpQ.y (OpY.add rfl rfl rfl (by omega) (by omega))) ?_
  refine Run.q (v := .pointer (some ⟨b1, 3, none⟩)) rfl (OpQ.y (OpY.fieldAddr Tfo_56_3 rfl rfl)) ?_
  refine Run.q (v := .int .i64 (x.d)) rfl (OpQ.y (OpY.load1 Tone_3 rfl (Cells.blk (.tail _ (.tail _ (List.Mem.head _))) ⟨rfl, trivial⟩))) ?_
  refine Run.q (v := .pointer (some ⟨b2, 3, none⟩)) rfl (OpQ.y (OpY.fieldAddr Tfo_56_3 rfl rfl)) ?_
  refine Run.q (v := .int .i64 (y.d)) rfl (OpQ.y (OpY.load1 Tone_3 rfl (Cells.blk (.tail _ (List.Mem.head _)) ⟨rfl, trivial⟩))) ?_
  refine Run.q (v := .int .i64 ((x.d) + (y.d))) rfl (OpQ.y (OpY.add rfl rfl rfl (by omega) (by omega))) ?_
  refine Run.q (v := .agg #[.int .i64 ((x.a) + (y.a)), .int .i64 ((x.b) + (y.b)), .int .i64 ((x.c) + (y.c)), .int .i64 ((x.d) + (y.d))]) rfl (OpQ.y (OpY.build (cs := [.int .i64 ((x.a) + (y.a)), .int .i64 ((x.b) + (y.b)), .int .i64 ((x.c) + (y.c)), .int .i64 ((x.d) + (y.d))]) (by kernel_rfl))) ?_
  refine Run.step rfl (OpStep.storeAll (us := [.int .i64 ((x.a) + (y.a)), .int .i64 ((x.b) + (y.b)), .int .i64 ((x.c) + (y.c)), .int .i64 ((x.d) + (y.d))]) Tsize_56 rfl rfl rfl (.here _) rfl ?_)
  refine Run.done ?_
  refine Run.ret ?_
  refine ⟨.agg #[.int .i64 ((x.a) + (y.a)), .int .i64 ((x.b) + (y.b)), .int .i64 ((x.c) + (y.c)), .int .i64 ((x.d) + (y.d))], [], Out.cell1 (cs := [.int .i64 ((x.a) + (y.a)), .int .i64 ((x.b) + (y.b)), .int .i64 ((x.c) + (y.c)), .int .i64 ((x.d) + (y.d))]) rfl Tagg_56 rfl (Cells.blk (.head _) ⟨rfl, rfl, rfl, rfl, trivial⟩), (Some'.weak (.nil _)), ?_⟩
  rfl

set_option maxHeartbeats 1000000 in
set_option maxRecDepth 20000 in
theorem l1Root_spec {x : R4} {w : World} (hx : Lim x) : Calls Try.prog 20 #[.agg #[.int .i64 (x.a), .int .i64 (x.b), .int .i64 (x.c), .int .i64 (x.d)]] w (Post No w fun v _ => v = .agg #[.int .i64 ((rtR x).a), .int .i64 ((rtR x).b), .int .i64 ((rtR x).c), .int .i64 ((rtR x).d)]) := by
  obtain ⟨⟨⟨hA, hA2⟩, hB, hB2⟩, ⟨hC, hC2⟩, hD, hD2⟩ := hx
  refine enter (n := 24) (args := [.agg #[.int .i64 (x.a), .int .i64 (x.b), .int .i64 (x.c), .int .i64 (x.d)]]) Try.func20 rfl rfl (St.empty _ _) ?_
  refine Run.seq ?_
  refine Run.region ?_
  refine Run.step rfl (OpStep.box (us := [.int .i64 (x.a), .int .i64 (x.b), .int .i64 (x.c), .int .i64 (x.d)]) rfl fun b1 => ?_)
  refine Run.step rfl (OpStep.alloc (zs := [.int .i64 0, .int .i64 0, .int .i64 0, .int .i64 0]) Tzero_56 fun b2 => ?_)
  refine Run.done ?_
  refine Run.seq ?_
  refine Run.region ?_
  refine Run.q (v := .pointer (some ⟨b1, 1, none⟩)) rfl (OpQ.y (OpY.fieldAddr Tfo_56_1 rfl rfl)) ?_
  refine Run.q (v := .int .i64 (x.b)) rfl (OpQ.y (OpY.load1 Tone_3 rfl (Cells.blk (.tail _ (List.Mem.head _)) ⟨rfl, trivial⟩))) ?_
  refine Run.q (v := .pointer (some ⟨b1, 3, none⟩)) rfl (OpQ.y (OpY.fieldAddr Tfo_56_3 rfl rfl)) ?_
  refine Run.q (v := .int .i64 (x.d)) rfl (OpQ.y (OpY.load1 Tone_3 rfl (Cells.blk (.tail _ (List.Mem.head _)) ⟨rfl, trivial⟩))) ?_
  refine Run.q (v := .int .i64 ((x.b) - (x.d))) rfl (OpQ.y (OpY.sub rfl rfl rfl (by omega) (by omega))) ?_
  refine Run.q (v := .pointer (some ⟨b1, 0, none⟩)) rfl (OpQ.y (OpY.fieldAddr Tfo_56_0 rfl rfl)) ?_
  refine Run.q (v := .int .i64 (x.a)) rfl (OpQ.y (OpY.load1 Tone_3 rfl (Cells.blk (.tail _ (List.Mem.head _)) ⟨rfl, trivial⟩))) ?_
  refine Run.q (v := .pointer (some ⟨b1, 2, none⟩)) rfl (OpQ.y (OpY.fieldAddr Tfo_56_2 rfl rfl)) ?_
  refine Run.q (v := .int .i64 (x.c)) rfl (OpQ.y (OpY.load1 Tone_3 rfl (Cells.blk (.tail _ (List.Mem.head _)) ⟨rfl, trivial⟩))) ?_
  refine Run.q (v := .int .i64 ((x.a) + (x.c))) rfl (OpQ.y (OpY.add rfl rfl rfl (by omega) (by omega))) ?_
  refine Run.q (v := .pointer (some ⟨b1, 1, none⟩)) rfl (OpQ.y (OpY.fieldAddr Tfo_56_1 rfl rfl)) ?_
  refine Run.q (v := .int .i64 (x.b)) rfl (OpQ.y (OpY.load1 Tone_3 rfl (Cells.blk (.tail _ (List.Mem.head _)) ⟨rfl, trivial⟩))) ?_
  refine Run.q (v := .pointer (some ⟨b1, 3, none⟩)) rfl (OpQ.y (OpY.fieldAddr Tfo_56_3 rfl rfl)) ?_
  refine Run.q (v := .int .i64 (x.d)) rfl (OpQ.y (OpY.load1 Tone_3 rfl (Cells.blk (.tail _ (List.Mem.head _)) ⟨rfl, trivial⟩))) ?_
  refine Run.q (v := .int .i64 ((x.b) + (x.d))) rfl (OpQ.y (OpY.add rfl rfl rfl (by omega) (by omega))) ?_
  refine Run.q (v := .pointer (some ⟨b1, 2, none⟩)) rfl (OpQ.y (OpY.fieldAddr Tfo_56_2 rfl rfl)) ?_
  refine Run.q (v := .int .i64 (x.c)) rfl (OpQ.y (OpY.load1 Tone_3 rfl (Cells.blk (.tail _ (List.Mem.head _)) ⟨rfl, trivial⟩))) ?_
  refine Run.q (v := .pointer (some ⟨b1, 0, none⟩)) rfl (OpQ.y (OpY.fieldAddr Tfo_56_0 rfl rfl)) ?_
  refine Run.q (v := .int .i64 (x.a)) rfl (OpQ.y (OpY.load1 Tone_3 rfl (Cells.blk (.tail _ (List.Mem.head _)) ⟨rfl, trivial⟩))) ?_
  refine Run.q (v := .int .i64 ((x.c) - (x.a))) rfl (OpQ.y (OpY.sub rfl rfl rfl (by omega) (by omega))) ?_
  refine Run.q (v := .agg #[.int .i64 ((x.b) - (x.d)), .int .i64 ((x.a) + (x.c)), .int .i64 ((x.b) + (x.d)), .int .i64 ((x.c) - (x.a))]) rfl (OpQ.y (OpY.build (cs := [.int .i64 ((x.b) - (x.d)), .int .i64 ((x.a) + (x.c)), .int .i64 ((x.b) + (x.d)), .int .i64 ((x.c) - (x.a))]) (by kernel_rfl))) ?_
  refine Run.step rfl (OpStep.storeAll (us := [.int .i64 ((x.b) - (x.d)), .int .i64 ((x.a) + (x.c)), .int .i64 ((x.b) + (x.d)), .int .i64 ((x.c) - (x.a))]) Tsize_56 rfl rfl rfl (.here _) rfl ?_)
  refine Run.done ?_
  refine Run.ret ?_
  refine ⟨.agg #[.int .i64 ((x.b) - (x.d)), .int .i64 ((x.a) + (x.c)), .int .i64 ((x.b) + (x.d)), .int .i64 ((x.c) - (x.a))], [], Out.cell1 (cs := [.int .i64 ((x.b) - (x.d)), .int .i64 ((x.a) + (x.c)), .int .i64 ((x.b) + (x.d)), .int .i64 ((x.c) - (x.a))]) rfl Tagg_56 rfl (Cells.blk (.head _) ⟨rfl, rfl, rfl, rfl, trivial⟩), (Some'.weak (.nil _)), ?_⟩
  rfl

set_option maxHeartbeats 1000000 in
set_option maxRecDepth 20000 in
theorem l1Even_spec {x : R4} {w : World} (hx : Lim x) : Calls Try.prog 43 #[.agg #[.int .i64 (x.a), .int .i64 (x.b), .int .i64 (x.c), .int .i64 (x.d)]] w (Post No w fun v _ => v = .bool (evR x)) := by
  obtain ⟨⟨⟨hA, hA2⟩, hB, hB2⟩, ⟨hC, hC2⟩, hD, hD2⟩ := hx
  refine enter (n := 19) (args := [.agg #[.int .i64 (x.a), .int .i64 (x.b), .int .i64 (x.c), .int .i64 (x.d)]]) Try.func43 rfl rfl (St.empty _ _) ?_
  refine Run.seq ?_
  refine Run.region ?_
  refine Run.step rfl (OpStep.box (us := [.int .i64 (x.a), .int .i64 (x.b), .int .i64 (x.c), .int .i64 (x.d)]) rfl fun b1 => ?_)
  refine Run.q (v := .bool false) rfl (OpQ.y (OpY.pure rfl)) ?_
  refine Run.done ?_
  refine Run.seq ?_
  refine Run.region ?_
  refine Run.q (v := .pointer (some ⟨b1, 0, none⟩)) rfl (OpQ.y (OpY.fieldAddr Tfo_56_0 rfl rfl)) ?_
  refine Run.q (v := .int .i64 (x.a)) rfl (OpQ.y (OpY.load1 Tone_3 rfl (Cells.blk (.head _) ⟨rfl, trivial⟩))) ?_
  refine Run.q (v := .pointer (some ⟨b1, 2, none⟩)) rfl (OpQ.y (OpY.fieldAddr Tfo_56_2 rfl rfl)) ?_
  refine Run.q (v := .int .i64 (x.c)) rfl (OpQ.y (OpY.load1 Tone_3 rfl (Cells.blk (.head _) ⟨rfl, trivial⟩))) ?_
  refine Run.q (v := .int .i64 ((x.a) + (x.c))) rfl (OpQ.y (OpY.add rfl rfl rfl (by omega) (by omega))) ?_
  refine Run.q (v := .int .i64 (((x.a) + (x.c)).tmod 2)) rfl (OpQ.y (OpY.remI rfl rfl (by decide))) ?_
  refine Run.q (v := .bool ((((x.a) + (x.c)).tmod 2) == 0)) rfl (OpQ.y (OpY.pure rfl)) ?_
  rcases Bool.eq_false_or_eq_true ((((x.a) + (x.c)).tmod 2) == 0) with h10 | h10
  · refine Run.q (v := .bool true) rfl (OpQ.y (OpY.moveB rfl h10)) ?_
    have p10 := h10; try simp only [bs] at p10
    refine Run.q (v := .pointer (some ⟨b1, 1, none⟩)) rfl (OpQ.y (OpY.fieldAddr Tfo_56_1 rfl rfl)) ?_
    refine Run.q (v := .int .i64 (x.b)) rfl (OpQ.y (OpY.load1 Tone_3 rfl (Cells.blk (.head _) ⟨rfl, trivial⟩))) ?_
    refine Run.q (v := .pointer (some ⟨b1, 3, none⟩)) rfl (OpQ.y (OpY.fieldAddr Tfo_56_3 rfl rfl)) ?_
    refine Run.q (v := .int .i64 (x.d)) rfl (OpQ.y (OpY.load1 Tone_3 rfl (Cells.blk (.head _) ⟨rfl, trivial⟩))) ?_
    refine Run.q (v := .int .i64 ((x.b) + (x.d))) rfl (OpQ.y (OpY.add rfl rfl rfl (by omega) (by omega))) ?_
    refine Run.q (v := .int .i64 (((x.b) + (x.d)).tmod 2)) rfl (OpQ.y (OpY.remI rfl rfl (by decide))) ?_
    refine Run.q (v := .bool ((((x.b) + (x.d)).tmod 2) == 0)) rfl (OpQ.y (OpY.pure rfl)) ?_
    refine Run.q (v := .bool ((((x.b) + (x.d)).tmod 2) == 0)) rfl (OpQ.y (OpY.pure rfl)) ?_
    refine Run.q (v := .bool ((((x.b) + (x.d)).tmod 2) == 0)) rfl (OpQ.y (OpY.pure rfl)) ?_
    refine Run.done ?_
    refine Run.ret ?_
    refine ⟨.bool ((((x.b) + (x.d)).tmod 2) == 0), [], Out.one rfl rfl, (Some'.weak (.nil _)), ?_⟩
    show _ = _; simp_all [evR]
  · refine Run.q (v := .bool false) rfl (OpQ.y (OpY.moveB rfl h10)) ?_
    have p10 := h10; try simp only [bs] at p10
    refine Run.pass rfl ?_
    refine Run.pass rfl ?_
    refine Run.pass rfl ?_
    refine Run.pass rfl ?_
    refine Run.pass rfl ?_
    refine Run.pass rfl ?_
    refine Run.pass rfl ?_
    refine Run.q (v := .bool false) rfl (OpQ.y (OpY.pure rfl)) ?_
    refine Run.q (v := .bool false) rfl (OpQ.y (OpY.pure rfl)) ?_
    refine Run.done ?_
    refine Run.ret ?_
    refine ⟨.bool false, [], Out.one rfl rfl, (Some'.weak (.nil _)), ?_⟩
    show _ = _; simp_all [evR]

set_option maxHeartbeats 1000000 in
set_option maxRecDepth 20000 in
theorem l1Half_spec {x : R4} {w : World} (hx : Lim x) : Calls Try.prog 44 #[.agg #[.int .i64 (x.a), .int .i64 (x.b), .int .i64 (x.c), .int .i64 (x.d)]] w (Post No w fun v _ => v = .agg #[.int .i64 ((hfR x).a), .int .i64 ((hfR x).b), .int .i64 ((hfR x).c), .int .i64 ((hfR x).d)]) := by
  obtain ⟨⟨⟨hA, hA2⟩, hB, hB2⟩, ⟨hC, hC2⟩, hD, hD2⟩ := hx
  refine enter (n := 19) (args := [.agg #[.int .i64 (x.a), .int .i64 (x.b), .int .i64 (x.c), .int .i64 (x.d)]]) Try.func44 rfl rfl (St.empty _ _) ?_
  refine Run.seq ?_
  refine Run.region ?_
  refine Run.step rfl (OpStep.box (us := [.int .i64 (x.a), .int .i64 (x.b), .int .i64 (x.c), .int .i64 (x.d)]) rfl fun b1 => ?_)
  refine Run.step rfl (OpStep.alloc (zs := [.int .i64 0, .int .i64 0, .int .i64 0, .int .i64 0]) Tzero_56 fun b2 => ?_)
  refine Run.done ?_
  refine Run.seq ?_
  refine Run.region ?_
  refine Run.q (v := .agg #[.int .i64 (x.a), .int .i64 (x.b), .int .i64 (x.c), .int .i64 (x.d)]) rfl (OpQ.y (OpY.loadN (cs := [.int .i64 (x.a), .int .i64 (x.b), .int .i64 (x.c), .int .i64 (x.d)]) Tagg_56 rfl (Cells.blk (.tail _ (List.Mem.head _)) ⟨rfl, rfl, rfl, rfl, trivial⟩))) ?_
  refine Run.q (v := .agg #[.int .i64 (x.b - x.d), .int .i64 (x.a + x.c), .int .i64 (x.b + x.d), .int .i64 (x.c - x.a)]) rfl (OpQ.call (vs := [.agg #[.int .i64 (x.a), .int .i64 (x.b), .int .i64 (x.c), .int .i64 (x.d)]]) (caps := []) Tcall_20 rfl rfl (fun w hs => l1Root_spec (x := x) (by unfold Lim; omega))) ?_
  refine Run.step rfl (OpStep.alloc (zs := [.int .i64 0, .int .i64 0, .int .i64 0, .int .i64 0]) Tzero_56 fun b3 => ?_)
  refine Run.step rfl (OpStep.storeAll (us := [.int .i64 (x.b - x.d), .int .i64 (x.a + x.c), .int .i64 (x.b + x.d), .int .i64 (x.c - x.a)]) Tsize_56 rfl rfl rfl (.here _) rfl ?_)
  refine Run.done ?_
  refine Run.seq ?_
  refine Run.region ?_
  refine Run.q (v := .pointer (some ⟨b3, 0, none⟩)) rfl (OpQ.y (OpY.fieldAddr Tfo_56_0 rfl rfl)) ?_
  refine Run.q (v := .int .i64 (x.b - x.d)) rfl (OpQ.y (OpY.load1 Tone_3 rfl (Cells.blk (.head _) ⟨rfl, trivial⟩))) ?_
  refine Run.q (v := .int .i64 ((x.b - x.d).tdiv 2)) rfl (OpQ.y (OpY.quoR rfl rfl (by omega))) ?_
  refine Run.q (v := .pointer (some ⟨b3, 1, none⟩)) rfl (OpQ.y (OpY.fieldAddr Tfo_56_1 rfl rfl)) ?_
  refine Run.q (v := .int .i64 (x.a + x.c)) rfl (OpQ.y (OpY.load1 Tone_3 rfl (Cells.blk (.head _) ⟨rfl, trivial⟩))) ?_
  refine Run.q (v := .int .i64 ((x.a + x.c).tdiv 2)) rfl (OpQ.y (OpY.quoR rfl rfl (by omega))) ?_
  refine Run.q (v := .pointer (some ⟨b3, 2, none⟩)) rfl (OpQ.y (OpY.fieldAddr Tfo_56_2 rfl rfl)) ?_
  refine Run.q (v := .int .i64 (x.b + x.d)) rfl (OpQ.y (OpY.load1 Tone_3 rfl (Cells.blk (.head _) ⟨rfl, trivial⟩))) ?_
  refine Run.q (v := .int .i64 ((x.b + x.d).tdiv 2)) rfl (OpQ.y (OpY.quoR rfl rfl (by omega))) ?_
  refine Run.q (v := .pointer (some ⟨b3, 3, none⟩)) rfl (OpQ.y (OpY.fieldAddr Tfo_56_3 rfl rfl)) ?_
  refine Run.q (v := .int .i64 (x.c - x.a)) rfl (OpQ.y (OpY.load1 Tone_3 rfl (Cells.blk (.head _) ⟨rfl, trivial⟩))) ?_
  refine Run.q (v := .int .i64 ((x.c - x.a).tdiv 2)) rfl (OpQ.y (OpY.quoR rfl rfl (by omega))) ?_
  refine Run.q (v := .agg #[.int .i64 ((x.b - x.d).tdiv 2), .int .i64 ((x.a + x.c).tdiv 2), .int .i64 ((x.b + x.d).tdiv 2), .int .i64 ((x.c - x.a).tdiv 2)]) rfl (OpQ.y (OpY.build (cs := [.int .i64 ((x.b - x.d).tdiv 2), .int .i64 ((x.a + x.c).tdiv 2), .int .i64 ((x.b + x.d).tdiv 2), .int .i64 ((x.c - x.a).tdiv 2)]) (by kernel_rfl))) ?_
  refine Run.step rfl (OpStep.storeAll (us := [.int .i64 ((x.b - x.d).tdiv 2), .int .i64 ((x.a + x.c).tdiv 2), .int .i64 ((x.b + x.d).tdiv 2), .int .i64 ((x.c - x.a).tdiv 2)]) Tsize_56 rfl rfl rfl (.there _ (.here _)) rfl ?_)
  refine Run.done ?_
  refine Run.ret ?_
  refine ⟨.agg #[.int .i64 ((x.b - x.d).tdiv 2), .int .i64 ((x.a + x.c).tdiv 2), .int .i64 ((x.b + x.d).tdiv 2), .int .i64 ((x.c - x.a).tdiv 2)], [], Out.cell1 (cs := [.int .i64 ((x.b - x.d).tdiv 2), .int .i64 ((x.a + x.c).tdiv 2), .int .i64 ((x.b + x.d).tdiv 2), .int .i64 ((x.c - x.a).tdiv 2)]) rfl Tagg_56 rfl (Cells.blk (.tail _ (List.Mem.head _)) ⟨rfl, rfl, rfl, rfl, trivial⟩), (Some'.weak (.nil _)), ?_⟩
  rfl

set_option maxHeartbeats 1000000 in
set_option maxRecDepth 20000 in
theorem l1Good_spec (x : R4) (w : World) : Calls Try.prog 42 #[.agg #[.int .i64 (x.a), .int .i64 (x.b), .int .i64 (x.c), .int .i64 (x.d)]] w (Post No w fun v _ => v = .bool (gdR x)) := by
  refine enter (n := 13) (args := [.agg #[.int .i64 (x.a), .int .i64 (x.b), .int .i64 (x.c), .int .i64 (x.d)]]) Try.func42 rfl rfl (St.empty _ _) ?_
  refine Run.seq ?_
  refine Run.region ?_
  refine Run.step rfl (OpStep.box (us := [.int .i64 (x.a), .int .i64 (x.b), .int .i64 (x.c), .int .i64 (x.d)]) rfl fun b1 => ?_)
  refine Run.q (v := .bool false) rfl (OpQ.y (OpY.pure rfl)) ?_
  refine Run.done ?_
  refine Run.seq ?_
  refine Run.region ?_
  refine Run.q (v := .pointer (some ⟨b1, 0, none⟩)) rfl (OpQ.y (OpY.fieldAddr Tfo_56_0 rfl rfl)) ?_
  refine Run.q (v := .int .i64 (x.a)) rfl (OpQ.y (OpY.load1 Tone_3 rfl (Cells.blk (.head _) ⟨rfl, trivial⟩))) ?_
  refine Run.q (v := .pointer (some ⟨b1, 1, none⟩)) rfl (OpQ.y (OpY.fieldAddr Tfo_56_1 rfl rfl)) ?_
  refine Run.q (v := .int .i64 (x.b)) rfl (OpQ.y (OpY.load1 Tone_3 rfl (Cells.blk (.head _) ⟨rfl, trivial⟩))) ?_
  refine Run.q (v := .pointer (some ⟨b1, 2, none⟩)) rfl (OpQ.y (OpY.fieldAddr Tfo_56_2 rfl rfl)) ?_
  refine Run.q (v := .int .i64 (x.c)) rfl (OpQ.y (OpY.load1 Tone_3 rfl (Cells.blk (.head _) ⟨rfl, trivial⟩))) ?_
  refine Run.q (v := .pointer (some ⟨b1, 3, none⟩)) rfl (OpQ.y (OpY.fieldAddr Tfo_56_3 rfl rfl)) ?_
  refine Run.q (v := .int .i64 (x.d)) rfl (OpQ.y (OpY.load1 Tone_3 rfl (Cells.blk (.head _) ⟨rfl, trivial⟩))) ?_
  refine Run.step rfl (OpStep.buildSlice (us := [.int .i64 (x.a), .int .i64 (x.b), .int .i64 (x.c), .int .i64 (x.d)]) Tsl_83 (by decide) (by decide) ⟨rfl, [.int .i64 (x.a)], _, rfl, rfl, rfl, ⟨rfl, [.int .i64 (x.b)], _, rfl, rfl, rfl, ⟨rfl, [.int .i64 (x.c)], _, rfl, rfl, rfl, ⟨rfl, [.int .i64 (x.d)], _, rfl, rfl, rfl, rfl⟩⟩⟩⟩ rfl fun b2 => ?_)
  refine Run.q (v := .bool (!anyI (fun i => !within (ix [x.a, x.b, x.c, x.d] i) (-1000000000) 1000000000) 4)) rfl (OpQ.call (vs := [.slice (some ⟨b2, 0, none⟩) 4 4, .int .i64 (-1000000000), .int .i64 1000000000]) (caps := []) Tcall_61 rfl rfl (fun w hs => l1All_spec (n := 4) (xs := [x.a, x.b, x.c, x.d]) (hs.slOwn (.head _)))) ?_
  refine Run.q (v := .bool (!anyI (fun i => !within (ix [x.a, x.b, x.c, x.d] i) (-1000000000) 1000000000) 4)) rfl (OpQ.y (OpY.pure rfl)) ?_
  refine Run.done ?_
  refine Run.ret ?_
  refine ⟨.bool (!anyI (fun i => !within (ix [x.a, x.b, x.c, x.d] i) (-1000000000) 1000000000) 4), [], Out.one rfl rfl, (Some'.weak (.nil _)), ?_⟩
  show Value.bool _ = Value.bool _; simp [anyI, gdR, gdC, ix, Bool.and_assoc]


theorem OpY.remK {E : Env} {f : Fr} {H : List Res} {d : Option Tmp} {ty : TypeId} {pos : String} {after : Array Edge} {gd : Option (Nat × Bool)} {t t' : TypeId} {x y : Operand} {k : Nat} (hk : k < 8) (hx : f.eval x = .int .i64 (k : Nat)) (hy : f.eval y = .int .i64 8) :
    OpY E ⟨d, .binOp .rem t x y t', ty, pos, after, gd⟩ f H (.int .i64 (k : Nat)) := by
  have h := OpY.rem (E := E) (H := H) (d := d) (ty := ty) (pos := pos) (after := after) (gd := gd) (t := t) (t' := t') hx hy (by omega) (by omega)
  rwa [show ((k : Nat) : Int) % 8 = ((k : Nat) : Int) by omega] at h
theorem OpY.remK8 {E : Env} {f : Fr} {H : List Res} {d : Option Tmp} {ty : TypeId} {pos : String} {after : Array Edge} {gd : Option (Nat × Bool)} {t t' : TypeId} {x y : Operand} {k : Nat} (hk : k < 8) (hx : f.eval x = .int .i64 ((k + 8 : Nat) : Int)) (hy : f.eval y = .int .i64 8) :
    OpY E ⟨d, .binOp .rem t x y t', ty, pos, after, gd⟩ f H (.int .i64 (k : Nat)) := by
  have h := OpY.rem (E := E) (H := H) (d := d) (ty := ty) (pos := pos) (after := after) (gd := gd) (t := t) (t' := t') hx hy (by omega) (by omega)
  rwa [show ((k + 8 : Nat) : Int) % 8 = ((k : Nat) : Int) by omega] at h
/-- What becomes of a number that the reference checks. -/
def ckR (x : R4) : R4 := if gdR x then x else R4.zero
theorem ckR_good (x : R4) : gdR (ckR x) = true := by
  unfold ckR; split
  · assumption
  · decide
/-- The lowest form. -/
def dnR : R4 → Nat → R4 × Nat
  | x, 0 => (x, 0)
  | x, e + 1 => if evR x then dnR (hfR x) e else (x, e + 1)
theorem dnR_step {x : R4} {e : Nat} (h : evR x = true) : dnR x (e + 1) = dnR (hfR x) e := by rw [dnR, if_pos h]
theorem dnR_stop {x : R4} {e : Nat} (h : evR x = false) : dnR x e = (x, e) := by
  cases e with
  | zero => rfl
  | succ e => rw [dnR, if_neg (by rw [h]; decide)]

set_option maxHeartbeats 1000000 in
set_option maxRecDepth 20000 in
theorem l1Turn_spec {k : Nat} {w : World} (hk : k < 8) : Calls Try.prog 18 #[.agg #[.int .i64 1, .int .i64 0, .int .i64 0, .int .i64 0], .int .i64 (k : Nat)] w (Post No w fun v _ => v = .agg #[.int .i64 ((twR k).a), .int .i64 ((twR k).b), .int .i64 ((twR k).c), .int .i64 ((twR k).d)]) := by
  refine enter (n := 24) (args := [.agg #[.int .i64 1, .int .i64 0, .int .i64 0, .int .i64 0], .int .i64 (((k : Nat) : Int))]) Try.func18 rfl rfl (St.empty _ _) ?_
  refine Run.seq ?_
  refine Run.region ?_
  refine Run.step rfl (OpStep.box (us := [.int .i64 1, .int .i64 0, .int .i64 0, .int .i64 0]) rfl fun b1 => ?_)
  refine Run.step rfl (OpStep.alloc (zs := [.int .i64 0, .int .i64 0, .int .i64 0, .int .i64 0]) Tzero_56 fun b2 => ?_)
  refine Run.done ?_
  refine Run.seq ?_
  refine Run.seq ?_
  refine Run.region ?_
  refine Run.q (v := .int .i64 (((k : Nat) : Int))) rfl (OpQ.y (OpY.pure rfl)) ?_
  refine Run.q (v := .int .i64 (((k : Nat) : Int))) rfl (OpQ.y (OpY.remK (by omega) rfl rfl)) ?_
  refine Run.q (v := .int .i64 (((k + 8 : Nat) : Int))) rfl (OpQ.y (OpY.add rfl rfl (by omega) (by omega) (by omega))) ?_
  refine Run.q (v := .int .i64 (((k : Nat) : Int))) rfl (OpQ.y (OpY.remK8 (by omega) rfl rfl)) ?_
  refine Run.q (v := .int .i64 (((k : Nat) : Int))) rfl (OpQ.y (OpY.pure rfl)) ?_
  refine Run.done ?_
  refine Run.block ?_
  refine Run.loop (ι := Nat) [1, 9, 10, 11, 12, 13, 14, 15, 16, 17, 18, 19, 20, 21, 22] (fun j => [(1, .int .i64 (((k : Nat) : Int) - ((j : Nat) : Int)))]) (fun j => [.blk b2 56 [.int .i64 0, .int .i64 0, .int .i64 0, .int .i64 0], .blk b1 56 [.int .i64 ((twR j).a), .int .i64 ((twR j).b), .int .i64 ((twR j).c), .int .i64 ((twR j).d)]]) (fun j => j ≤ k) (fun j => k - j) 0 ?_ ?_ ?_ ?_
  · exact Nat.zero_le _
  · exact ⟨(by show Value.int _ _ = Value.int _ _; congr 1 <;> omega), trivial⟩
  · exact (Some'.weak (.take (.takeEq (by rfl) (.nil _))))
  · rintro j fr hinv
    show Run _ _ (over _ _ [(1, .int .i64 (((k : Nat) : Int) - ((j : Nat) : Int)))] fr) [.blk b2 56 [.int .i64 0, .int .i64 0, .int .i64 0, .int .i64 0], .blk b1 56 [.int .i64 ((twR j).a), .int .i64 ((twR j).b), .int .i64 ((twR j).c), .int .i64 ((twR j).d)]]
    try dsimp only at hinv
    refine Run.seq ?_
    refine Run.seq ?_
    refine Run.region ?_
    refine Run.q (v := .int .i64 (((k : Nat) : Int) - ((j : Nat) : Int))) rfl (OpQ.y (OpY.pure rfl)) ?_
    refine Run.q (v := .bool (decide ((((k : Nat) : Int) - ((j : Nat) : Int)) > 0))) rfl (OpQ.y (OpY.pure rfl)) ?_
    refine Run.done ?_
    refine Run.cond (b := decide ((((k : Nat) : Int) - ((j : Nat) : Int)) > 0)) rfl (fun h10 => ?_) (fun h10 => ?_)
    · have p10 := h10; try simp only [bs] at p10
      have hjk : j < k := by omega
      have hl := twR_lim j
      refine Run.skip ?_
      refine Run.seq ?_
      refine Run.block ?_
      refine Run.region ?_
      refine Run.q (v := .pointer (some ⟨b1, 3, none⟩)) rfl (OpQ.y (OpY.fieldAddr Tfo_56_3 rfl rfl)) ?_
      refine Run.q (v := .int .i64 ((twR j).d)) rfl (OpQ.y (OpY.load1 Tone_3 rfl (Cells.blk (.tail _ (List.Mem.head _)) ⟨rfl, trivial⟩))) ?_
      refine Run.q (v := .int .i64 (-((twR j).d))) rfl (OpQ.y (OpY.neg rfl (by omega) (by omega))) ?_
      refine Run.q (v := .pointer (some ⟨b1, 0, none⟩)) rfl (OpQ.y (OpY.fieldAddr Tfo_56_0 rfl rfl)) ?_
      refine Run.q (v := .int .i64 ((twR j).a)) rfl (OpQ.y (OpY.load1 Tone_3 rfl (Cells.blk (.tail _ (List.Mem.head _)) ⟨rfl, trivial⟩))) ?_
      refine Run.q (v := .pointer (some ⟨b1, 1, none⟩)) rfl (OpQ.y (OpY.fieldAddr Tfo_56_1 rfl rfl)) ?_
      refine Run.q (v := .int .i64 ((twR j).b)) rfl (OpQ.y (OpY.load1 Tone_3 rfl (Cells.blk (.tail _ (List.Mem.head _)) ⟨rfl, trivial⟩))) ?_
      refine Run.q (v := .pointer (some ⟨b1, 2, none⟩)) rfl (OpQ.y (OpY.fieldAddr Tfo_56_2 rfl rfl)) ?_
      refine Run.q (v := .int .i64 ((twR j).c)) rfl (OpQ.y (OpY.load1 Tone_3 rfl (Cells.blk (.tail _ (List.Mem.head _)) ⟨rfl, trivial⟩))) ?_
      refine Run.q (v := .agg #[.int .i64 (-((twR j).d)), .int .i64 ((twR j).a), .int .i64 ((twR j).b), .int .i64 ((twR j).c)]) rfl (OpQ.y (OpY.build (cs := [.int .i64 (-((twR j).d)), .int .i64 ((twR j).a), .int .i64 ((twR j).b), .int .i64 ((twR j).c)]) (by kernel_rfl))) ?_
      refine Run.step rfl (OpStep.storeAll (us := [.int .i64 (-((twR j).d)), .int .i64 ((twR j).a), .int .i64 ((twR j).b), .int .i64 ((twR j).c)]) Tsize_56 rfl rfl rfl (.there _ (.here _)) rfl ?_)
      refine Run.done ?_
      refine Run.blockEnd ?_
      refine Run.region ?_
      refine Run.q (v := .int .i64 (((k : Nat) : Int) - ((j : Nat) : Int))) rfl (OpQ.y (OpY.pure rfl)) ?_
      refine Run.q (v := .int .i64 ((((k : Nat) : Int) - ((j : Nat) : Int)) - 1)) rfl (OpQ.y (OpY.sub rfl rfl rfl (by omega) (by omega))) ?_
      refine Run.q (v := .int .i64 ((((k : Nat) : Int) - ((j : Nat) : Int)) - 1)) rfl (OpQ.y (OpY.pure rfl)) ?_
      refine Run.done ?_
      refine Run.goal ⟨(by repeat (first | exact Same.refl _ _ | refine Same.put rfl ?_ | refine Same.over rfl rfl ?_)), j + 1, ?_, ?_, ?_, ?_⟩
      · exact hjk
      · omega
      · exact ⟨(by show Value.int _ _ = Value.int _ _; congr 1 <;> omega), trivial⟩
      · exact (Some'.weak (.takeEq (by rfl) (.takeEq (by rfl) (.nil _))))
    · have p10 := h10; try simp only [bs] at p10
      have hjk : j = k := by omega
      refine Run.exit rfl ?_
      refine Run.seq ?_
      refine Run.region ?_
      refine Run.q (v := .agg #[.int .i64 ((twR j).a), .int .i64 ((twR j).b), .int .i64 ((twR j).c), .int .i64 ((twR j).d)]) rfl (OpQ.y (OpY.loadN (cs := [.int .i64 ((twR j).a), .int .i64 ((twR j).b), .int .i64 ((twR j).c), .int .i64 ((twR j).d)]) Tagg_56 rfl (Cells.blk (.tail _ (List.Mem.head _)) ⟨rfl, rfl, rfl, rfl, trivial⟩))) ?_
      refine Run.step rfl (OpStep.storeAll (us := [.int .i64 ((twR j).a), .int .i64 ((twR j).b), .int .i64 ((twR j).c), .int .i64 ((twR j).d)]) Tsize_56 rfl rfl rfl (.here _) rfl ?_)
      refine Run.done ?_
      refine Run.ret ?_
      refine ⟨.agg #[.int .i64 ((twR j).a), .int .i64 ((twR j).b), .int .i64 ((twR j).c), .int .i64 ((twR j).d)], [], Out.cell1 (cs := [.int .i64 ((twR j).a), .int .i64 ((twR j).b), .int .i64 ((twR j).c), .int .i64 ((twR j).d)]) rfl Tagg_56 rfl (Cells.blk (.head _) ⟨rfl, rfl, rfl, rfl, trivial⟩), (Some'.weak (.nil _)), ?_⟩
      show _ = _; rw [hjk]

set_option maxHeartbeats 1000000 in
set_option maxRecDepth 20000 in
theorem l2Cring_spec {x : R4} {bx : Nat} {bb : Bool} {w : World} (h : (Res.blk bx 47 [.bool bb]).holds w) : Calls Try.prog 19 #[.pointer (some ⟨bx, 0, none⟩), .agg #[.int .i64 (x.a), .int .i64 (x.b), .int .i64 (x.c), .int .i64 (x.d)]] w (Post (Of [.blk bx 47 [.bool bb]]) w fun v H => v = .agg #[.int .i64 ((ckR x).a), .int .i64 ((ckR x).b), .int .i64 ((ckR x).c), .int .i64 ((ckR x).d)] ∧ H = [.blk bx 47 [.bool (bb || !gdR x)]]) := by
  refine enter (n := 13) (args := [.pointer (some ⟨bx, 0, none⟩), .agg #[.int .i64 (x.a), .int .i64 (x.b), .int .i64 (x.c), .int .i64 (x.d)]]) Try.func19 rfl rfl (St.start1 h) ?_
  refine Run.seq ?_
  refine Run.region ?_
  refine Run.step rfl (OpStep.box (us := [.int .i64 (x.a), .int .i64 (x.b), .int .i64 (x.c), .int .i64 (x.d)]) rfl fun b1 => ?_)
  refine Run.step rfl (OpStep.alloc (zs := [.int .i64 0, .int .i64 0, .int .i64 0, .int .i64 0]) Tzero_56 fun b2 => ?_)
  refine Run.done ?_
  refine Run.seq ?_
  refine Run.seq ?_
  refine Run.region ?_
  refine Run.q (v := .agg #[.int .i64 (x.a), .int .i64 (x.b), .int .i64 (x.c), .int .i64 (x.d)]) rfl (OpQ.y (OpY.loadN (cs := [.int .i64 (x.a), .int .i64 (x.b), .int .i64 (x.c), .int .i64 (x.d)]) Tagg_56 rfl (Cells.blk (.tail _ (List.Mem.head _)) ⟨rfl, rfl, rfl, rfl, trivial⟩))) ?_
  refine Run.q (v := .bool (gdR x)) rfl (OpQ.call (vs := [.agg #[.int .i64 (x.a), .int .i64 (x.b), .int .i64 (x.c), .int .i64 (x.d)]]) (caps := []) Tcall_42 rfl rfl (fun w hs => l1Good_spec x w)) ?_
  refine Run.q (v := .bool (!(gdR x))) rfl (OpQ.y (OpY.pure rfl)) ?_
  refine Run.done ?_
  refine Run.cond (b := !(gdR x)) rfl (fun h7 => ?_) (fun h7 => ?_)
  · have p7 := h7; try simp only [bs] at p7
    have hg : gdR x = false := by simpa using p7
    have hc : ckR x = R4.zero := by rw [ckR, hg]; rfl
    refine Run.seq ?_
    refine Run.region ?_
    refine Run.q (v := .pointer (some ⟨bx, 0, none⟩)) rfl (OpQ.y (OpY.pure rfl)) ?_
    refine Run.q (v := .pointer (some ⟨bx, 0, none⟩)) rfl (OpQ.y (OpY.nilCheck rfl)) ?_
    refine Run.q (v := .pointer (some ⟨bx, 0, none⟩)) rfl (OpQ.y (OpY.fieldAddr Tfo_47_0 rfl rfl)) ?_
    refine Run.step rfl (OpStep.storeAll (us := [.bool true]) Tsize_4 rfl rfl rfl (.there _ (.there _ (.here _))) rfl ?_)
    refine Run.done ?_
    refine Run.seq ?_
    refine Run.region ?_
    refine Run.q (v := .agg #[.int .i64 0, .int .i64 0, .int .i64 0, .int .i64 0]) rfl (OpQ.y (OpY.build (cs := [.int .i64 0, .int .i64 0, .int .i64 0, .int .i64 0]) (by kernel_rfl))) ?_
    refine Run.step rfl (OpStep.storeAll (us := [.int .i64 0, .int .i64 0, .int .i64 0, .int .i64 0]) Tsize_56 rfl rfl rfl (.here _) rfl ?_)
    refine Run.done ?_
    refine Run.ret ?_
    refine ⟨.agg #[.int .i64 0, .int .i64 0, .int .i64 0, .int .i64 0], [.blk bx 47 [.bool (bb || !gdR x)]], Out.cell1 (cs := [.int .i64 0, .int .i64 0, .int .i64 0, .int .i64 0]) rfl Tagg_56 rfl (Cells.blk (.head _) ⟨rfl, rfl, rfl, rfl, trivial⟩), (Some'.weak (.skip (.skip (.takeEq (by first | (rw [hg]; done) | (rw [hg]; simp; done) | (rw [hg, Bool.not_true, Bool.or_false]) | (rw [hg, Bool.not_false, Bool.or_true])) (.nil _))))), ?_⟩
    exact ⟨by rw [hc]; try rfl, rfl⟩
  · have p7 := h7; try simp only [bs] at p7
    have hg : gdR x = true := by simpa using p7
    have hc : ckR x = x := by rw [ckR, if_pos hg]
    refine Run.skip ?_
    refine Run.seq ?_
    refine Run.region ?_
    refine Run.q (v := .agg #[.int .i64 (x.a), .int .i64 (x.b), .int .i64 (x.c), .int .i64 (x.d)]) rfl (OpQ.y (OpY.loadN (cs := [.int .i64 (x.a), .int .i64 (x.b), .int .i64 (x.c), .int .i64 (x.d)]) Tagg_56 rfl (Cells.blk (.tail _ (List.Mem.head _)) ⟨rfl, rfl, rfl, rfl, trivial⟩))) ?_
    refine Run.step rfl (OpStep.storeAll (us := [.int .i64 (x.a), .int .i64 (x.b), .int .i64 (x.c), .int .i64 (x.d)]) Tsize_56 rfl rfl rfl (.here _) rfl ?_)
    refine Run.done ?_
    refine Run.ret ?_
    refine ⟨.agg #[.int .i64 (x.a), .int .i64 (x.b), .int .i64 (x.c), .int .i64 (x.d)], [.blk bx 47 [.bool (bb || !gdR x)]], Out.cell1 (cs := [.int .i64 (x.a), .int .i64 (x.b), .int .i64 (x.c), .int .i64 (x.d)]) rfl Tagg_56 rfl (Cells.blk (.head _) ⟨rfl, rfl, rfl, rfl, trivial⟩), (Some'.weak (.skip (.skip (.takeEq (by first | (rw [hg]; done) | (rw [hg]; simp; done) | (rw [hg, Bool.not_true, Bool.or_false]) | (rw [hg, Bool.not_false, Bool.or_true])) (.nil _))))), ?_⟩
    exact ⟨by rw [hc]; try rfl, rfl⟩

set_option maxHeartbeats 1000000 in
set_option maxRecDepth 20000 in
theorem l2Low_spec {x : R4} {e : Nat} {w : World} (he : e ≤ 1000) (hg : gdR x = true) : Calls Try.prog 21 #[.agg #[.int .i64 (x.a), .int .i64 (x.b), .int .i64 (x.c), .int .i64 (x.d)], .int .i64 (e : Nat)] w (Post No w fun v _ => v = .agg #[.int .i64 (((dnR x e).1).a), .int .i64 (((dnR x e).1).b), .int .i64 (((dnR x e).1).c), .int .i64 (((dnR x e).1).d), .int .i64 ((((dnR x e).2 : Nat) : Int))]) := by
  refine enter (n := 18) (args := [.agg #[.int .i64 (x.a), .int .i64 (x.b), .int .i64 (x.c), .int .i64 (x.d)], .int .i64 (((e : Nat) : Int))]) Try.func21 rfl rfl (St.empty _ _) ?_
  refine Run.seq ?_
  refine Run.region ?_
  refine Run.step rfl (OpStep.box (us := [.int .i64 (x.a), .int .i64 (x.b), .int .i64 (x.c), .int .i64 (x.d)]) rfl fun b1 => ?_)
  refine Run.step rfl (OpStep.alloc (zs := [.int .i64 0, .int .i64 0, .int .i64 0, .int .i64 0, .int .i64 0]) Tzero_61 fun b2 => ?_)
  refine Run.done ?_
  refine Run.seq ?_
  refine Run.block ?_
  refine Run.loop (ι := R4 × Nat) [1, 5, 6, 7, 8, 9, 10, 11, 12, 13, 14] (fun ⟨y, k⟩ => [(1, .int .i64 (((k : Nat) : Int)))]) (fun ⟨y, k⟩ => [.blk b2 61 [.int .i64 0, .int .i64 0, .int .i64 0, .int .i64 0, .int .i64 0], .blk b1 56 [.int .i64 (y.a), .int .i64 (y.b), .int .i64 (y.c), .int .i64 (y.d)]]) (fun ⟨y, k⟩ => gdR y = true ∧ k ≤ e ∧ dnR y k = dnR x e) (fun ⟨y, k⟩ => k) (x, e) ?_ ?_ ?_ ?_
  · exact ⟨hg, Nat.le_refl _, rfl⟩
  · exact ⟨rfl, trivial⟩
  · exact (Some'.weak (.take (.takeEq (by rfl) (.nil _))))
  · rintro ⟨y, k⟩ fr hinv
    show Run _ _ (over _ _ [(1, .int .i64 (((k : Nat) : Int)))] fr) [.blk b2 61 [.int .i64 0, .int .i64 0, .int .i64 0, .int .i64 0, .int .i64 0], .blk b1 56 [.int .i64 (y.a), .int .i64 (y.b), .int .i64 (y.c), .int .i64 (y.d)]]
    try dsimp only at hinv
    refine Run.seq ?_
    refine Run.seq ?_
    refine Run.region ?_
    refine Run.q (v := .int .i64 (((k : Nat) : Int))) rfl (OpQ.y (OpY.pure rfl)) ?_
    refine Run.q (v := .bool (decide ((((k : Nat) : Int)) > 0))) rfl (OpQ.y (OpY.pure rfl)) ?_
    rcases Bool.eq_false_or_eq_true (decide ((((k : Nat) : Int)) > 0)) with h7 | h7
    · refine Run.q (v := .bool true) rfl (OpQ.y (OpY.moveB rfl h7)) ?_
      have p7 := h7; try simp only [bs] at p7
      have hk0 : 0 < k := by omega
      refine Run.q (v := .agg #[.int .i64 (y.a), .int .i64 (y.b), .int .i64 (y.c), .int .i64 (y.d)]) rfl (OpQ.y (OpY.loadN (cs := [.int .i64 (y.a), .int .i64 (y.b), .int .i64 (y.c), .int .i64 (y.d)]) Tagg_56 rfl (Cells.blk (.tail _ (List.Mem.head _)) ⟨rfl, rfl, rfl, rfl, trivial⟩))) ?_
      refine Run.q (v := .bool (evR y)) rfl (OpQ.call (vs := [.agg #[.int .i64 (y.a), .int .i64 (y.b), .int .i64 (y.c), .int .i64 (y.d)]]) (caps := []) Tcall_43 rfl rfl (fun w hs => l1Even_spec (x := y) (gd_lim hinv.1))) ?_
      refine Run.q (v := .bool (evR y)) rfl (OpQ.y (OpY.pure rfl)) ?_
      refine Run.done ?_
      refine Run.cond (b := evR y) rfl (fun h10 => ?_) (fun h10 => ?_)
      · have p10 := h10; try simp only [bs] at p10
        have hst : dnR (hfR y) (k - 1) = dnR x e := by rw [← hinv.2.2]; obtain ⟨q, rfl⟩ : ∃ q, k = q + 1 := ⟨k - 1, by omega⟩; exact (dnR_step h10).symm
        refine Run.skip ?_
        refine Run.block ?_
        refine Run.seq ?_
        refine Run.region ?_
        refine Run.q (v := .agg #[.int .i64 (y.a), .int .i64 (y.b), .int .i64 (y.c), .int .i64 (y.d)]) rfl (OpQ.y (OpY.loadN (cs := [.int .i64 (y.a), .int .i64 (y.b), .int .i64 (y.c), .int .i64 (y.d)]) Tagg_56 rfl (Cells.blk (.tail _ (List.Mem.head _)) ⟨rfl, rfl, rfl, rfl, trivial⟩))) ?_
        refine Run.q (v := .agg #[.int .i64 ((hfR y).a), .int .i64 ((hfR y).b), .int .i64 ((hfR y).c), .int .i64 ((hfR y).d)]) rfl (OpQ.call (vs := [.agg #[.int .i64 (y.a), .int .i64 (y.b), .int .i64 (y.c), .int .i64 (y.d)]]) (caps := []) Tcall_44 rfl rfl (fun w hs => l1Half_spec (x := y) (gd_lim hinv.1))) ?_
        refine Run.step rfl (OpStep.storeAll (us := [.int .i64 ((hfR y).a), .int .i64 ((hfR y).b), .int .i64 ((hfR y).c), .int .i64 ((hfR y).d)]) Tsize_56 rfl rfl rfl (.there _ (.here _)) rfl ?_)
        refine Run.done ?_
        refine Run.region ?_
        refine Run.q (v := .int .i64 (((k : Nat) : Int))) rfl (OpQ.y (OpY.pure rfl)) ?_
        refine Run.q (v := .int .i64 (((k - 1 : Nat) : Int))) rfl (OpQ.y (OpY.sub rfl rfl (by omega) (by omega) (by omega))) ?_
        refine Run.q (v := .int .i64 (((k - 1 : Nat) : Int))) rfl (OpQ.y (OpY.pure rfl)) ?_
        refine Run.done ?_
        refine Run.blockEnd ?_
        refine Run.goal ⟨(by repeat (first | exact Same.refl _ _ | refine Same.put rfl ?_ | refine Same.over rfl rfl ?_)), (hfR y, k - 1), ?_, ?_, ?_, ?_⟩
        · exact ⟨hfR_good hinv.1, by omega, hst⟩
        · show k - 1 < k; omega
        · exact ⟨(by first | rfl | (congr 1; omega) | simp), trivial⟩
        · exact (Some'.weak (.takeEq (by rfl) (.takeEq (by rfl) (.nil _))))
      · have p10 := h10; try simp only [bs] at p10
        have hfin : dnR x e = (y, k) := by rw [← hinv.2.2]; exact dnR_stop h10
        refine Run.exit rfl ?_
        refine Run.seq ?_
        refine Run.region ?_
        refine Run.q (v := .agg #[.int .i64 (y.a), .int .i64 (y.b), .int .i64 (y.c), .int .i64 (y.d)]) rfl (OpQ.y (OpY.loadN (cs := [.int .i64 (y.a), .int .i64 (y.b), .int .i64 (y.c), .int .i64 (y.d)]) Tagg_56 rfl (Cells.blk (.tail _ (List.Mem.head _)) ⟨rfl, rfl, rfl, rfl, trivial⟩))) ?_
        refine Run.q (v := .int .i64 (((k : Nat) : Int))) rfl (OpQ.y (OpY.pure rfl)) ?_
        refine Run.q (v := .agg #[.int .i64 (y.a), .int .i64 (y.b), .int .i64 (y.c), .int .i64 (y.d), .int .i64 (((k : Nat) : Int))]) rfl (OpQ.y (OpY.build (cs := [.int .i64 (y.a), .int .i64 (y.b), .int .i64 (y.c), .int .i64 (y.d), .int .i64 (((k : Nat) : Int))]) (by kernel_rfl))) ?_
        refine Run.step rfl (OpStep.storeAll (us := [.int .i64 (y.a), .int .i64 (y.b), .int .i64 (y.c), .int .i64 (y.d), .int .i64 (((k : Nat) : Int))]) Tsize_61 rfl rfl rfl (.here _) rfl ?_)
        refine Run.done ?_
        refine Run.ret ?_
        refine ⟨.agg #[.int .i64 (y.a), .int .i64 (y.b), .int .i64 (y.c), .int .i64 (y.d), .int .i64 (((k : Nat) : Int))], [], Out.cell1 (cs := [.int .i64 (y.a), .int .i64 (y.b), .int .i64 (y.c), .int .i64 (y.d), .int .i64 (((k : Nat) : Int))]) rfl Tagg_61 rfl (Cells.blk (.head _) ⟨rfl, rfl, rfl, rfl, rfl, trivial⟩), (Some'.weak (.nil _)), ?_⟩
        show _ = _; rw [hfin]
    · refine Run.q (v := .bool false) rfl (OpQ.y (OpY.moveB rfl h7)) ?_
      have p7 := h7; try simp only [bs] at p7
      have hfin : dnR x e = (y, k) := by rw [← hinv.2.2, show k = 0 by omega]; rfl
      refine Run.pass rfl ?_
      refine Run.pass rfl ?_
      refine Run.q (v := .bool false) rfl (OpQ.y (OpY.pure rfl)) ?_
      refine Run.done ?_
      refine Run.cond (b := false) rfl (fun h => nomatch h) (fun _ => ?_)
      refine Run.exit rfl ?_
      refine Run.seq ?_
      refine Run.region ?_
      refine Run.q (v := .agg #[.int .i64 (y.a), .int .i64 (y.b), .int .i64 (y.c), .int .i64 (y.d)]) rfl (OpQ.y (OpY.loadN (cs := [.int .i64 (y.a), .int .i64 (y.b), .int .i64 (y.c), .int .i64 (y.d)]) Tagg_56 rfl (Cells.blk (.tail _ (List.Mem.head _)) ⟨rfl, rfl, rfl, rfl, trivial⟩))) ?_
      refine Run.q (v := .int .i64 (((k : Nat) : Int))) rfl (OpQ.y (OpY.pure rfl)) ?_
      refine Run.q (v := .agg #[.int .i64 (y.a), .int .i64 (y.b), .int .i64 (y.c), .int .i64 (y.d), .int .i64 (((k : Nat) : Int))]) rfl (OpQ.y (OpY.build (cs := [.int .i64 (y.a), .int .i64 (y.b), .int .i64 (y.c), .int .i64 (y.d), .int .i64 (((k : Nat) : Int))]) (by kernel_rfl))) ?_
      refine Run.step rfl (OpStep.storeAll (us := [.int .i64 (y.a), .int .i64 (y.b), .int .i64 (y.c), .int .i64 (y.d), .int .i64 (((k : Nat) : Int))]) Tsize_61 rfl rfl rfl (.here _) rfl ?_)
      refine Run.done ?_
      refine Run.ret ?_
      refine ⟨.agg #[.int .i64 (y.a), .int .i64 (y.b), .int .i64 (y.c), .int .i64 (y.d), .int .i64 (((k : Nat) : Int))], [], Out.cell1 (cs := [.int .i64 (y.a), .int .i64 (y.b), .int .i64 (y.c), .int .i64 (y.d), .int .i64 (((k : Nat) : Int))]) rfl Tagg_61 rfl (Cells.blk (.head _) ⟨rfl, rfl, rfl, rfl, rfl, trivial⟩), (Some'.weak (.nil _)), ?_⟩
      show _ = _; rw [hfin]

end Go.Proofs.Ytadobifnhcafpaa
