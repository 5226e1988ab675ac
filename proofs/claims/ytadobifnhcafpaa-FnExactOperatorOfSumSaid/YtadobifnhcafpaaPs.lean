/- Walks: path sums: the laws' own functions, validity. -/
import Derived.Test.YtadobifnhcafpaaPop
import Derived.Test.YtadobifnhcafpaaCi
import Derived.Test.YtadobifnhcafpaaProg
set_option linter.unusedSimpArgs false
set_option linter.unusedVariables false
namespace Go.Proofs.Ytadobifnhcafpaa
open Go Go.RowKit
namespace PsT
theorem Tagg_35 : aggOf Try.prog 35 = some 6 := by kernel_rfl
theorem Tagg_51 : aggOf Try.prog 51 = some 2 := by kernel_rfl
theorem Tagg_54 : aggOf Try.prog 54 = some 2 := by kernel_rfl
theorem Tagg_88 : aggOf Try.prog 88 = some 2 := by kernel_rfl
theorem Tagg_90 : aggOf Try.prog 90 = some 2 := by kernel_rfl
theorem Tcall_13 : callable Try.prog 13 = true := by kernel_rfl
theorem Tcall_14 : callable Try.prog 14 = true := by kernel_rfl
theorem Tcall_24 : callable Try.prog 24 = true := by kernel_rfl
theorem Tcall_25 : callable Try.prog 25 = true := by kernel_rfl
theorem Tcall_33 : callable Try.prog 33 = true := by kernel_rfl
theorem Tcall_34 : callable Try.prog 34 = true := by kernel_rfl
theorem Tcall_39 : callable Try.prog 39 = true := by kernel_rfl
theorem Tcall_40 : callable Try.prog 40 = true := by kernel_rfl
theorem Tcall_45 : callable Try.prog 45 = true := by kernel_rfl
theorem Tcall_46 : callable Try.prog 46 = true := by kernel_rfl
theorem Tcall_47 : callable Try.prog 47 = true := by kernel_rfl
theorem Tcall_48 : callable Try.prog 48 = true := by kernel_rfl
theorem Tcall_49 : callable Try.prog 49 = true := by kernel_rfl
theorem Tcall_50 : callable Try.prog 50 = true := by kernel_rfl
theorem Tcall_51 : callable Try.prog 51 = true := by kernel_rfl
theorem Tcall_59 : callable Try.prog 59 = true := by kernel_rfl
theorem Tcall_60 : callable Try.prog 60 = true := by kernel_rfl
theorem Tcall_63 : callable Try.prog 63 = true := by kernel_rfl
theorem Tfo_25_0 : fieldOff Try.prog 25 0 = some 0 := by kernel_rfl
theorem Tfo_25_1 : fieldOff Try.prog 25 1 = some 1 := by kernel_rfl
theorem Tfo_25_2 : fieldOff Try.prog 25 2 = some 2 := by kernel_rfl
theorem Tfo_25_3 : fieldOff Try.prog 25 3 = some 3 := by kernel_rfl
theorem Tfo_25_4 : fieldOff Try.prog 25 4 = some 4 := by kernel_rfl
theorem Tfo_25_5 : fieldOff Try.prog 25 5 = some 5 := by kernel_rfl
theorem Tfo_35_0 : fieldOff Try.prog 35 0 = some 0 := by kernel_rfl
theorem Tfo_35_1 : fieldOff Try.prog 35 1 = some 1 := by kernel_rfl
theorem Tfo_35_2 : fieldOff Try.prog 35 2 = some 2 := by kernel_rfl
theorem Tfo_35_3 : fieldOff Try.prog 35 3 = some 3 := by kernel_rfl
theorem Tfo_35_4 : fieldOff Try.prog 35 4 = some 4 := by kernel_rfl
theorem Tfo_35_5 : fieldOff Try.prog 35 5 = some 5 := by kernel_rfl
theorem Tfo_51_0 : fieldOff Try.prog 51 0 = some 0 := by kernel_rfl
theorem Tfo_51_1 : fieldOff Try.prog 51 1 = some 1 := by kernel_rfl
theorem Tfo_54_0 : fieldOff Try.prog 54 0 = some 0 := by kernel_rfl
theorem Tfo_54_1 : fieldOff Try.prog 54 1 = some 1 := by kernel_rfl
theorem Tfo_88_0 : fieldOff Try.prog 88 0 = some 0 := by kernel_rfl
theorem Tfo_88_1 : fieldOff Try.prog 88 1 = some 1 := by kernel_rfl
theorem Tfo_90_0 : fieldOff Try.prog 90 0 = some 0 := by kernel_rfl
theorem Tfo_90_1 : fieldOff Try.prog 90 1 = some 1 := by kernel_rfl
theorem Tint_48 : Try.prog.underlying 48 = some (.int .u64) := by kernel_rfl
theorem Tone_22 : oneOf Try.prog 22 = true := by kernel_rfl
theorem Tone_23 : oneOf Try.prog 23 = true := by kernel_rfl
theorem Tone_3 : oneOf Try.prog 3 = true := by kernel_rfl
theorem Tone_32 : oneOf Try.prog 32 = true := by kernel_rfl
theorem Tone_33 : oneOf Try.prog 33 = true := by kernel_rfl
theorem Tsize_3 : (Try.prog.info? 3).map (·.size) = some 1 := by kernel_rfl
theorem Tsize_32 : (Try.prog.info? 32).map (·.size) = some 1 := by kernel_rfl
theorem Tsize_33 : (Try.prog.info? 33).map (·.size) = some 1 := by kernel_rfl
theorem Tsize_35 : (Try.prog.info? 35).map (·.size) = some 6 := by kernel_rfl
theorem Tsize_51 : (Try.prog.info? 51).map (·.size) = some 2 := by kernel_rfl
theorem Tsize_54 : (Try.prog.info? 54).map (·.size) = some 2 := by kernel_rfl
theorem Tsl_22 : sliceOf Try.prog 22 = some (88, 2, 16, [.int .i64 0, .int .i64 0]) := by kernel_rfl
theorem Tsl_23 : sliceOf Try.prog 23 = some (90, 2, 16, [.int .i64 0, .int .i64 0]) := by kernel_rfl
theorem Tsl_32 : sliceOf Try.prog 32 = some (51, 2, 16, [.int .i64 0, .int .i64 0]) := by kernel_rfl
theorem Tsl_33 : sliceOf Try.prog 33 = some (54, 2, 16, [.int .i64 0, .int .i64 0]) := by kernel_rfl
theorem Tsl_83 : sliceOf Try.prog 83 = some (3, 1, 8, [.int .i64 0]) := by kernel_rfl
theorem Tsome_3 : (Try.prog.underlying 3).isSome = true := by kernel_rfl
theorem Tzero_3 : zeroOf Try.prog 3 = some [.int .i64 0] := by kernel_rfl
theorem Tzero_35 : zeroOf Try.prog 35 = some [.int .i64 0, .int .i64 0, .int .i64 0, .int .i64 0, .slice none 0 0, .slice none 0 0] := by kernel_rfl
theorem Tzero_51 : zeroOf Try.prog 51 = some [.int .i64 0, .int .i64 0] := by kernel_rfl
theorem Tzero_54 : zeroOf Try.prog 54 = some [.int .i64 0, .int .i64 0] := by kernel_rfl
end PsT
open PsT

/-- Term i is in range, behind the one before it, and of a coefficient that suits its number of variables. -/
def termOk (PW : Int) (xs : List Int) (i : Nat) : Bool :=
  within (ix xs (i * 2)) 1 (PW - 1) && within (ix xs (i * 2 + 1)) 1 7 && decide (0 < i → ix xs ((i - 1) * 2) < ix xs (i * 2)) && decide ((setL (ix xs (i * 2))).length ≤ 3) && decide (ix xs (i * 2 + 1) % 2 ^ ((setL (ix xs (i * 2))).length - 1) = 0)
def affOk (PW : Int) (xs : List Int) (i : Nat) : Bool := within (ix xs (i * 2)) 0 (PW - 1) && within (ix xs (i * 2 + 1)) 0 1
def psHead (I V R F : Int) (no : Nat) : Bool := within I 1 5 && within V 0 (24 - I) && within R (-60) 60 && within F 0 7 && decide ((no : Int) = I)
def psOk (I V R F : Int) (ts : List Int) (nt : Nat) (os : List Int) (no : Nat) : Bool :=
  psHead I V R F no && !anyI (fun i => !termOk (2 ^ (I + V).toNat) ts i) nt && !anyI (fun i => !affOk (2 ^ (I + V).toNat) os i) no
theorem psHead_iff {I V R F : Int} {no : Nat} (h : psHead I V R F no = true) : (1 ≤ I ∧ I ≤ 5) ∧ (0 ≤ V ∧ V ≤ 24 - I) ∧ (-60 ≤ R ∧ R ≤ 60) ∧ (0 ≤ F ∧ F ≤ 7) ∧ (no : Int) = I := by
  simpa [psHead, within, and_assoc] using h
theorem pow_le24 {n : Nat} (h : n ≤ 24) : (1 : Int) ≤ 2 ^ n ∧ (2 : Int) ^ n ≤ 16777216 := by
  have h1 : 2 ^ n ≤ 16777216 := Nat.pow_le_pow_right (n := 2) (by omega) h
  have h2 : 1 ≤ 2 ^ n := Nat.one_le_two_pow
  have e : (2 : Int) ^ n = ((2 ^ n : Nat) : Int) := by norm_cast
  rw [e]; omega
def PWof (NN PW : Int) : Prop := (1 : Int) * 2 ^ NN.toNat = PW
theorem set_pos {x : Int} (h1 : 1 ≤ x) (hx : x < 16777216) : 1 ≤ (setL x).length := by
  refine Decidable.byContradiction fun h => ?_
  have h0 : (setL x).length = 0 := by omega
  obtain ⟨n, rfl⟩ : ∃ n : Nat, x = n := ⟨x.toNat, by omega⟩
  rw [setL, filterL_length] at h0
  have hz : ∀ m, m ≤ 24 → n % 2 ^ m = 0 := by
    intro m
    induction m with
    | zero => intro _; exact Nat.mod_one n
    | succ m ih =>
      intro hm
      have i1 := ih (by omega)
      have hb : bitI (n : Int) m = false := by
        cases hb : bitI (n : Int) m with
        | false => rfl
        | true => have := cntP_lt (p := fun _ => false) (q := fun k => bitI (n : Int) k) (n := 24) (by simp) ⟨m, by omega, rfl, hb⟩; omega
      rw [bitI_nat, decide_eq_false_iff_not] at hb
      have : n % 2 ^ (m + 1) = n % 2 ^ m + 2 ^ m * (n / 2 ^ m % 2) := Nat.mod_pow_succ
      rw [this, i1, show n / 2 ^ m % 2 = 0 by omega]; simp
  have := hz 24 (Nat.le_refl _)
  omega
theorem rem_one (x : Int) : x % 2 ^ 0 = 0 := by simp [Int.emod_one]
theorem pow3 {k : Nat} (h1 : 1 ≤ k) (h3 : k ≤ 3) : ((2 : Int) ^ (k - 1) = [1, 1, 2, 4].getD k 0) := by
  rcases (by omega : k = 1 ∨ k = 2 ∨ k = 3) with rfl | rfl | rfl <;> rfl

set_option maxHeartbeats 1000000 in
set_option maxRecDepth 20000 in
theorem eqTerm_spec (x0 x1 y0 y1 : Int) (w : World) : Calls Try.prog 59 #[.agg #[.int .i64 x0, .int .i64 x1], .agg #[.int .i64 y0, .int .i64 y1]] w (Post No w fun v _ => v = .bool (decide ([x0, x1] = [y0, y1]))) := by
  refine enter (n := 15) (args := [.agg #[.int .i64 x0, .int .i64 x1], .agg #[.int .i64 y0, .int .i64 y1]]) Try.func59 rfl rfl (St.empty _ _) ?_
  refine Run.seq ?_
  refine Run.region ?_
  refine Run.step rfl (OpStep.box (us := [.int .i64 x0, .int .i64 x1]) rfl fun b1 => ?_)
  refine Run.step rfl (OpStep.box (us := [.int .i64 y0, .int .i64 y1]) rfl fun b2 => ?_)
  refine Run.q (v := .bool false) rfl (OpQ.y (OpY.pure rfl)) ?_
  refine Run.done ?_
  refine Run.seq ?_
  refine Run.seq ?_
  refine Run.region ?_
  refine Run.q (v := .pointer (some ⟨b1, 0, none⟩)) rfl (OpQ.y (OpY.fieldAddr Tfo_51_0 rfl rfl)) ?_
  refine Run.q (v := .int .i64 x0) rfl (OpQ.y (OpY.load1 Tone_3 rfl (Cells.blk (.tail _ (List.Mem.head _)) ⟨rfl, trivial⟩))) ?_
  refine Run.q (v := .pointer (some ⟨b2, 0, none⟩)) rfl (OpQ.y (OpY.fieldAddr Tfo_51_0 rfl rfl)) ?_
  refine Run.q (v := .int .i64 y0) rfl (OpQ.y (OpY.load1 Tone_3 rfl (Cells.blk (.head _) ⟨rfl, trivial⟩))) ?_
  refine Run.q (v := .bool (x0 != y0)) rfl (OpQ.y (OpY.pure rfl)) ?_
  refine Run.done ?_
  refine Run.cond (b := x0 != y0) rfl (fun h9 => ?_) (fun h9 => ?_)
  · have p9 := h9; try simp only [bs] at p9
    refine Run.seq ?_
    refine Run.region ?_
    refine Run.q (v := .bool false) rfl (OpQ.y (OpY.pure rfl)) ?_
    refine Run.done ?_
    refine Run.ret ?_
    refine ⟨.bool false, [], Out.one rfl rfl, (Some'.weak (.nil _)), ?_⟩
    show _ = _; simp_all
  · have p9 := h9; try simp only [bs] at p9
    refine Run.skip ?_
    refine Run.seq ?_
    refine Run.seq ?_
    refine Run.region ?_
    refine Run.q (v := .pointer (some ⟨b1, 1, none⟩)) rfl (OpQ.y (OpY.fieldAddr Tfo_51_1 rfl rfl)) ?_
    refine Run.q (v := .int .i64 x1) rfl (OpQ.y (OpY.load1 Tone_3 rfl (Cells.blk (.tail _ (List.Mem.head _)) ⟨rfl, trivial⟩))) ?_
    refine Run.q (v := .pointer (some ⟨b2, 1, none⟩)) rfl (OpQ.y (OpY.fieldAddr Tfo_51_1 rfl rfl)) ?_
    refine Run.q (v := .int .i64 y1) rfl (OpQ.y (OpY.load1 Tone_3 rfl (Cells.blk (.head _) ⟨rfl, trivial⟩))) ?_
    refine Run.q (v := .bool (x1 != y1)) rfl (OpQ.y (OpY.pure rfl)) ?_
    refine Run.done ?_
    refine Run.cond (b := x1 != y1) rfl (fun h14 => ?_) (fun h14 => ?_)
    · have p14 := h14; try simp only [bs] at p14
      refine Run.seq ?_
      refine Run.region ?_
      refine Run.q (v := .bool false) rfl (OpQ.y (OpY.pure rfl)) ?_
      refine Run.done ?_
      refine Run.ret ?_
      refine ⟨.bool false, [], Out.one rfl rfl, (Some'.weak (.nil _)), ?_⟩
      show _ = _; simp_all
    · have p14 := h14; try simp only [bs] at p14
      refine Run.skip ?_
      refine Run.seq ?_
      refine Run.region ?_
      refine Run.q (v := .bool true) rfl (OpQ.y (OpY.pure rfl)) ?_
      refine Run.done ?_
      refine Run.ret ?_
      refine ⟨.bool true, [], Out.one rfl rfl, (Some'.weak (.nil _)), ?_⟩
      show _ = _; simp_all

set_option maxHeartbeats 1000000 in
set_option maxRecDepth 20000 in
theorem eqTermS_spec {va vb : Value} {n m : Nat} {xs ys : List Int} {w : World} (ha : Sl w va 2 n (ints xs)) (hb : Sl w vb 2 m (ints ys)) :
    Calls Try.prog 33 #[va, vb] w (Post No w fun v _ => v = .bool (decide (xs = ys))) := by
  have hxl := ha.len
  have hyl := hb.len
  have hn := ha.le
  obtain ⟨A, c, rfl, _, _⟩ := ha.form0
  obtain ⟨B, d, rfl, _, _⟩ := hb.form0
  refine enter (n := 27) (args := [.slice A n c, .slice B m d]) Try.func33 rfl rfl (St.empty _ _) ?_
  refine Run.seq ?_
  refine Run.region ?_
  refine Run.q (v := .bool false) rfl (OpQ.y (OpY.pure rfl)) ?_
  refine Run.done ?_
  refine Run.seq ?_
  refine Run.seq ?_
  refine Run.region ?_
  refine Run.q (v := .slice A n c) rfl (OpQ.y (OpY.pure rfl)) ?_
  refine Run.q (v := .int .i64 (((n : Nat) : Int))) rfl (OpQ.y (OpY.len Tsl_32 rfl)) ?_
  refine Run.q (v := .slice B m d) rfl (OpQ.y (OpY.pure rfl)) ?_
  refine Run.q (v := .int .i64 (((m : Nat) : Int))) rfl (OpQ.y (OpY.len Tsl_32 rfl)) ?_
  refine Run.q (v := .bool ((((n : Nat) : Int)) != (((m : Nat) : Int)))) rfl (OpQ.y (OpY.pure rfl)) ?_
  refine Run.done ?_
  refine Run.cond (b := (((n : Nat) : Int)) != (((m : Nat) : Int))) rfl (fun h10 => ?_) (fun h10 => ?_)
  · have p10 := h10; try simp only [bs] at p10
    have hne : ¬ xs = ys := by intro e; subst e; simp at h10; omega
    refine Run.seq ?_
    refine Run.region ?_
    refine Run.q (v := .bool false) rfl (OpQ.y (OpY.pure rfl)) ?_
    refine Run.done ?_
    refine Run.ret ?_
    refine ⟨.bool false, [], Out.one rfl rfl, (Some'.weak (.nil _)), ?_⟩
    show _ = _; simp_all
  · have p10 := h10; try simp only [bs] at p10
    have hnm : m = n := by simp at h10; omega
    have hyl2 : ys.length = n * 2 := by rw [hyl, hnm]
    refine Run.skip ?_
    refine Run.seq ?_
    refine Run.seq ?_
    refine Run.region ?_
    refine Run.q (v := .int .i64 0) rfl (OpQ.y (OpY.pure rfl)) ?_
    refine Run.done ?_
    refine Run.block ?_
    refine Run.loop (ι := Nat) [4, 5, 11, 12, 13, 14, 15, 16, 17, 18, 19, 20, 21, 22, 23, 24, 25, 26] (fun k => [(5, .int .i64 (((k : Nat) : Int)))]) (fun k => []) (fun k => k ≤ n ∧ ∀ j, j < k * 2 → ix xs j = ix ys j) (fun k => n - k) 0 ?_ ?_ ?_ ?_
    · exact ⟨Nat.zero_le _, fun j hj => by omega⟩
    · exact ⟨rfl, trivial⟩
    · exact (Some'.weak (.nil _))
    · rintro k fr hinv
      show Run _ _ (over _ _ [(5, .int .i64 (((k : Nat) : Int)))] fr) []
      try dsimp only at hinv
      refine Run.seq ?_
      refine Run.seq ?_
      refine Run.region ?_
      refine Run.q (v := .int .i64 (((k : Nat) : Int))) rfl (OpQ.y (OpY.pure rfl)) ?_
      refine Run.q (v := .slice A n c) rfl (OpQ.y (OpY.pure rfl)) ?_
      refine Run.q (v := .int .i64 (((n : Nat) : Int))) rfl (OpQ.y (OpY.len Tsl_32 rfl)) ?_
      refine Run.q (v := .bool (decide ((((k : Nat) : Int)) < (((n : Nat) : Int))))) rfl (OpQ.y (OpY.pure rfl)) ?_
      refine Run.done ?_
      refine Run.cond (b := decide ((((k : Nat) : Int)) < (((n : Nat) : Int)))) rfl (fun h14 => ?_) (fun h14 => ?_)
      · have p14 := h14; try simp only [bs] at p14
        have hlt : k < n := by simp at h14; omega
        obtain ⟨b, o, rfl⟩ := ha.opn (by omega)
        obtain ⟨b2, o2, rfl⟩ := hb.opn (by omega)
        refine Run.skip ?_
        refine Run.seq ?_
        refine Run.block ?_
        refine Run.seq ?_
        refine Run.draws (by kernel_rfl) (by kernel_rfl) ?_
        refine Lex.q (v := .slice (some ⟨b, o, none⟩) n c) rfl (OpQ.y (OpY.pure rfl)) ?_
        refine Lex.q (v := .int .i64 (((k : Nat) : Int))) rfl (OpQ.y (OpY.pure rfl)) ?_
        refine Lex.q (v := .pointer (some ⟨b, o + k * 2, none⟩)) rfl (OpQ.y (OpY.index (kk := k) Tsl_32 rfl rfl (by omega) (by omega) (by first | rfl | omega))) ?_
        refine Lex.q (v := .agg #[.int .i64 (ix xs (k * 2)), .int .i64 (ix xs (k * 2 + 1))]) rfl (OpQ.y (OpY.loadN (cs := [.int .i64 (ix xs (k * 2)), .int .i64 (ix xs (k * 2 + 1))]) Tagg_51 rfl (Cells.arg (k := k * 2) ha rfl (by omega) (pre2 (by omega))))) ?_
        refine Lex.q (v := .slice (some ⟨b2, o2, none⟩) m d) rfl (OpQ.y (OpY.pure rfl)) ?_
        refine Lex.q (v := .int .i64 (((k : Nat) : Int))) rfl (OpQ.y (OpY.pure rfl)) ?_
        refine Lex.q (v := .pointer (some ⟨b2, o2 + k * 2, none⟩)) rfl (OpQ.y (OpY.index (kk := k) Tsl_32 rfl rfl (by omega) (by omega) (by first | rfl | omega))) ?_
        refine Lex.q (v := .agg #[.int .i64 (ix ys (k * 2)), .int .i64 (ix ys (k * 2 + 1))]) rfl (OpQ.y (OpY.loadN (cs := [.int .i64 (ix ys (k * 2)), .int .i64 (ix ys (k * 2 + 1))]) Tagg_51 rfl (Cells.arg (k := k * 2) hb rfl (by omega) (pre2 (by omega))))) ?_
        refine Lex.q (v := .bool (decide ([ix xs (k * 2), ix xs (k * 2 + 1)] = [ix ys (k * 2), ix ys (k * 2 + 1)]))) rfl (OpQ.call (vs := [.agg #[.int .i64 (ix xs (k * 2)), .int .i64 (ix xs (k * 2 + 1))], .agg #[.int .i64 (ix ys (k * 2)), .int .i64 (ix ys (k * 2 + 1))]]) (caps := []) Tcall_59 rfl rfl (fun w hs => eqTerm_spec _ _ _ _ w)) ?_
        refine Lex.q (v := .bool (!(decide ([ix xs (k * 2), ix xs (k * 2 + 1)] = [ix ys (k * 2), ix ys (k * 2 + 1)])))) rfl (OpQ.y (OpY.pure rfl)) ?_
        refine Lex.done ?_
        refine Run.cond (b := !(decide ([ix xs (k * 2), ix xs (k * 2 + 1)] = [ix ys (k * 2), ix ys (k * 2 + 1)]))) rfl (fun h26 => ?_) (fun h26 => ?_)
        · have p26 := h26; try simp only [bs] at p26
          have hne : ¬ xs = ys := by intro e; subst e; simp at h26
          refine Run.seq ?_
          refine Run.region ?_
          refine Run.q (v := .bool false) rfl (OpQ.y (OpY.pure rfl)) ?_
          refine Run.done ?_
          refine Run.ret ?_
          refine ⟨.bool false, [], Out.one rfl rfl, (Some'.weak (.nil _)), ?_⟩
          show _ = _; simp_all
        · have p26 := h26; try simp only [bs] at p26
          simp at h26
          refine Run.skip ?_
          refine Run.blockEnd ?_
          refine Run.region ?_
          refine Run.q (v := .int .i64 (((k : Nat) : Int))) rfl (OpQ.y (OpY.pure rfl)) ?_
          refine Run.q (v := .int .i64 ((((k : Nat) : Int)) + 1)) rfl (OpQ.y (OpY.add rfl rfl rfl (by omega) (by omega))) ?_
          refine Run.q (v := .int .i64 ((((k : Nat) : Int)) + 1)) rfl (OpQ.y (OpY.pure rfl)) ?_
          refine Run.done ?_
          refine Run.goal ⟨(by repeat (first | exact Same.refl _ _ | refine Same.put rfl ?_ | refine Same.over rfl rfl ?_)), k + 1, ?_, ?_, ?_, ?_⟩
          · refine ⟨by omega, fun j hj => ?_⟩
            by_cases h : j < k * 2
            · exact hinv.2 j h
            · rcases (by omega : j = k * 2 ∨ j = k * 2 + 1) with rfl | rfl <;> simp [h26]
          · omega
          · exact ⟨(by first | rfl | (congr 1; omega) | simp), trivial⟩
          · exact (Some'.weak (.nil _))
      · have p14 := h14; try simp only [bs] at p14
        have hkn : k = n := by simp at h14; omega
        have heq : xs = ys := list_ext_ix (by omega) fun j hj => hinv.2 j (by omega)
        refine Run.exit rfl ?_
        refine Run.seq ?_
        refine Run.region ?_
        refine Run.q (v := .bool true) rfl (OpQ.y (OpY.pure rfl)) ?_
        refine Run.done ?_
        refine Run.ret ?_
        refine ⟨.bool true, [], Out.one rfl rfl, (Some'.weak (.nil _)), ?_⟩
        show _ = _; simp_all


theorem eqTermS_true {va vb : Value} {n m : Nat} {xs ys : List Int} {w : World} (ha : Sl w va 2 n (ints xs)) (hb : Sl w vb 2 m (ints ys)) (he : xs = ys) :
    Calls Try.prog 33 #[va, vb] w (Post No w fun v _ => v = .bool true) :=
  (eqTermS_spec ha hb).mono fun _ _ ⟨v, H, h1, h2, h3⟩ => ⟨v, H, h1, h2, by simpa [he] using h3⟩

set_option maxHeartbeats 1000000 in
set_option maxRecDepth 20000 in
theorem szTermS_spec {va : Value} {n : Nat} {xs : List Int} {left : Int} {w : World} (ha : Sl w va 2 n (ints xs)) (h0 : 0 ≤ left) (h1 : left ≤ 1048576) :
    Calls Try.prog 13 #[va, .int .i64 left] w (Post No w fun v _ => v = .int .i64 (szN left [n])) := by
  have hn := ha.le
  obtain ⟨A, c, rfl, _, _⟩ := ha.form0
  refine enter (n := 12) (args := [.slice A n c, .int .i64 left]) Try.func13 rfl rfl (St.empty _ _) ?_
  refine Run.seq ?_
  refine Run.region ?_
  refine Run.q (v := .int .i64 0) rfl (OpQ.y (OpY.pure rfl)) ?_
  refine Run.done ?_
  refine Run.seq ?_
  refine Run.region ?_
  refine Run.q (v := .int .i64 left) rfl (OpQ.y (OpY.pure rfl)) ?_
  refine Run.q (v := .slice A n c) rfl (OpQ.y (OpY.pure rfl)) ?_
  refine Run.q (v := .int .i64 (((n : Nat) : Int))) rfl (OpQ.y (OpY.len Tsl_22 rfl)) ?_
  refine Run.q (v := .int .i64 (left - (((n : Nat) : Int)))) rfl (OpQ.y (OpY.sub rfl rfl rfl (by omega) (by omega))) ?_
  refine Run.q (v := .int .i64 (left - (((n : Nat) : Int)))) rfl (OpQ.y (OpY.pure rfl)) ?_
  refine Run.done ?_
  refine Run.seq ?_
  refine Run.seq ?_
  refine Run.region ?_
  refine Run.q (v := .int .i64 (left - (((n : Nat) : Int)))) rfl (OpQ.y (OpY.pure rfl)) ?_
  refine Run.q (v := .bool (decide ((left - (((n : Nat) : Int))) < 0))) rfl (OpQ.y (OpY.pure rfl)) ?_
  refine Run.done ?_
  refine Run.cond (b := decide ((left - (((n : Nat) : Int))) < 0)) rfl (fun h10 => ?_) (fun h10 => ?_)
  · have p10 := h10; try simp only [bs] at p10
    refine Run.seq ?_
    refine Run.region ?_
    refine Run.q (v := .int .i64 (-1)) rfl (OpQ.y (OpY.pure rfl)) ?_
    refine Run.done ?_
    refine Run.ret ?_
    refine ⟨.int .i64 (-1), [], Out.one rfl rfl, (Some'.weak (.nil _)), ?_⟩
    show _ = _; simp at h10; simp only [szN]; first | rw [if_pos (by omega)] | rw [if_neg (by omega)]
  · have p10 := h10; try simp only [bs] at p10
    refine Run.skip ?_
    refine Run.seq ?_
    refine Run.region ?_
    refine Run.q (v := .int .i64 (left - (((n : Nat) : Int)))) rfl (OpQ.y (OpY.pure rfl)) ?_
    refine Run.q (v := .int .i64 (left - (((n : Nat) : Int)))) rfl (OpQ.y (OpY.pure rfl)) ?_
    refine Run.done ?_
    refine Run.ret ?_
    refine ⟨.int .i64 (left - (((n : Nat) : Int))), [], Out.one rfl rfl, (Some'.weak (.nil _)), ?_⟩
    show _ = _; simp at h10; simp only [szN]; first | rw [if_pos (by omega)] | rw [if_neg (by omega)]

set_option maxHeartbeats 1000000 in
set_option maxRecDepth 20000 in
theorem toTerm_spec (x0 x1 : Int) (w : World) : Calls Try.prog 45 #[.agg #[.int .i64 x0, .int .i64 x1]] w (Post No w fun v _ => v = .agg #[.int .i64 x0, .int .i64 x1]) := by
  refine enter (n := 11) (args := [.agg #[.int .i64 x0, .int .i64 x1]]) Try.func45 rfl rfl (St.empty _ _) ?_
  refine Run.seq ?_
  refine Run.region ?_
  refine Run.step rfl (OpStep.box (us := [.int .i64 x0, .int .i64 x1]) rfl fun b1 => ?_)
  refine Run.step rfl (OpStep.alloc (zs := [.int .i64 0, .int .i64 0]) Tzero_51 fun b2 => ?_)
  refine Run.done ?_
  refine Run.seq ?_
  refine Run.region ?_
  refine Run.step rfl (OpStep.alloc (zs := [.int .i64 0, .int .i64 0]) Tzero_51 fun b3 => ?_)
  refine Run.done ?_
  refine Run.seq ?_
  refine Run.region ?_
  refine Run.q (v := .pointer (some ⟨b1, 0, none⟩)) rfl (OpQ.y (OpY.fieldAddr Tfo_88_0 rfl rfl)) ?_
  refine Run.q (v := .int .i64 x0) rfl (OpQ.y (OpY.load1 Tone_3 rfl (Cells.blk (.tail _ (.tail _ (List.Mem.head _))) ⟨rfl, trivial⟩))) ?_
  refine Run.q (v := .pointer (some ⟨b3, 0, none⟩)) rfl (OpQ.y (OpY.fieldAddr Tfo_51_0 rfl rfl)) ?_
  refine Run.step rfl (OpStep.store (us := [.int .i64 x0]) Tsize_3 rfl rfl rfl (.here _) (by simp only [List.length_cons, List.length_nil]; omega) ?_)
  show Run _ _ _ [.blk b3 51 [.int .i64 x0, .int .i64 0], .blk b2 51 [.int .i64 0, .int .i64 0], .blk b1 88 [.int .i64 x0, .int .i64 x1]]
  refine Run.done ?_
  refine Run.seq ?_
  refine Run.region ?_
  refine Run.q (v := .pointer (some ⟨b1, 1, none⟩)) rfl (OpQ.y (OpY.fieldAddr Tfo_88_1 rfl rfl)) ?_
  refine Run.q (v := .int .i64 x1) rfl (OpQ.y (OpY.load1 Tone_3 rfl (Cells.blk (.tail _ (.tail _ (List.Mem.head _))) ⟨rfl, trivial⟩))) ?_
  refine Run.q (v := .pointer (some ⟨b3, 1, none⟩)) rfl (OpQ.y (OpY.fieldAddr Tfo_51_1 rfl rfl)) ?_
  refine Run.step rfl (OpStep.store (us := [.int .i64 x1]) Tsize_3 rfl rfl rfl (.here _) (by simp only [List.length_cons, List.length_nil]; omega) ?_)
  show Run _ _ _ [.blk b3 51 [.int .i64 x0, .int .i64 x1], .blk b2 51 [.int .i64 0, .int .i64 0], .blk b1 88 [.int .i64 x0, .int .i64 x1]]
  refine Run.done ?_
  refine Run.seq ?_
  refine Run.region ?_
  refine Run.q (v := .agg #[.int .i64 x0, .int .i64 x1]) rfl (OpQ.y (OpY.loadN (cs := [.int .i64 x0, .int .i64 x1]) Tagg_51 rfl (Cells.blk (.head _) ⟨rfl, rfl, trivial⟩))) ?_
  refine Run.step rfl (OpStep.storeAll (us := [.int .i64 x0, .int .i64 x1]) Tsize_51 rfl rfl rfl (.there _ (.here _)) rfl ?_)
  refine Run.done ?_
  refine Run.ret ?_
  refine ⟨.agg #[.int .i64 x0, .int .i64 x1], [], Out.cell1 (cs := [.int .i64 x0, .int .i64 x1]) rfl Tagg_51 rfl (Cells.blk (.tail _ (List.Mem.head _)) ⟨rfl, rfl, trivial⟩), (Some'.weak (.nil _)), ?_⟩
  rfl

set_option maxHeartbeats 1000000 in
set_option maxRecDepth 20000 in
theorem toTermS_spec {va : Value} {n : Nat} {xs : List Int} {w : World} (ha : Sl w va 2 n (ints xs)) (hb : n ≤ 1048576) :
    Calls Try.prog 24 #[va] w (Post No w fun v H => H = [.own v 51 2 n (ints xs)]) := by
  have hxl := ha.len
  obtain ⟨A, c, rfl, _, _⟩ := ha.form0
  refine enter (n := 23) (args := [.slice A n c]) Try.func24 rfl rfl (St.empty _ _) ?_
  refine Run.seq ?_
  refine Run.region ?_
  refine Run.q (v := .slice none 0 0) rfl (OpQ.y (OpY.pure rfl)) ?_
  refine Run.done ?_
  refine Run.seq ?_
  refine Run.region ?_
  refine Run.q (v := .slice A n c) rfl (OpQ.y (OpY.pure rfl)) ?_
  refine Run.q (v := .int .i64 (((n : Nat) : Int))) rfl (OpQ.y (OpY.len Tsl_22 rfl)) ?_
  refine Run.step rfl (OpStep.makeSlice (n := n) Tsl_32 rfl (by decide) (by first | rfl | omega) (by first | rfl | omega) (by omega) (by simp only [maxLen]; omega) fun b1 => ?_)
  refine Run.q (v := .slice (some ⟨b1, 0, none⟩) n n) rfl (OpQ.y (OpY.pure rfl)) ?_
  refine Run.done ?_
  refine Run.seq ?_
  refine Run.seq ?_
  refine Run.region ?_
  refine Run.q (v := .int .i64 0) rfl (OpQ.y (OpY.pure rfl)) ?_
  refine Run.done ?_
  refine Run.block ?_
  refine Run.loop (ι := Nat) [4, 8, 9, 10, 11, 12, 13, 14, 15, 16, 17, 18, 19, 20, 21] (fun i => [(4, .int .i64 (((i : Nat) : Int)))]) (fun i => [.own (.slice (some ⟨b1, 0, none⟩) n n) 51 2 n (ints (filled (i * 2) xs))]) (fun i => i ≤ n) (fun i => n - i) 0 ?_ ?_ ?_ ?_
  · exact Nat.zero_le _
  · exact ⟨rfl, trivial⟩
  · exact (Some'.weak (.takeEq (by rw [Nat.zero_mul]; exact congrArg (Res.own _ _ _ _) (filled_zero hxl)) (.nil _)))
  · rintro i fr hinv
    show Run _ _ (over _ _ [(4, .int .i64 (((i : Nat) : Int)))] fr) [.own (.slice (some ⟨b1, 0, none⟩) n n) 51 2 n (ints (filled (i * 2) xs))]
    try dsimp only at hinv
    refine Run.seq ?_
    refine Run.seq ?_
    refine Run.region ?_
    refine Run.q (v := .int .i64 (((i : Nat) : Int))) rfl (OpQ.y (OpY.pure rfl)) ?_
    refine Run.q (v := .slice A n c) rfl (OpQ.y (OpY.pure rfl)) ?_
    refine Run.q (v := .int .i64 (((n : Nat) : Int))) rfl (OpQ.y (OpY.len Tsl_22 rfl)) ?_
    refine Run.q (v := .bool (decide ((((i : Nat) : Int)) < (((n : Nat) : Int))))) rfl (OpQ.y (OpY.pure rfl)) ?_
    refine Run.done ?_
    refine Run.cond (b := decide ((((i : Nat) : Int)) < (((n : Nat) : Int)))) rfl (fun h11 => ?_) (fun h11 => ?_)
    · have p11 := h11; try simp only [bs] at p11
      have hlt : i < n := by simp at h11; omega
      obtain ⟨b, o, rfl⟩ := ha.opn (by omega)
      refine Run.skip ?_
      refine Run.seq ?_
      refine Run.block ?_
      refine Run.region ?_
      refine Run.q (v := .slice (some ⟨b1, 0, none⟩) n n) rfl (OpQ.y (OpY.pure rfl)) ?_
      refine Run.q (v := .int .i64 (((i : Nat) : Int))) rfl (OpQ.y (OpY.pure rfl)) ?_
      refine Run.q (v := .slice (some ⟨b, o, none⟩) n c) rfl (OpQ.y (OpY.pure rfl)) ?_
      refine Run.q (v := .int .i64 (((i : Nat) : Int))) rfl (OpQ.y (OpY.pure rfl)) ?_
      refine Run.q (v := .pointer (some ⟨b, o + i * 2, none⟩)) rfl (OpQ.y (OpY.index (kk := i) Tsl_22 rfl rfl (by omega) (by omega) (by first | rfl | omega))) ?_
      refine Run.q (v := .agg #[.int .i64 (ix xs (i * 2)), .int .i64 (ix xs (i * 2 + 1))]) rfl (OpQ.y (OpY.loadN (cs := [.int .i64 (ix xs (i * 2)), .int .i64 (ix xs (i * 2 + 1))]) Tagg_88 rfl (Cells.arg (k := i * 2) ha rfl (by omega) (pre2 (by omega))))) ?_
      refine Run.q (v := .agg #[.int .i64 (ix xs (i * 2)), .int .i64 (ix xs (i * 2 + 1))]) rfl (OpQ.call (vs := [.agg #[.int .i64 (ix xs (i * 2)), .int .i64 (ix xs (i * 2 + 1))]]) (caps := []) Tcall_45 rfl rfl (fun w hs => toTerm_spec _ _  w)) ?_
      refine Run.q (v := .pointer (some ⟨b1, i * 2, none⟩)) rfl (OpQ.y (OpY.index (kk := i) Tsl_32 rfl rfl (by omega) (by omega) (by first | rfl | omega))) ?_
      refine Run.step rfl (OpStep.storeOwnInt2 (o := i * 2) (a := ix xs (i * 2)) (b := ix xs (i * 2 + 1)) Tsize_51 rfl rfl (.here _) (by omega) ?_)
      refine Run.done ?_
      refine Run.blockEnd ?_
      refine Run.region ?_
      refine Run.q (v := .int .i64 (((i : Nat) : Int))) rfl (OpQ.y (OpY.pure rfl)) ?_
      refine Run.q (v := .int .i64 ((((i : Nat) : Int)) + 1)) rfl (OpQ.y (OpY.add rfl rfl rfl (by omega) (by omega))) ?_
      refine Run.q (v := .int .i64 ((((i : Nat) : Int)) + 1)) rfl (OpQ.y (OpY.pure rfl)) ?_
      refine Run.done ?_
      refine Run.goal ⟨(by repeat (first | exact Same.refl _ _ | refine Same.put rfl ?_ | refine Same.over rfl rfl ?_)), i + 1, ?_, ?_, ?_, ?_⟩
      · omega
      · omega
      · exact ⟨(by first | rfl | (congr 1; omega) | simp), trivial⟩
      · exact (Some'.weak (.takeEq (congrArg (fun z => Res.own _ _ _ _ (ints z)) (filled_set2 (by omega))) (.nil _)))
    · have p11 := h11; try simp only [bs] at p11
      have hkn : i = n := by simp at h11; omega
      refine Run.exit rfl ?_
      refine Run.seq ?_
      refine Run.region ?_
      refine Run.q (v := .slice (some ⟨b1, 0, none⟩) n n) rfl (OpQ.y (OpY.pure rfl)) ?_
      refine Run.q (v := .slice (some ⟨b1, 0, none⟩) n n) rfl (OpQ.y (OpY.pure rfl)) ?_
      refine Run.done ?_
      refine Run.ret ?_
      refine ⟨.slice (some ⟨b1, 0, none⟩) n n, [.own (.slice (some ⟨b1, 0, none⟩) n n) 51 2 n (ints xs)], Out.one rfl rfl, (Some'.weak (.takeEq (by rw [filled_all (by omega)]) (.nil _))), ?_⟩
      rfl

set_option maxHeartbeats 1000000 in
set_option maxRecDepth 20000 in
theorem eqAffine_spec (x0 x1 y0 y1 : Int) (w : World) : Calls Try.prog 60 #[.agg #[.int .i64 x0, .int .i64 x1], .agg #[.int .i64 y0, .int .i64 y1]] w (Post No w fun v _ => v = .bool (decide ([x0, x1] = [y0, y1]))) := by
  refine enter (n := 15) (args := [.agg #[.int .i64 x0, .int .i64 x1], .agg #[.int .i64 y0, .int .i64 y1]]) Try.func60 rfl rfl (St.empty _ _) ?_
  refine Run.seq ?_
  refine Run.region ?_
  refine Run.step rfl (OpStep.box (us := [.int .i64 x0, .int .i64 x1]) rfl fun b1 => ?_)
  refine Run.step rfl (OpStep.box (us := [.int .i64 y0, .int .i64 y1]) rfl fun b2 => ?_)
  refine Run.q (v := .bool false) rfl (OpQ.y (OpY.pure rfl)) ?_
  refine Run.done ?_
  refine Run.seq ?_
  refine Run.seq ?_
  refine Run.region ?_
  refine Run.q (v := .pointer (some ⟨b1, 0, none⟩)) rfl (OpQ.y (OpY.fieldAddr Tfo_54_0 rfl rfl)) ?_
  refine Run.q (v := .int .i64 x0) rfl (OpQ.y (OpY.load1 Tone_3 rfl (Cells.blk (.tail _ (List.Mem.head _)) ⟨rfl, trivial⟩))) ?_
  refine Run.q (v := .pointer (some ⟨b2, 0, none⟩)) rfl (OpQ.y (OpY.fieldAddr Tfo_54_0 rfl rfl)) ?_
  refine Run.q (v := .int .i64 y0) rfl (OpQ.y (OpY.load1 Tone_3 rfl (Cells.blk (.head _) ⟨rfl, trivial⟩))) ?_
  refine Run.q (v := .bool (x0 != y0)) rfl (OpQ.y (OpY.pure rfl)) ?_
  refine Run.done ?_
  refine Run.cond (b := x0 != y0) rfl (fun h9 => ?_) (fun h9 => ?_)
  · have p9 := h9; try simp only [bs] at p9
    refine Run.seq ?_
    refine Run.region ?_
    refine Run.q (v := .bool false) rfl (OpQ.y (OpY.pure rfl)) ?_
    refine Run.done ?_
    refine Run.ret ?_
    refine ⟨.bool false, [], Out.one rfl rfl, (Some'.weak (.nil _)), ?_⟩
    show _ = _; simp_all
  · have p9 := h9; try simp only [bs] at p9
    refine Run.skip ?_
    refine Run.seq ?_
    refine Run.seq ?_
    refine Run.region ?_
    refine Run.q (v := .pointer (some ⟨b1, 1, none⟩)) rfl (OpQ.y (OpY.fieldAddr Tfo_54_1 rfl rfl)) ?_
    refine Run.q (v := .int .i64 x1) rfl (OpQ.y (OpY.load1 Tone_3 rfl (Cells.blk (.tail _ (List.Mem.head _)) ⟨rfl, trivial⟩))) ?_
    refine Run.q (v := .pointer (some ⟨b2, 1, none⟩)) rfl (OpQ.y (OpY.fieldAddr Tfo_54_1 rfl rfl)) ?_
    refine Run.q (v := .int .i64 y1) rfl (OpQ.y (OpY.load1 Tone_3 rfl (Cells.blk (.head _) ⟨rfl, trivial⟩))) ?_
    refine Run.q (v := .bool (x1 != y1)) rfl (OpQ.y (OpY.pure rfl)) ?_
    refine Run.done ?_
    refine Run.cond (b := x1 != y1) rfl (fun h14 => ?_) (fun h14 => ?_)
    · have p14 := h14; try simp only [bs] at p14
      refine Run.seq ?_
      refine Run.region ?_
      refine Run.q (v := .bool false) rfl (OpQ.y (OpY.pure rfl)) ?_
      refine Run.done ?_
      refine Run.ret ?_
      refine ⟨.bool false, [], Out.one rfl rfl, (Some'.weak (.nil _)), ?_⟩
      show _ = _; simp_all
    · have p14 := h14; try simp only [bs] at p14
      refine Run.skip ?_
      refine Run.seq ?_
      refine Run.region ?_
      refine Run.q (v := .bool true) rfl (OpQ.y (OpY.pure rfl)) ?_
      refine Run.done ?_
      refine Run.ret ?_
      refine ⟨.bool true, [], Out.one rfl rfl, (Some'.weak (.nil _)), ?_⟩
      show _ = _; simp_all

set_option maxHeartbeats 1000000 in
set_option maxRecDepth 20000 in
theorem eqAffineS_spec {va vb : Value} {n m : Nat} {xs ys : List Int} {w : World} (ha : Sl w va 2 n (ints xs)) (hb : Sl w vb 2 m (ints ys)) :
    Calls Try.prog 34 #[va, vb] w (Post No w fun v _ => v = .bool (decide (xs = ys))) := by
  have hxl := ha.len
  have hyl := hb.len
  have hn := ha.le
  obtain ⟨A, c, rfl, _, _⟩ := ha.form0
  obtain ⟨B, d, rfl, _, _⟩ := hb.form0
  refine enter (n := 27) (args := [.slice A n c, .slice B m d]) Try.func34 rfl rfl (St.empty _ _) ?_
  refine Run.seq ?_
  refine Run.region ?_
  refine Run.q (v := .bool false) rfl (OpQ.y (OpY.pure rfl)) ?_
  refine Run.done ?_
  refine Run.seq ?_
  refine Run.seq ?_
  refine Run.region ?_
  refine Run.q (v := .slice A n c) rfl (OpQ.y (OpY.pure rfl)) ?_
  refine Run.q (v := .int .i64 (((n : Nat) : Int))) rfl (OpQ.y (OpY.len Tsl_33 rfl)) ?_
  refine Run.q (v := .slice B m d) rfl (OpQ.y (OpY.pure rfl)) ?_
  refine Run.q (v := .int .i64 (((m : Nat) : Int))) rfl (OpQ.y (OpY.len Tsl_33 rfl)) ?_
  refine Run.q (v := .bool ((((n : Nat) : Int)) != (((m : Nat) : Int)))) rfl (OpQ.y (OpY.pure rfl)) ?_
  refine Run.done ?_
  refine Run.cond (b := (((n : Nat) : Int)) != (((m : Nat) : Int))) rfl (fun h10 => ?_) (fun h10 => ?_)
  · have p10 := h10; try simp only [bs] at p10
    have hne : ¬ xs = ys := by intro e; subst e; simp at h10; omega
    refine Run.seq ?_
    refine Run.region ?_
    refine Run.q (v := .bool false) rfl (OpQ.y (OpY.pure rfl)) ?_
    refine Run.done ?_
    refine Run.ret ?_
    refine ⟨.bool false, [], Out.one rfl rfl, (Some'.weak (.nil _)), ?_⟩
    show _ = _; simp_all
  · have p10 := h10; try simp only [bs] at p10
    have hnm : m = n := by simp at h10; omega
    have hyl2 : ys.length = n * 2 := by rw [hyl, hnm]
    refine Run.skip ?_
    refine Run.seq ?_
    refine Run.seq ?_
    refine Run.region ?_
    refine Run.q (v := .int .i64 0) rfl (OpQ.y (OpY.pure rfl)) ?_
    refine Run.done ?_
    refine Run.block ?_
    refine Run.loop (ι := Nat) [4, 5, 11, 12, 13, 14, 15, 16, 17, 18, 19, 20, 21, 22, 23, 24, 25, 26] (fun k => [(5, .int .i64 (((k : Nat) : Int)))]) (fun k => []) (fun k => k ≤ n ∧ ∀ j, j < k * 2 → ix xs j = ix ys j) (fun k => n - k) 0 ?_ ?_ ?_ ?_
    · exact ⟨Nat.zero_le _, fun j hj => by omega⟩
    · exact ⟨rfl, trivial⟩
    · exact (Some'.weak (.nil _))
    · rintro k fr hinv
      show Run _ _ (over _ _ [(5, .int .i64 (((k : Nat) : Int)))] fr) []
      try dsimp only at hinv
      refine Run.seq ?_
      refine Run.seq ?_
      refine Run.region ?_
      refine Run.q (v := .int .i64 (((k : Nat) : Int))) rfl (OpQ.y (OpY.pure rfl)) ?_
      refine Run.q (v := .slice A n c) rfl (OpQ.y (OpY.pure rfl)) ?_
      refine Run.q (v := .int .i64 (((n : Nat) : Int))) rfl (OpQ.y (OpY.len Tsl_33 rfl)) ?_
      refine Run.q (v := .bool (decide ((((k : Nat) : Int)) < (((n : Nat) : Int))))) rfl (OpQ.y (OpY.pure rfl)) ?_
      refine Run.done ?_
      refine Run.cond (b := decide ((((k : Nat) : Int)) < (((n : Nat) : Int)))) rfl (fun h14 => ?_) (fun h14 => ?_)
      · have p14 := h14; try simp only [bs] at p14
        have hlt : k < n := by simp at h14; omega
        obtain ⟨b, o, rfl⟩ := ha.opn (by omega)
        obtain ⟨b2, o2, rfl⟩ := hb.opn (by omega)
        refine Run.skip ?_
        refine Run.seq ?_
        refine Run.block ?_
        refine Run.seq ?_
        refine Run.draws (by kernel_rfl) (by kernel_rfl) ?_
        refine Lex.q (v := .slice (some ⟨b, o, none⟩) n c) rfl (OpQ.y (OpY.pure rfl)) ?_
        refine Lex.q (v := .int .i64 (((k : Nat) : Int))) rfl (OpQ.y (OpY.pure rfl)) ?_
        refine Lex.q (v := .pointer (some ⟨b, o + k * 2, none⟩)) rfl (OpQ.y (OpY.index (kk := k) Tsl_33 rfl rfl (by omega) (by omega) (by first | rfl | omega))) ?_
        refine Lex.q (v := .agg #[.int .i64 (ix xs (k * 2)), .int .i64 (ix xs (k * 2 + 1))]) rfl (OpQ.y (OpY.loadN (cs := [.int .i64 (ix xs (k * 2)), .int .i64 (ix xs (k * 2 + 1))]) Tagg_54 rfl (Cells.arg (k := k * 2) ha rfl (by omega) (pre2 (by omega))))) ?_
        refine Lex.q (v := .slice (some ⟨b2, o2, none⟩) m d) rfl (OpQ.y (OpY.pure rfl)) ?_
        refine Lex.q (v := .int .i64 (((k : Nat) : Int))) rfl (OpQ.y (OpY.pure rfl)) ?_
        refine Lex.q (v := .pointer (some ⟨b2, o2 + k * 2, none⟩)) rfl (OpQ.y (OpY.index (kk := k) Tsl_33 rfl rfl (by omega) (by omega) (by first | rfl | omega))) ?_
        refine Lex.q (v := .agg #[.int .i64 (ix ys (k * 2)), .int .i64 (ix ys (k * 2 + 1))]) rfl (OpQ.y (OpY.loadN (cs := [.int .i64 (ix ys (k * 2)), .int .i64 (ix ys (k * 2 + 1))]) Tagg_54 rfl (Cells.arg (k := k * 2) hb rfl (by omega) (pre2 (by omega))))) ?_
        refine Lex.q (v := .bool (decide ([ix xs (k * 2), ix xs (k * 2 + 1)] = [ix ys (k * 2), ix ys (k * 2 + 1)]))) rfl (OpQ.call (vs := [.agg #[.int .i64 (ix xs (k * 2)), .int .i64 (ix xs (k * 2 + 1))], .agg #[.int .i64 (ix ys (k * 2)), .int .i64 (ix ys (k * 2 + 1))]]) (caps := []) Tcall_60 rfl rfl (fun w hs => eqAffine_spec _ _ _ _ w)) ?_
        refine Lex.q (v := .bool (!(decide ([ix xs (k * 2), ix xs (k * 2 + 1)] = [ix ys (k * 2), ix ys (k * 2 + 1)])))) rfl (OpQ.y (OpY.pure rfl)) ?_
        refine Lex.done ?_
        refine Run.cond (b := !(decide ([ix xs (k * 2), ix xs (k * 2 + 1)] = [ix ys (k * 2), ix ys (k * 2 + 1)]))) rfl (fun h26 => ?_) (fun h26 => ?_)
        · have p26 := h26; try simp only [bs] at p26
          have hne : ¬ xs = ys := by intro e; subst e; simp at h26
          refine Run.seq ?_
          refine Run.region ?_
          refine Run.q (v := .bool false) rfl (OpQ.y (OpY.pure rfl)) ?_
          refine Run.done ?_
          refine Run.ret ?_
          refine ⟨.bool false, [], Out.one rfl rfl, (Some'.weak (.nil _)), ?_⟩
          show _ = _; simp_all
        · have p26 := h26; try simp only [bs] at p26
          simp at h26
          refine Run.skip ?_
          refine Run.blockEnd ?_
          refine Run.region ?_
          refine Run.q (v := .int .i64 (((k : Nat) : Int))) rfl (OpQ.y (OpY.pure rfl)) ?_
          refine Run.q (v := .int .i64 ((((k : Nat) : Int)) + 1)) rfl (OpQ.y (OpY.add rfl rfl rfl (by omega) (by omega))) ?_
          refine Run.q (v := .int .i64 ((((k : Nat) : Int)) + 1)) rfl (OpQ.y (OpY.pure rfl)) ?_
          refine Run.done ?_
          refine Run.goal ⟨(by repeat (first | exact Same.refl _ _ | refine Same.put rfl ?_ | refine Same.over rfl rfl ?_)), k + 1, ?_, ?_, ?_, ?_⟩
          · refine ⟨by omega, fun j hj => ?_⟩
            by_cases h : j < k * 2
            · exact hinv.2 j h
            · rcases (by omega : j = k * 2 ∨ j = k * 2 + 1) with rfl | rfl <;> simp [h26]
          · omega
          · exact ⟨(by first | rfl | (congr 1; omega) | simp), trivial⟩
          · exact (Some'.weak (.nil _))
      · have p14 := h14; try simp only [bs] at p14
        have hkn : k = n := by simp at h14; omega
        have heq : xs = ys := list_ext_ix (by omega) fun j hj => hinv.2 j (by omega)
        refine Run.exit rfl ?_
        refine Run.seq ?_
        refine Run.region ?_
        refine Run.q (v := .bool true) rfl (OpQ.y (OpY.pure rfl)) ?_
        refine Run.done ?_
        refine Run.ret ?_
        refine ⟨.bool true, [], Out.one rfl rfl, (Some'.weak (.nil _)), ?_⟩
        show _ = _; simp_all


theorem eqAffineS_true {va vb : Value} {n m : Nat} {xs ys : List Int} {w : World} (ha : Sl w va 2 n (ints xs)) (hb : Sl w vb 2 m (ints ys)) (he : xs = ys) :
    Calls Try.prog 34 #[va, vb] w (Post No w fun v _ => v = .bool true) :=
  (eqAffineS_spec ha hb).mono fun _ _ ⟨v, H, h1, h2, h3⟩ => ⟨v, H, h1, h2, by simpa [he] using h3⟩

set_option maxHeartbeats 1000000 in
set_option maxRecDepth 20000 in
theorem szAffineS_spec {va : Value} {n : Nat} {xs : List Int} {left : Int} {w : World} (ha : Sl w va 2 n (ints xs)) (h0 : 0 ≤ left) (h1 : left ≤ 1048576) :
    Calls Try.prog 14 #[va, .int .i64 left] w (Post No w fun v _ => v = .int .i64 (szN left [n])) := by
  have hn := ha.le
  obtain ⟨A, c, rfl, _, _⟩ := ha.form0
  refine enter (n := 12) (args := [.slice A n c, .int .i64 left]) Try.func14 rfl rfl (St.empty _ _) ?_
  refine Run.seq ?_
  refine Run.region ?_
  refine Run.q (v := .int .i64 0) rfl (OpQ.y (OpY.pure rfl)) ?_
  refine Run.done ?_
  refine Run.seq ?_
  refine Run.region ?_
  refine Run.q (v := .int .i64 left) rfl (OpQ.y (OpY.pure rfl)) ?_
  refine Run.q (v := .slice A n c) rfl (OpQ.y (OpY.pure rfl)) ?_
  refine Run.q (v := .int .i64 (((n : Nat) : Int))) rfl (OpQ.y (OpY.len Tsl_23 rfl)) ?_
  refine Run.q (v := .int .i64 (left - (((n : Nat) : Int)))) rfl (OpQ.y (OpY.sub rfl rfl rfl (by omega) (by omega))) ?_
  refine Run.q (v := .int .i64 (left - (((n : Nat) : Int)))) rfl (OpQ.y (OpY.pure rfl)) ?_
  refine Run.done ?_
  refine Run.seq ?_
  refine Run.seq ?_
  refine Run.region ?_
  refine Run.q (v := .int .i64 (left - (((n : Nat) : Int)))) rfl (OpQ.y (OpY.pure rfl)) ?_
  refine Run.q (v := .bool (decide ((left - (((n : Nat) : Int))) < 0))) rfl (OpQ.y (OpY.pure rfl)) ?_
  refine Run.done ?_
  refine Run.cond (b := decide ((left - (((n : Nat) : Int))) < 0)) rfl (fun h10 => ?_) (fun h10 => ?_)
  · have p10 := h10; try simp only [bs] at p10
    refine Run.seq ?_
    refine Run.region ?_
    refine Run.q (v := .int .i64 (-1)) rfl (OpQ.y (OpY.pure rfl)) ?_
    refine Run.done ?_
    refine Run.ret ?_
    refine ⟨.int .i64 (-1), [], Out.one rfl rfl, (Some'.weak (.nil _)), ?_⟩
    show _ = _; simp at h10; simp only [szN]; first | rw [if_pos (by omega)] | rw [if_neg (by omega)]
  · have p10 := h10; try simp only [bs] at p10
    refine Run.skip ?_
    refine Run.seq ?_
    refine Run.region ?_
    refine Run.q (v := .int .i64 (left - (((n : Nat) : Int)))) rfl (OpQ.y (OpY.pure rfl)) ?_
    refine Run.q (v := .int .i64 (left - (((n : Nat) : Int)))) rfl (OpQ.y (OpY.pure rfl)) ?_
    refine Run.done ?_
    refine Run.ret ?_
    refine ⟨.int .i64 (left - (((n : Nat) : Int))), [], Out.one rfl rfl, (Some'.weak (.nil _)), ?_⟩
    show _ = _; simp at h10; simp only [szN]; first | rw [if_pos (by omega)] | rw [if_neg (by omega)]

set_option maxHeartbeats 1000000 in
set_option maxRecDepth 20000 in
theorem toAffine_spec (x0 x1 : Int) (w : World) : Calls Try.prog 46 #[.agg #[.int .i64 x0, .int .i64 x1]] w (Post No w fun v _ => v = .agg #[.int .i64 x0, .int .i64 x1]) := by
  refine enter (n := 11) (args := [.agg #[.int .i64 x0, .int .i64 x1]]) Try.func46 rfl rfl (St.empty _ _) ?_
  refine Run.seq ?_
  refine Run.region ?_
  refine Run.step rfl (OpStep.box (us := [.int .i64 x0, .int .i64 x1]) rfl fun b1 => ?_)
  refine Run.step rfl (OpStep.alloc (zs := [.int .i64 0, .int .i64 0]) Tzero_54 fun b2 => ?_)
  refine Run.done ?_
  refine Run.seq ?_
  refine Run.region ?_
  refine Run.step rfl (OpStep.alloc (zs := [.int .i64 0, .int .i64 0]) Tzero_54 fun b3 => ?_)
  refine Run.done ?_
  refine Run.seq ?_
  refine Run.region ?_
  refine Run.q (v := .pointer (some ⟨b1, 0, none⟩)) rfl (OpQ.y (OpY.fieldAddr Tfo_90_0 rfl rfl)) ?_
  refine Run.q (v := .int .i64 x0) rfl (OpQ.y (OpY.load1 Tone_3 rfl (Cells.blk (.tail _ (.tail _ (List.Mem.head _))) ⟨rfl, trivial⟩))) ?_
  refine Run.q (v := .pointer (some ⟨b3, 0, none⟩)) rfl (OpQ.y (OpY.fieldAddr Tfo_54_0 rfl rfl)) ?_
  refine Run.step rfl (OpStep.store (us := [.int .i64 x0]) Tsize_3 rfl rfl rfl (.here _) (by simp only [List.length_cons, List.length_nil]; omega) ?_)
  show Run _ _ _ [.blk b3 54 [.int .i64 x0, .int .i64 0], .blk b2 54 [.int .i64 0, .int .i64 0], .blk b1 90 [.int .i64 x0, .int .i64 x1]]
  refine Run.done ?_
  refine Run.seq ?_
  refine Run.region ?_
  refine Run.q (v := .pointer (some ⟨b1, 1, none⟩)) rfl (OpQ.y (OpY.fieldAddr Tfo_90_1 rfl rfl)) ?_
  refine Run.q (v := .int .i64 x1) rfl (OpQ.y (OpY.load1 Tone_3 rfl (Cells.blk (.tail _ (.tail _ (List.Mem.head _))) ⟨rfl, trivial⟩))) ?_
  refine Run.q (v := .pointer (some ⟨b3, 1, none⟩)) rfl (OpQ.y (OpY.fieldAddr Tfo_54_1 rfl rfl)) ?_
  refine Run.step rfl (OpStep.store (us := [.int .i64 x1]) Tsize_3 rfl rfl rfl (.here _) (by simp only [List.length_cons, List.length_nil]; omega) ?_)
  show Run _ _ _ [.blk b3 54 [.int .i64 x0, .int .i64 x1], .blk b2 54 [.int .i64 0, .int .i64 0], .blk b1 90 [.int .i64 x0, .int .i64 x1]]
  refine Run.done ?_
  refine Run.seq ?_
  refine Run.region ?_
  refine Run.q (v := .agg #[.int .i64 x0, .int .i64 x1]) rfl (OpQ.y (OpY.loadN (cs := [.int .i64 x0, .int .i64 x1]) Tagg_54 rfl (Cells.blk (.head _) ⟨rfl, rfl, trivial⟩))) ?_
  refine Run.step rfl (OpStep.storeAll (us := [.int .i64 x0, .int .i64 x1]) Tsize_54 rfl rfl rfl (.there _ (.here _)) rfl ?_)
  refine Run.done ?_
  refine Run.ret ?_
  refine ⟨.agg #[.int .i64 x0, .int .i64 x1], [], Out.cell1 (cs := [.int .i64 x0, .int .i64 x1]) rfl Tagg_54 rfl (Cells.blk (.tail _ (List.Mem.head _)) ⟨rfl, rfl, trivial⟩), (Some'.weak (.nil _)), ?_⟩
  rfl

set_option maxHeartbeats 1000000 in
set_option maxRecDepth 20000 in
theorem toAffineS_spec {va : Value} {n : Nat} {xs : List Int} {w : World} (ha : Sl w va 2 n (ints xs)) (hb : n ≤ 1048576) :
    Calls Try.prog 25 #[va] w (Post No w fun v H => H = [.own v 54 2 n (ints xs)]) := by
  have hxl := ha.len
  obtain ⟨A, c, rfl, _, _⟩ := ha.form0
  refine enter (n := 23) (args := [.slice A n c]) Try.func25 rfl rfl (St.empty _ _) ?_
  refine Run.seq ?_
  refine Run.region ?_
  refine Run.q (v := .slice none 0 0) rfl (OpQ.y (OpY.pure rfl)) ?_
  refine Run.done ?_
  refine Run.seq ?_
  refine Run.region ?_
  refine Run.q (v := .slice A n c) rfl (OpQ.y (OpY.pure rfl)) ?_
  refine Run.q (v := .int .i64 (((n : Nat) : Int))) rfl (OpQ.y (OpY.len Tsl_23 rfl)) ?_
  refine Run.step rfl (OpStep.makeSlice (n := n) Tsl_33 rfl (by decide) (by first | rfl | omega) (by first | rfl | omega) (by omega) (by simp only [maxLen]; omega) fun b1 => ?_)
  refine Run.q (v := .slice (some ⟨b1, 0, none⟩) n n) rfl (OpQ.y (OpY.pure rfl)) ?_
  refine Run.done ?_
  refine Run.seq ?_
  refine Run.seq ?_
  refine Run.region ?_
  refine Run.q (v := .int .i64 0) rfl (OpQ.y (OpY.pure rfl)) ?_
  refine Run.done ?_
  refine Run.block ?_
  refine Run.loop (ι := Nat) [4, 8, 9, 10, 11, 12, 13, 14, 15, 16, 17, 18, 19, 20, 21] (fun i => [(4, .int .i64 (((i : Nat) : Int)))]) (fun i => [.own (.slice (some ⟨b1, 0, none⟩) n n) 54 2 n (ints (filled (i * 2) xs))]) (fun i => i ≤ n) (fun i => n - i) 0 ?_ ?_ ?_ ?_
  · exact Nat.zero_le _
  · exact ⟨rfl, trivial⟩
  · exact (Some'.weak (.takeEq (by rw [Nat.zero_mul]; exact congrArg (Res.own _ _ _ _) (filled_zero hxl)) (.nil _)))
  · rintro i fr hinv
    show Run _ _ (over _ _ [(4, .int .i64 (((i : Nat) : Int)))] fr) [.own (.slice (some ⟨b1, 0, none⟩) n n) 54 2 n (ints (filled (i * 2) xs))]
    try dsimp only at hinv
    refine Run.seq ?_
    refine Run.seq ?_
    refine Run.region ?_
    refine Run.q (v := .int .i64 (((i : Nat) : Int))) rfl (OpQ.y (OpY.pure rfl)) ?_
    refine Run.q (v := .slice A n c) rfl (OpQ.y (OpY.pure rfl)) ?_
    refine Run.q (v := .int .i64 (((n : Nat) : Int))) rfl (OpQ.y (OpY.len Tsl_23 rfl)) ?_
    refine Run.q (v := .bool (decide ((((i : Nat) : Int)) < (((n : Nat) : Int))))) rfl (OpQ.y (OpY.pure rfl)) ?_
    refine Run.done ?_
    refine Run.cond (b := decide ((((i : Nat) : Int)) < (((n : Nat) : Int)))) rfl (fun h11 => ?_) (fun h11 => ?_)
    · have p11 := h11; try simp only [bs] at p11
      have hlt : i < n := by simp at h11; omega
      obtain ⟨b, o, rfl⟩ := ha.opn (by omega)
      refine Run.skip ?_
      refine Run.seq ?_
      refine Run.block ?_
      refine Run.region ?_
      refine Run.q (v := .slice (some ⟨b1, 0, none⟩) n n) rfl (OpQ.y (OpY.pure rfl)) ?_
      refine Run.q (v := .int .i64 (((i : Nat) : Int))) rfl (OpQ.y (OpY.pure rfl)) ?_
      refine Run.q (v := .slice (some ⟨b, o, none⟩) n c) rfl (OpQ.y (OpY.pure rfl)) ?_
      refine Run.q (v := .int .i64 (((i : Nat) : Int))) rfl (OpQ.y (OpY.pure rfl)) ?_
      refine Run.q (v := .pointer (some ⟨b, o + i * 2, none⟩)) rfl (OpQ.y (OpY.index (kk := i) Tsl_23 rfl rfl (by omega) (by omega) (by first | rfl | omega))) ?_
      refine Run.q (v := .agg #[.int .i64 (ix xs (i * 2)), .int .i64 (ix xs (i * 2 + 1))]) rfl (OpQ.y (OpY.loadN (cs := [.int .i64 (ix xs (i * 2)), .int .i64 (ix xs (i * 2 + 1))]) Tagg_90 rfl (Cells.arg (k := i * 2) ha rfl (by omega) (pre2 (by omega))))) ?_
      refine Run.q (v := .agg #[.int .i64 (ix xs (i * 2)), .int .i64 (ix xs (i * 2 + 1))]) rfl (OpQ.call (vs := [.agg #[.int .i64 (ix xs (i * 2)), .int .i64 (ix xs (i * 2 + 1))]]) (caps := []) Tcall_46 rfl rfl (fun w hs => toAffine_spec _ _  w)) ?_
      refine Run.q (v := .pointer (some ⟨b1, i * 2, none⟩)) rfl (OpQ.y (OpY.index (kk := i) Tsl_33 rfl rfl (by omega) (by omega) (by first | rfl | omega))) ?_
      refine Run.step rfl (OpStep.storeOwnInt2 (o := i * 2) (a := ix xs (i * 2)) (b := ix xs (i * 2 + 1)) Tsize_54 rfl rfl (.here _) (by omega) ?_)
      refine Run.done ?_
      refine Run.blockEnd ?_
      refine Run.region ?_
      refine Run.q (v := .int .i64 (((i : Nat) : Int))) rfl (OpQ.y (OpY.pure rfl)) ?_
      refine Run.q (v := .int .i64 ((((i : Nat) : Int)) + 1)) rfl (OpQ.y (OpY.add rfl rfl rfl (by omega) (by omega))) ?_
      refine Run.q (v := .int .i64 ((((i : Nat) : Int)) + 1)) rfl (OpQ.y (OpY.pure rfl)) ?_
      refine Run.done ?_
      refine Run.goal ⟨(by repeat (first | exact Same.refl _ _ | refine Same.put rfl ?_ | refine Same.over rfl rfl ?_)), i + 1, ?_, ?_, ?_, ?_⟩
      · omega
      · omega
      · exact ⟨(by first | rfl | (congr 1; omega) | simp), trivial⟩
      · exact (Some'.weak (.takeEq (congrArg (fun z => Res.own _ _ _ _ (ints z)) (filled_set2 (by omega))) (.nil _)))
    · have p11 := h11; try simp only [bs] at p11
      have hkn : i = n := by simp at h11; omega
      refine Run.exit rfl ?_
      refine Run.seq ?_
      refine Run.region ?_
      refine Run.q (v := .slice (some ⟨b1, 0, none⟩) n n) rfl (OpQ.y (OpY.pure rfl)) ?_
      refine Run.q (v := .slice (some ⟨b1, 0, none⟩) n n) rfl (OpQ.y (OpY.pure rfl)) ?_
      refine Run.done ?_
      refine Run.ret ?_
      refine ⟨.slice (some ⟨b1, 0, none⟩) n n, [.own (.slice (some ⟨b1, 0, none⟩) n n) 54 2 n (ints xs)], Out.one rfl rfl, (Some'.weak (.takeEq (by rw [filled_all (by omega)]) (.nil _))), ?_⟩
      rfl

set_option maxHeartbeats 1000000 in
set_option maxRecDepth 20000 in
theorem szPathSum_spec {Ins Vars Root Phase : Int} {vTerms : Value} {nTerms : Nat} {xsTerms : List Int} {vOut : Value} {nOut : Nat} {xsOut : List Int} {left : Int} {w : World} (hTerms : Sl w vTerms 2 nTerms (ints xsTerms)) (hOut : Sl w vOut 2 nOut (ints xsOut)) (h0 : 0 ≤ left) (h1 : left ≤ 1048576) : Calls Try.prog 4 #[.agg #[.int .i64 Ins, .int .i64 Vars, .int .i64 Root, .int .i64 Phase, vTerms, vOut], .int .i64 left] w (Post No w fun v _ => v = .int .i64 (szN left [nTerms, nOut])) := by
  refine enter (n := 18) (args := [.agg #[.int .i64 Ins, .int .i64 Vars, .int .i64 Root, .int .i64 Phase, vTerms, vOut], .int .i64 left]) Try.func4 rfl rfl (St.empty _ _) ?_
  refine Run.seq ?_
  refine Run.region ?_
  refine Run.step rfl (OpStep.box (us := [.int .i64 Ins, .int .i64 Vars, .int .i64 Root, .int .i64 Phase, vTerms, vOut]) rfl fun b1 => ?_)
  refine Run.q (v := .int .i64 0) rfl (OpQ.y (OpY.pure rfl)) ?_
  refine Run.done ?_
  refine Run.seq ?_
  refine Run.region ?_
  refine Run.q (v := .pointer (some ⟨b1, 4, none⟩)) rfl (OpQ.y (OpY.fieldAddr Tfo_25_4 rfl rfl)) ?_
  refine Run.q (v := vTerms) rfl (OpQ.y (OpY.load1 Tone_22 rfl (Cells.blk (.head _) ⟨rfl, trivial⟩))) ?_
  refine Run.q (v := .int .i64 left) rfl (OpQ.y (OpY.pure rfl)) ?_
  refine Run.q (v := .int .i64 (szN left [nTerms])) rfl (OpQ.call (vs := [vTerms, .int .i64 left]) (caps := []) Tcall_13 rfl rfl (fun w hs => szTermS_spec (hs.sl hTerms) (by omega) (by omega))) ?_
  refine Run.q (v := .int .i64 (szN left [nTerms])) rfl (OpQ.y (OpY.pure rfl)) ?_
  refine Run.done ?_
  refine Run.seq ?_
  refine Run.seq ?_
  refine Run.region ?_
  refine Run.q (v := .int .i64 (szN left [nTerms])) rfl (OpQ.y (OpY.pure rfl)) ?_
  refine Run.q (v := .bool (decide ((szN left [nTerms]) < 0))) rfl (OpQ.y (OpY.pure rfl)) ?_
  refine Run.done ?_
  refine Run.cond (b := decide ((szN left [nTerms]) < 0)) rfl (fun h10 => ?_) (fun h10 => ?_)
  · have p10 := h10; try simp only [bs] at p10
    refine Run.seq ?_
    refine Run.region ?_
    refine Run.q (v := .int .i64 (-1)) rfl (OpQ.y (OpY.pure rfl)) ?_
    refine Run.done ?_
    refine Run.ret ?_
    refine ⟨.int .i64 (-1), [], Out.one rfl rfl, (Some'.weak (.nil _)), ?_⟩
    show _ = _; first | (simp_all [szN]; done) | (simp only [decide_eq_true_eq, decide_eq_false_iff_not, szN] at *; grind)
  · have p10 := h10; try simp only [bs] at p10
    have hz10 := szN_bound (ns := [nTerms]) (l := left) p10 nTerms (by simp)
    refine Run.skip ?_
    refine Run.seq ?_
    refine Run.region ?_
    refine Run.q (v := .pointer (some ⟨b1, 5, none⟩)) rfl (OpQ.y (OpY.fieldAddr Tfo_25_5 rfl rfl)) ?_
    refine Run.q (v := vOut) rfl (OpQ.y (OpY.load1 Tone_23 rfl (Cells.blk (.head _) ⟨rfl, trivial⟩))) ?_
    refine Run.q (v := .int .i64 (szN left [nTerms])) rfl (OpQ.y (OpY.pure rfl)) ?_
    refine Run.q (v := .int .i64 (szN (szN left [nTerms]) [nOut])) rfl (OpQ.call (vs := [vOut, .int .i64 (szN left [nTerms])]) (caps := []) Tcall_14 rfl rfl (fun w hs => szAffineS_spec (hs.sl hOut) (by omega) (by omega))) ?_
    refine Run.q (v := .int .i64 (szN (szN left [nTerms]) [nOut])) rfl (OpQ.y (OpY.pure rfl)) ?_
    refine Run.done ?_
    refine Run.seq ?_
    refine Run.seq ?_
    refine Run.region ?_
    refine Run.q (v := .int .i64 (szN (szN left [nTerms]) [nOut])) rfl (OpQ.y (OpY.pure rfl)) ?_
    refine Run.q (v := .bool (decide ((szN (szN left [nTerms]) [nOut]) < 0))) rfl (OpQ.y (OpY.pure rfl)) ?_
    refine Run.done ?_
    refine Run.cond (b := decide ((szN (szN left [nTerms]) [nOut]) < 0)) rfl (fun h16 => ?_) (fun h16 => ?_)
    · have p16 := h16; try simp only [bs] at p16
      refine Run.seq ?_
      refine Run.region ?_
      refine Run.q (v := .int .i64 (-1)) rfl (OpQ.y (OpY.pure rfl)) ?_
      refine Run.done ?_
      refine Run.ret ?_
      refine ⟨.int .i64 (-1), [], Out.one rfl rfl, (Some'.weak (.nil _)), ?_⟩
      show _ = _; first | (simp_all [szN]; done) | (simp only [decide_eq_true_eq, decide_eq_false_iff_not, szN] at *; grind)
    · have p16 := h16; try simp only [bs] at p16
      refine Run.skip ?_
      refine Run.seq ?_
      refine Run.region ?_
      refine Run.q (v := .int .i64 (szN (szN left [nTerms]) [nOut])) rfl (OpQ.y (OpY.pure rfl)) ?_
      refine Run.q (v := .int .i64 (szN (szN left [nTerms]) [nOut])) rfl (OpQ.y (OpY.pure rfl)) ?_
      refine Run.done ?_
      refine Run.ret ?_
      refine ⟨.int .i64 (szN (szN left [nTerms]) [nOut]), [], Out.one rfl rfl, (Some'.weak (.nil _)), ?_⟩
      show _ = _; first | (simp_all [szN]; done) | (simp only [decide_eq_true_eq, decide_eq_false_iff_not, szN] at *; grind)

set_option maxHeartbeats 1000000 in
set_option maxRecDepth 20000 in
theorem toPathSum_spec {Ins Vars Root Phase : Int} {vTerms : Value} {nTerms : Nat} {xsTerms : List Int} {vOut : Value} {nOut : Nat} {xsOut : List Int} {w : World} (hTerms : Sl w vTerms 2 nTerms (ints xsTerms)) (hOut : Sl w vOut 2 nOut (ints xsOut)) (hbTerms : nTerms ≤ 1048576) (hbOut : nOut ≤ 1048576) : Calls Try.prog 6 #[.agg #[.int .i64 Ins, .int .i64 Vars, .int .i64 Root, .int .i64 Phase, vTerms, vOut]] w (Post No w fun v H => ∃ uTerms uOut, v = .agg #[.int .i64 Ins, .int .i64 Vars, .int .i64 Root, .int .i64 Phase, uTerms, uOut] ∧ H = [.own uOut 54 2 nOut (ints xsOut), .own uTerms 51 2 nTerms (ints xsTerms)]) := by
  refine enter (n := 25) (args := [.agg #[.int .i64 Ins, .int .i64 Vars, .int .i64 Root, .int .i64 Phase, vTerms, vOut]]) Try.func6 rfl rfl (St.empty _ _) ?_
  refine Run.seq ?_
  refine Run.region ?_
  refine Run.step rfl (OpStep.box (us := [.int .i64 Ins, .int .i64 Vars, .int .i64 Root, .int .i64 Phase, vTerms, vOut]) rfl fun b1 => ?_)
  refine Run.step rfl (OpStep.alloc (zs := [.int .i64 0, .int .i64 0, .int .i64 0, .int .i64 0, .slice none 0 0, .slice none 0 0]) Tzero_35 fun b2 => ?_)
  refine Run.done ?_
  refine Run.seq ?_
  refine Run.region ?_
  refine Run.step rfl (OpStep.alloc (zs := [.int .i64 0, .int .i64 0, .int .i64 0, .int .i64 0, .slice none 0 0, .slice none 0 0]) Tzero_35 fun b3 => ?_)
  refine Run.done ?_
  refine Run.seq ?_
  refine Run.region ?_
  refine Run.q (v := .pointer (some ⟨b1, 0, none⟩)) rfl (OpQ.y (OpY.fieldAddr Tfo_25_0 rfl rfl)) ?_
  refine Run.q (v := .int .i64 Ins) rfl (OpQ.y (OpY.load1 Tone_3 rfl (Cells.blk (.tail _ (.tail _ (List.Mem.head _))) ⟨rfl, trivial⟩))) ?_
  refine Run.q (v := .pointer (some ⟨b3, 0, none⟩)) rfl (OpQ.y (OpY.fieldAddr Tfo_35_0 rfl rfl)) ?_
  refine Run.step rfl (OpStep.store (us := [.int .i64 Ins]) Tsize_3 rfl rfl rfl (.here _) (by simp only [List.length_cons, List.length_nil]; omega) ?_)
  show Run _ _ _ [.blk b3 35 [.int .i64 Ins, .int .i64 0, .int .i64 0, .int .i64 0, .slice none 0 0, .slice none 0 0], .blk b2 35 [.int .i64 0, .int .i64 0, .int .i64 0, .int .i64 0, .slice none 0 0, .slice none 0 0], .blk b1 25 [.int .i64 Ins, .int .i64 Vars, .int .i64 Root, .int .i64 Phase, vTerms, vOut]]
  refine Run.done ?_
  refine Run.seq ?_
  refine Run.region ?_
  refine Run.q (v := .pointer (some ⟨b1, 1, none⟩)) rfl (OpQ.y (OpY.fieldAddr Tfo_25_1 rfl rfl)) ?_
  refine Run.q (v := .int .i64 Vars) rfl (OpQ.y (OpY.load1 Tone_3 rfl (Cells.blk (.tail _ (.tail _ (List.Mem.head _))) ⟨rfl, trivial⟩))) ?_
  refine Run.q (v := .pointer (some ⟨b3, 1, none⟩)) rfl (OpQ.y (OpY.fieldAddr Tfo_35_1 rfl rfl)) ?_
  refine Run.step rfl (OpStep.store (us := [.int .i64 Vars]) Tsize_3 rfl rfl rfl (.here _) (by simp only [List.length_cons, List.length_nil]; omega) ?_)
  show Run _ _ _ [.blk b3 35 [.int .i64 Ins, .int .i64 Vars, .int .i64 0, .int .i64 0, .slice none 0 0, .slice none 0 0], .blk b2 35 [.int .i64 0, .int .i64 0, .int .i64 0, .int .i64 0, .slice none 0 0, .slice none 0 0], .blk b1 25 [.int .i64 Ins, .int .i64 Vars, .int .i64 Root, .int .i64 Phase, vTerms, vOut]]
  refine Run.done ?_
  refine Run.seq ?_
  refine Run.region ?_
  refine Run.q (v := .pointer (some ⟨b1, 2, none⟩)) rfl (OpQ.y (OpY.fieldAddr Tfo_25_2 rfl rfl)) ?_
  refine Run.q (v := .int .i64 Root) rfl (OpQ.y (OpY.load1 Tone_3 rfl (Cells.blk (.tail _ (.tail _ (List.Mem.head _))) ⟨rfl, trivial⟩))) ?_
  refine Run.q (v := .pointer (some ⟨b3, 2, none⟩)) rfl (OpQ.y (OpY.fieldAddr Tfo_35_2 rfl rfl)) ?_
  refine Run.step rfl (OpStep.store (us := [.int .i64 Root]) Tsize_3 rfl rfl rfl (.here _) (by simp only [List.length_cons, List.length_nil]; omega) ?_)
  show Run _ _ _ [.blk b3 35 [.int .i64 Ins, .int .i64 Vars, .int .i64 Root, .int .i64 0, .slice none 0 0, .slice none 0 0], .blk b2 35 [.int .i64 0, .int .i64 0, .int .i64 0, .int .i64 0, .slice none 0 0, .slice none 0 0], .blk b1 25 [.int .i64 Ins, .int .i64 Vars, .int .i64 Root, .int .i64 Phase, vTerms, vOut]]
  refine Run.done ?_
  refine Run.seq ?_
  refine Run.region ?_
  refine Run.q (v := .pointer (some ⟨b1, 3, none⟩)) rfl (OpQ.y (OpY.fieldAddr Tfo_25_3 rfl rfl)) ?_
  refine Run.q (v := .int .i64 Phase) rfl (OpQ.y (OpY.load1 Tone_3 rfl (Cells.blk (.tail _ (.tail _ (List.Mem.head _))) ⟨rfl, trivial⟩))) ?_
  refine Run.q (v := .pointer (some ⟨b3, 3, none⟩)) rfl (OpQ.y (OpY.fieldAddr Tfo_35_3 rfl rfl)) ?_
  refine Run.step rfl (OpStep.store (us := [.int .i64 Phase]) Tsize_3 rfl rfl rfl (.here _) (by simp only [List.length_cons, List.length_nil]; omega) ?_)
  show Run _ _ _ [.blk b3 35 [.int .i64 Ins, .int .i64 Vars, .int .i64 Root, .int .i64 Phase, .slice none 0 0, .slice none 0 0], .blk b2 35 [.int .i64 0, .int .i64 0, .int .i64 0, .int .i64 0, .slice none 0 0, .slice none 0 0], .blk b1 25 [.int .i64 Ins, .int .i64 Vars, .int .i64 Root, .int .i64 Phase, vTerms, vOut]]
  refine Run.done ?_
  refine Run.seq ?_
  refine Run.region ?_
  refine Run.q (v := .pointer (some ⟨b1, 4, none⟩)) rfl (OpQ.y (OpY.fieldAddr Tfo_25_4 rfl rfl)) ?_
  refine Run.q (v := vTerms) rfl (OpQ.y (OpY.load1 Tone_22 rfl (Cells.blk (.tail _ (.tail _ (List.Mem.head _))) ⟨rfl, trivial⟩))) ?_
  refine Run.step rfl (OpStep.call (vs := [vTerms]) (caps := []) Tcall_24 rfl rfl (fun w hs => toTermS_spec (hs.sl hTerms) (by omega)) ?_)
  rintro uTerms _ rfl
  show Run _ _ (putF _ _ _ uTerms) [.own uTerms 51 2 nTerms (ints xsTerms), .blk b3 35 [.int .i64 Ins, .int .i64 Vars, .int .i64 Root, .int .i64 Phase, .slice none 0 0, .slice none 0 0], .blk b2 35 [.int .i64 0, .int .i64 0, .int .i64 0, .int .i64 0, .slice none 0 0, .slice none 0 0], .blk b1 25 [.int .i64 Ins, .int .i64 Vars, .int .i64 Root, .int .i64 Phase, vTerms, vOut]]
  refine Run.q (v := .pointer (some ⟨b3, 4, none⟩)) rfl (OpQ.y (OpY.fieldAddr Tfo_35_4 rfl rfl)) ?_
  refine Run.formOwn (.head _) (fun A_uTerms1 c_uTerms1 hv hcapc_uTerms1 hmaxc_uTerms1 => ?_) (fun _ _ _ => ⟨nofun, nofun, nofun⟩)
  subst hv
  refine Run.step rfl (OpStep.store (us := [.slice A_uTerms1 nTerms c_uTerms1]) Tsize_32 rfl rfl rfl (.there _ (.here _)) (by simp only [List.length_cons, List.length_nil]; omega) ?_)
  show Run _ _ _ [.own (.slice A_uTerms1 nTerms c_uTerms1) 51 2 nTerms (ints xsTerms), .blk b3 35 [.int .i64 Ins, .int .i64 Vars, .int .i64 Root, .int .i64 Phase, .slice A_uTerms1 nTerms c_uTerms1, .slice none 0 0], .blk b2 35 [.int .i64 0, .int .i64 0, .int .i64 0, .int .i64 0, .slice none 0 0, .slice none 0 0], .blk b1 25 [.int .i64 Ins, .int .i64 Vars, .int .i64 Root, .int .i64 Phase, vTerms, vOut]]
  refine Run.done ?_
  refine Run.seq ?_
  refine Run.region ?_
  refine Run.q (v := .pointer (some ⟨b1, 5, none⟩)) rfl (OpQ.y (OpY.fieldAddr Tfo_25_5 rfl rfl)) ?_
  refine Run.q (v := vOut) rfl (OpQ.y (OpY.load1 Tone_23 rfl (Cells.blk (.tail _ (.tail _ (.tail _ (List.Mem.head _)))) ⟨rfl, trivial⟩))) ?_
  refine Run.step rfl (OpStep.call (vs := [vOut]) (caps := []) Tcall_25 rfl rfl (fun w hs => toAffineS_spec (hs.sl hOut) (by omega)) ?_)
  rintro uOut _ rfl
  show Run _ _ (putF _ _ _ uOut) [.own uOut 54 2 nOut (ints xsOut), .own (.slice A_uTerms1 nTerms c_uTerms1) 51 2 nTerms (ints xsTerms), .blk b3 35 [.int .i64 Ins, .int .i64 Vars, .int .i64 Root, .int .i64 Phase, .slice A_uTerms1 nTerms c_uTerms1, .slice none 0 0], .blk b2 35 [.int .i64 0, .int .i64 0, .int .i64 0, .int .i64 0, .slice none 0 0, .slice none 0 0], .blk b1 25 [.int .i64 Ins, .int .i64 Vars, .int .i64 Root, .int .i64 Phase, vTerms, vOut]]
  refine Run.q (v := .pointer (some ⟨b3, 5, none⟩)) rfl (OpQ.y (OpY.fieldAddr Tfo_35_5 rfl rfl)) ?_
  refine Run.formOwn (.head _) (fun A_uOut1 c_uOut1 hv hcapc_uOut1 hmaxc_uOut1 => ?_) (fun _ _ _ => ⟨nofun, nofun, nofun⟩)
  subst hv
  refine Run.step rfl (OpStep.store (us := [.slice A_uOut1 nOut c_uOut1]) Tsize_33 rfl rfl rfl (.there _ (.there _ (.here _))) (by simp only [List.length_cons, List.length_nil]; omega) ?_)
  show Run _ _ _ [.own (.slice A_uOut1 nOut c_uOut1) 54 2 nOut (ints xsOut), .own (.slice A_uTerms1 nTerms c_uTerms1) 51 2 nTerms (ints xsTerms), .blk b3 35 [.int .i64 Ins, .int .i64 Vars, .int .i64 Root, .int .i64 Phase, .slice A_uTerms1 nTerms c_uTerms1, .slice A_uOut1 nOut c_uOut1], .blk b2 35 [.int .i64 0, .int .i64 0, .int .i64 0, .int .i64 0, .slice none 0 0, .slice none 0 0], .blk b1 25 [.int .i64 Ins, .int .i64 Vars, .int .i64 Root, .int .i64 Phase, vTerms, vOut]]
  refine Run.done ?_
  refine Run.seq ?_
  refine Run.region ?_
  refine Run.q (v := .agg #[.int .i64 Ins, .int .i64 Vars, .int .i64 Root, .int .i64 Phase, .slice A_uTerms1 nTerms c_uTerms1, .slice A_uOut1 nOut c_uOut1]) rfl (OpQ.y (OpY.loadN (cs := [.int .i64 Ins, .int .i64 Vars, .int .i64 Root, .int .i64 Phase, .slice A_uTerms1 nTerms c_uTerms1, .slice A_uOut1 nOut c_uOut1]) Tagg_35 rfl (Cells.blk (.tail _ (.tail _ (List.Mem.head _))) ⟨rfl, rfl, rfl, rfl, rfl, rfl, trivial⟩))) ?_
  refine Run.step rfl (OpStep.storeAll (us := [.int .i64 Ins, .int .i64 Vars, .int .i64 Root, .int .i64 Phase, .slice A_uTerms1 nTerms c_uTerms1, .slice A_uOut1 nOut c_uOut1]) Tsize_35 rfl rfl rfl (.there _ (.there _ (.there _ (.here _)))) rfl ?_)
  refine Run.done ?_
  refine Run.ret ?_
  refine ⟨.agg #[.int .i64 Ins, .int .i64 Vars, .int .i64 Root, .int .i64 Phase, .slice A_uTerms1 nTerms c_uTerms1, .slice A_uOut1 nOut c_uOut1], [.own (.slice A_uOut1 nOut c_uOut1) 54 2 nOut (ints xsOut), .own (.slice A_uTerms1 nTerms c_uTerms1) 51 2 nTerms (ints xsTerms)], Out.cell1 (cs := [.int .i64 Ins, .int .i64 Vars, .int .i64 Root, .int .i64 Phase, .slice A_uTerms1 nTerms c_uTerms1, .slice A_uOut1 nOut c_uOut1]) rfl Tagg_35 rfl (Cells.blk (.tail _ (.tail _ (.tail _ (List.Mem.head _)))) ⟨rfl, rfl, rfl, rfl, rfl, rfl, trivial⟩), (Some'.weak (.take (.take (.nil _)))), ?_⟩
  exact ⟨_, _, rfl, rfl⟩

set_option maxHeartbeats 1000000 in
set_option maxRecDepth 20000 in
theorem eqPathSum_true {Ins Vars Root Phase : Int} {vTerms : Value} {nTerms : Nat} {xsTerms : List Int} {vOut : Value} {nOut : Nat} {xsOut : List Int} {qvTerms : Value} {qvOut : Value} {w : World} (hTerms : Sl w vTerms 2 nTerms (ints xsTerms)) (hOut : Sl w vOut 2 nOut (ints xsOut)) (qhTerms : Sl w qvTerms 2 nTerms (ints xsTerms)) (qhOut : Sl w qvOut 2 nOut (ints xsOut)) : Calls Try.prog 9 #[.agg #[.int .i64 Ins, .int .i64 Vars, .int .i64 Root, .int .i64 Phase, vTerms, vOut], .agg #[.int .i64 Ins, .int .i64 Vars, .int .i64 Root, .int .i64 Phase, qvTerms, qvOut]] w (Post No w fun v _ => v = .bool true) := by
  refine enter (n := 37) (args := [.agg #[.int .i64 Ins, .int .i64 Vars, .int .i64 Root, .int .i64 Phase, vTerms, vOut], .agg #[.int .i64 Ins, .int .i64 Vars, .int .i64 Root, .int .i64 Phase, qvTerms, qvOut]]) Try.func9 rfl rfl (St.empty _ _) ?_
  refine Run.seq ?_
  refine Run.region ?_
  refine Run.step rfl (OpStep.box (us := [.int .i64 Ins, .int .i64 Vars, .int .i64 Root, .int .i64 Phase, vTerms, vOut]) rfl fun b1 => ?_)
  refine Run.step rfl (OpStep.box (us := [.int .i64 Ins, .int .i64 Vars, .int .i64 Root, .int .i64 Phase, qvTerms, qvOut]) rfl fun b2 => ?_)
  refine Run.q (v := .bool false) rfl (OpQ.y (OpY.pure rfl)) ?_
  refine Run.done ?_
  refine Run.seq ?_
  refine Run.seq ?_
  refine Run.region ?_
  refine Run.q (v := .pointer (some ⟨b1, 0, none⟩)) rfl (OpQ.y (OpY.fieldAddr Tfo_35_0 rfl rfl)) ?_
  refine Run.q (v := .int .i64 Ins) rfl (OpQ.y (OpY.load1 Tone_3 rfl (Cells.blk (.tail _ (List.Mem.head _)) ⟨rfl, trivial⟩))) ?_
  refine Run.q (v := .pointer (some ⟨b2, 0, none⟩)) rfl (OpQ.y (OpY.fieldAddr Tfo_35_0 rfl rfl)) ?_
  refine Run.q (v := .int .i64 Ins) rfl (OpQ.y (OpY.load1 Tone_3 rfl (Cells.blk (.head _) ⟨rfl, trivial⟩))) ?_
  refine Run.q (v := .bool false) rfl (OpQ.y (OpY.neqSame rfl rfl rfl)) ?_
  refine Run.done ?_
  refine Run.cond (b := false) rfl (fun h => nomatch h) (fun _ => ?_)
  refine Run.skip ?_
  refine Run.seq ?_
  refine Run.seq ?_
  refine Run.region ?_
  refine Run.q (v := .pointer (some ⟨b1, 1, none⟩)) rfl (OpQ.y (OpY.fieldAddr Tfo_35_1 rfl rfl)) ?_
  refine Run.q (v := .int .i64 Vars) rfl (OpQ.y (OpY.load1 Tone_3 rfl (Cells.blk (.tail _ (List.Mem.head _)) ⟨rfl, trivial⟩))) ?_
  refine Run.q (v := .pointer (some ⟨b2, 1, none⟩)) rfl (OpQ.y (OpY.fieldAddr Tfo_35_1 rfl rfl)) ?_
  refine Run.q (v := .int .i64 Vars) rfl (OpQ.y (OpY.load1 Tone_3 rfl (Cells.blk (.head _) ⟨rfl, trivial⟩))) ?_
  refine Run.q (v := .bool false) rfl (OpQ.y (OpY.neqSame rfl rfl rfl)) ?_
  refine Run.done ?_
  refine Run.cond (b := false) rfl (fun h => nomatch h) (fun _ => ?_)
  refine Run.skip ?_
  refine Run.seq ?_
  refine Run.seq ?_
  refine Run.region ?_
  refine Run.q (v := .pointer (some ⟨b1, 2, none⟩)) rfl (OpQ.y (OpY.fieldAddr Tfo_35_2 rfl rfl)) ?_
  refine Run.q (v := .int .i64 Root) rfl (OpQ.y (OpY.load1 Tone_3 rfl (Cells.blk (.tail _ (List.Mem.head _)) ⟨rfl, trivial⟩))) ?_
  refine Run.q (v := .pointer (some ⟨b2, 2, none⟩)) rfl (OpQ.y (OpY.fieldAddr Tfo_35_2 rfl rfl)) ?_
  refine Run.q (v := .int .i64 Root) rfl (OpQ.y (OpY.load1 Tone_3 rfl (Cells.blk (.head _) ⟨rfl, trivial⟩))) ?_
  refine Run.q (v := .bool false) rfl (OpQ.y (OpY.neqSame rfl rfl rfl)) ?_
  refine Run.done ?_
  refine Run.cond (b := false) rfl (fun h => nomatch h) (fun _ => ?_)
  refine Run.skip ?_
  refine Run.seq ?_
  refine Run.seq ?_
  refine Run.region ?_
  refine Run.q (v := .pointer (some ⟨b1, 3, none⟩)) rfl (OpQ.y (OpY.fieldAddr Tfo_35_3 rfl rfl)) ?_
  refine Run.q (v := .int .i64 Phase) rfl (OpQ.y (OpY.load1 Tone_3 rfl (Cells.blk (.tail _ (List.Mem.head _)) ⟨rfl, trivial⟩))) ?_
  refine Run.q (v := .pointer (some ⟨b2, 3, none⟩)) rfl (OpQ.y (OpY.fieldAddr Tfo_35_3 rfl rfl)) ?_
  refine Run.q (v := .int .i64 Phase) rfl (OpQ.y (OpY.load1 Tone_3 rfl (Cells.blk (.head _) ⟨rfl, trivial⟩))) ?_
  refine Run.q (v := .bool false) rfl (OpQ.y (OpY.neqSame rfl rfl rfl)) ?_
  refine Run.done ?_
  refine Run.cond (b := false) rfl (fun h => nomatch h) (fun _ => ?_)
  refine Run.skip ?_
  refine Run.seq ?_
  refine Run.seq ?_
  refine Run.region ?_
  refine Run.q (v := .pointer (some ⟨b1, 4, none⟩)) rfl (OpQ.y (OpY.fieldAddr Tfo_35_4 rfl rfl)) ?_
  refine Run.q (v := vTerms) rfl (OpQ.y (OpY.load1 Tone_32 rfl (Cells.blk (.tail _ (List.Mem.head _)) ⟨rfl, trivial⟩))) ?_
  refine Run.q (v := .pointer (some ⟨b2, 4, none⟩)) rfl (OpQ.y (OpY.fieldAddr Tfo_35_4 rfl rfl)) ?_
  refine Run.q (v := qvTerms) rfl (OpQ.y (OpY.load1 Tone_32 rfl (Cells.blk (.head _) ⟨rfl, trivial⟩))) ?_
  refine Run.q (v := .bool true) rfl (OpQ.call (vs := [vTerms, qvTerms]) (caps := []) Tcall_33 rfl rfl (fun w hs => eqTermS_true (hs.sl hTerms) (hs.sl qhTerms) rfl)) ?_
  refine Run.q (v := .bool false) rfl (OpQ.y (OpY.pure rfl)) ?_
  refine Run.done ?_
  refine Run.cond (b := false) rfl (fun h => nomatch h) (fun _ => ?_)
  refine Run.skip ?_
  refine Run.seq ?_
  refine Run.seq ?_
  refine Run.region ?_
  refine Run.q (v := .pointer (some ⟨b1, 5, none⟩)) rfl (OpQ.y (OpY.fieldAddr Tfo_35_5 rfl rfl)) ?_
  refine Run.q (v := vOut) rfl (OpQ.y (OpY.load1 Tone_33 rfl (Cells.blk (.tail _ (List.Mem.head _)) ⟨rfl, trivial⟩))) ?_
  refine Run.q (v := .pointer (some ⟨b2, 5, none⟩)) rfl (OpQ.y (OpY.fieldAddr Tfo_35_5 rfl rfl)) ?_
  refine Run.q (v := qvOut) rfl (OpQ.y (OpY.load1 Tone_33 rfl (Cells.blk (.head _) ⟨rfl, trivial⟩))) ?_
  refine Run.q (v := .bool true) rfl (OpQ.call (vs := [vOut, qvOut]) (caps := []) Tcall_34 rfl rfl (fun w hs => eqAffineS_true (hs.sl hOut) (hs.sl qhOut) rfl)) ?_
  refine Run.q (v := .bool false) rfl (OpQ.y (OpY.pure rfl)) ?_
  refine Run.done ?_
  refine Run.cond (b := false) rfl (fun h => nomatch h) (fun _ => ?_)
  refine Run.skip ?_
  refine Run.seq ?_
  refine Run.region ?_
  refine Run.q (v := .bool true) rfl (OpQ.y (OpY.pure rfl)) ?_
  refine Run.done ?_
  refine Run.ret ?_
  refine ⟨.bool true, [], Out.one rfl rfl, (Some'.weak (.nil _)), ?_⟩
  rfl

set_option maxHeartbeats 1500000 in
set_option maxRecDepth 20000 in
theorem l21Valid_spec {I V R F : Int} {vt vo : Value} {nt no : Nat} {ts os : List Int} {w : World} (ht : Sl w vt 2 nt (ints ts)) (ho : Sl w vo 2 no (ints os)) : Calls Try.prog 15 #[.agg #[.int .i64 I, .int .i64 V, .int .i64 R, .int .i64 F, vt, vo]] w (Post No w fun v _ => v = .bool (psOk I V R F ts nt os no)) := by
  have htl := ht.len
  have hnt := ht.le
  obtain ⟨At, ct, rfl, _, _⟩ := ht.form0
  have hol := ho.len
  have hno := ho.le
  obtain ⟨Ao, co, rfl, _, _⟩ := ho.form0
  generalize hNN0 : IntKind.i64.wrap (I + V) = NN
  obtain ⟨PW, hPW0⟩ : ∃ PW : Int, (2 : Int) ^ (I + V).toNat = PW := ⟨_, rfl⟩
  refine enter (n := 124) (args := [.agg #[.int .i64 I, .int .i64 V, .int .i64 R, .int .i64 F, .slice At nt ct, .slice Ao no co]]) Try.func15 rfl rfl (St.empty _ _) ?_
  refine Run.seq ?_
  refine Run.region ?_
  refine Run.step rfl (OpStep.box (us := [.int .i64 I, .int .i64 V, .int .i64 R, .int .i64 F, .slice At nt ct, .slice Ao no co]) rfl fun b1 => ?_)
  refine Run.q (v := .bool false) rfl (OpQ.y (OpY.pure rfl)) ?_
  refine Run.done ?_
  refine Run.seq ?_
  refine Run.region ?_
  refine Run.q (v := .pointer (some ⟨b1, 0, none⟩)) rfl (OpQ.y (OpY.fieldAddr Tfo_35_0 rfl rfl)) ?_
  refine Run.q (v := .int .i64 I) rfl (OpQ.y (OpY.load1 Tone_3 rfl (Cells.blk (.head _) ⟨rfl, trivial⟩))) ?_
  refine Run.q (v := .pointer (some ⟨b1, 1, none⟩)) rfl (OpQ.y (OpY.fieldAddr Tfo_35_1 rfl rfl)) ?_
  refine Run.q (v := .int .i64 V) rfl (OpQ.y (OpY.load1 Tone_3 rfl (Cells.blk (.head _) ⟨rfl, trivial⟩))) ?_
  refine Run.q (v := .int .i64 NN) rfl (OpQ.y (OpY.addW rfl rfl hNN0)) ?_
  refine Run.q (v := .int .i64 NN) rfl (OpQ.y (OpY.pure rfl)) ?_
  refine Run.done ?_
  refine Run.seq ?_
  refine Run.seq ?_
  refine Run.region ?_
  refine Run.q (v := .pointer (some ⟨b1, 0, none⟩)) rfl (OpQ.y (OpY.fieldAddr Tfo_35_0 rfl rfl)) ?_
  refine Run.q (v := .int .i64 I) rfl (OpQ.y (OpY.load1 Tone_3 rfl (Cells.blk (.head _) ⟨rfl, trivial⟩))) ?_
  refine Run.q (v := .bool (within I 1 5)) rfl (OpQ.call (vs := [.int .i64 I, .int .i64 1, .int .i64 5]) (caps := []) Tcall_39 rfl rfl (fun w hs => l1In_spec _ _ _ w)) ?_
  refine Run.q (v := .bool (!(within I 1 5))) rfl (OpQ.y (OpY.pure rfl)) ?_
  rcases Bool.eq_false_or_eq_true (!(within I 1 5)) with h18 | h18
  · refine Run.q (v := .bool true) rfl (OpQ.y (OpY.moveB rfl h18)) ?_
    have p18 := h18; try simp only [bs] at p18
    refine Run.pass rfl ?_
    refine Run.pass rfl ?_
    refine Run.pass rfl ?_
    refine Run.pass rfl ?_
    refine Run.pass rfl ?_
    refine Run.pass rfl ?_
    refine Run.pass rfl ?_
    refine Run.q (v := .bool true) rfl (OpQ.y (OpY.pure rfl)) ?_
    refine Run.q (v := .bool true) rfl (OpQ.y (OpY.pure rfl)) ?_
    refine Run.pass rfl ?_
    refine Run.pass rfl ?_
    refine Run.pass rfl ?_
    refine Run.pass rfl ?_
    refine Run.q (v := .bool true) rfl (OpQ.y (OpY.pure rfl)) ?_
    refine Run.q (v := .bool true) rfl (OpQ.y (OpY.pure rfl)) ?_
    refine Run.pass rfl ?_
    refine Run.pass rfl ?_
    refine Run.pass rfl ?_
    refine Run.pass rfl ?_
    refine Run.q (v := .bool true) rfl (OpQ.y (OpY.pure rfl)) ?_
    refine Run.q (v := .bool true) rfl (OpQ.y (OpY.pure rfl)) ?_
    refine Run.pass rfl ?_
    refine Run.pass rfl ?_
    refine Run.pass rfl ?_
    refine Run.pass rfl ?_
    refine Run.pass rfl ?_
    refine Run.pass rfl ?_
    refine Run.q (v := .bool true) rfl (OpQ.y (OpY.pure rfl)) ?_
    refine Run.done ?_
    refine Run.cond (b := true) rfl (fun _ => ?_) (fun h => nomatch h)
    refine Run.seq ?_
    have hbad : psOk I V R F ts nt os no = false := by rw [psOk, show psHead I V R F no = false by simp_all [psHead]]; simp
    refine Run.region ?_
    refine Run.q (v := .bool false) rfl (OpQ.y (OpY.pure rfl)) ?_
    refine Run.done ?_
    refine Run.ret ?_
    refine ⟨.bool false, [], Out.one rfl rfl, (Some'.weak (.nil _)), ?_⟩
    show _ = _
    rw [hbad]
  · refine Run.q (v := .bool false) rfl (OpQ.y (OpY.moveB rfl h18)) ?_
    have p18 := h18; try simp only [bs] at p18
    have hI := within_iff.1 p18
    refine Run.q (v := .pointer (some ⟨b1, 1, none⟩)) rfl (OpQ.y (OpY.fieldAddr Tfo_35_1 rfl rfl)) ?_
    refine Run.q (v := .int .i64 V) rfl (OpQ.y (OpY.load1 Tone_3 rfl (Cells.blk (.head _) ⟨rfl, trivial⟩))) ?_
    refine Run.q (v := .pointer (some ⟨b1, 0, none⟩)) rfl (OpQ.y (OpY.fieldAddr Tfo_35_0 rfl rfl)) ?_
    refine Run.q (v := .int .i64 I) rfl (OpQ.y (OpY.load1 Tone_3 rfl (Cells.blk (.head _) ⟨rfl, trivial⟩))) ?_
    refine Run.q (v := .int .i64 (24 - I)) rfl (OpQ.y (OpY.sub rfl rfl rfl (by omega) (by omega))) ?_
    refine Run.q (v := .bool (within V 0 (24 - I))) rfl (OpQ.call (vs := [.int .i64 V, .int .i64 0, .int .i64 (24 - I)]) (caps := []) Tcall_39 rfl rfl (fun w hs => l1In_spec _ _ _ w)) ?_
    refine Run.q (v := .bool (!(within V 0 (24 - I)))) rfl (OpQ.y (OpY.pure rfl)) ?_
    refine Run.q (v := .bool (!(within V 0 (24 - I)))) rfl (OpQ.y (OpY.pure rfl)) ?_
    rcases Bool.eq_false_or_eq_true (!(within V 0 (24 - I))) with h27 | h27
    · refine Run.q (v := .bool true) rfl (OpQ.y (OpY.moveB rfl h27)) ?_
      have p27 := h27; try simp only [bs] at p27
      refine Run.pass rfl ?_
      refine Run.pass rfl ?_
      refine Run.pass rfl ?_
      refine Run.pass rfl ?_
      refine Run.q (v := .bool true) rfl (OpQ.y (OpY.pure rfl)) ?_
      refine Run.q (v := .bool true) rfl (OpQ.y (OpY.pure rfl)) ?_
      refine Run.pass rfl ?_
      refine Run.pass rfl ?_
      refine Run.pass rfl ?_
      refine Run.pass rfl ?_
      refine Run.q (v := .bool true) rfl (OpQ.y (OpY.pure rfl)) ?_
      refine Run.q (v := .bool true) rfl (OpQ.y (OpY.pure rfl)) ?_
      refine Run.pass rfl ?_
      refine Run.pass rfl ?_
      refine Run.pass rfl ?_
      refine Run.pass rfl ?_
      refine Run.pass rfl ?_
      refine Run.pass rfl ?_
      refine Run.q (v := .bool true) rfl (OpQ.y (OpY.pure rfl)) ?_
      refine Run.done ?_
      refine Run.cond (b := true) rfl (fun _ => ?_) (fun h => nomatch h)
      refine Run.seq ?_
      have hbad : psOk I V R F ts nt os no = false := by rw [psOk, show psHead I V R F no = false by simp_all [psHead]]; simp
      refine Run.region ?_
      refine Run.q (v := .bool false) rfl (OpQ.y (OpY.pure rfl)) ?_
      refine Run.done ?_
      refine Run.ret ?_
      refine ⟨.bool false, [], Out.one rfl rfl, (Some'.weak (.nil _)), ?_⟩
      show _ = _
      rw [hbad]
    · refine Run.q (v := .bool false) rfl (OpQ.y (OpY.moveB rfl h27)) ?_
      have p27 := h27; try simp only [bs] at p27
      refine Run.q (v := .pointer (some ⟨b1, 2, none⟩)) rfl (OpQ.y (OpY.fieldAddr Tfo_35_2 rfl rfl)) ?_
      refine Run.q (v := .int .i64 R) rfl (OpQ.y (OpY.load1 Tone_3 rfl (Cells.blk (.head _) ⟨rfl, trivial⟩))) ?_
      refine Run.q (v := .bool (within R (-60) 60)) rfl (OpQ.call (vs := [.int .i64 R, .int .i64 (-60), .int .i64 60]) (caps := []) Tcall_39 rfl rfl (fun w hs => l1In_spec _ _ _ w)) ?_
      refine Run.q (v := .bool (!(within R (-60) 60))) rfl (OpQ.y (OpY.pure rfl)) ?_
      refine Run.q (v := .bool (!(within R (-60) 60))) rfl (OpQ.y (OpY.pure rfl)) ?_
      rcases Bool.eq_false_or_eq_true (!(within R (-60) 60)) with h33 | h33
      · refine Run.q (v := .bool true) rfl (OpQ.y (OpY.moveB rfl h33)) ?_
        have p33 := h33; try simp only [bs] at p33
        refine Run.pass rfl ?_
        refine Run.pass rfl ?_
        refine Run.pass rfl ?_
        refine Run.pass rfl ?_
        refine Run.q (v := .bool true) rfl (OpQ.y (OpY.pure rfl)) ?_
        refine Run.q (v := .bool true) rfl (OpQ.y (OpY.pure rfl)) ?_
        refine Run.pass rfl ?_
        refine Run.pass rfl ?_
        refine Run.pass rfl ?_
        refine Run.pass rfl ?_
        refine Run.pass rfl ?_
        refine Run.pass rfl ?_
        refine Run.q (v := .bool true) rfl (OpQ.y (OpY.pure rfl)) ?_
        refine Run.done ?_
        refine Run.cond (b := true) rfl (fun _ => ?_) (fun h => nomatch h)
        refine Run.seq ?_
        have hbad : psOk I V R F ts nt os no = false := by rw [psOk, show psHead I V R F no = false by simp_all [psHead]]; simp
        refine Run.region ?_
        refine Run.q (v := .bool false) rfl (OpQ.y (OpY.pure rfl)) ?_
        refine Run.done ?_
        refine Run.ret ?_
        refine ⟨.bool false, [], Out.one rfl rfl, (Some'.weak (.nil _)), ?_⟩
        show _ = _
        rw [hbad]
      · refine Run.q (v := .bool false) rfl (OpQ.y (OpY.moveB rfl h33)) ?_
        have p33 := h33; try simp only [bs] at p33
        refine Run.q (v := .pointer (some ⟨b1, 3, none⟩)) rfl (OpQ.y (OpY.fieldAddr Tfo_35_3 rfl rfl)) ?_
        refine Run.q (v := .int .i64 F) rfl (OpQ.y (OpY.load1 Tone_3 rfl (Cells.blk (.head _) ⟨rfl, trivial⟩))) ?_
        refine Run.q (v := .bool (within F 0 7)) rfl (OpQ.call (vs := [.int .i64 F, .int .i64 0, .int .i64 7]) (caps := []) Tcall_39 rfl rfl (fun w hs => l1In_spec _ _ _ w)) ?_
        refine Run.q (v := .bool (!(within F 0 7))) rfl (OpQ.y (OpY.pure rfl)) ?_
        refine Run.q (v := .bool (!(within F 0 7))) rfl (OpQ.y (OpY.pure rfl)) ?_
        rcases Bool.eq_false_or_eq_true (!(within F 0 7)) with h39 | h39
        · refine Run.q (v := .bool true) rfl (OpQ.y (OpY.moveB rfl h39)) ?_
          have p39 := h39; try simp only [bs] at p39
          refine Run.pass rfl ?_
          refine Run.pass rfl ?_
          refine Run.pass rfl ?_
          refine Run.pass rfl ?_
          refine Run.pass rfl ?_
          refine Run.pass rfl ?_
          refine Run.q (v := .bool true) rfl (OpQ.y (OpY.pure rfl)) ?_
          refine Run.done ?_
          refine Run.cond (b := true) rfl (fun _ => ?_) (fun h => nomatch h)
          refine Run.seq ?_
          have hbad : psOk I V R F ts nt os no = false := by rw [psOk, show psHead I V R F no = false by simp_all [psHead]]; simp
          refine Run.region ?_
          refine Run.q (v := .bool false) rfl (OpQ.y (OpY.pure rfl)) ?_
          refine Run.done ?_
          refine Run.ret ?_
          refine ⟨.bool false, [], Out.one rfl rfl, (Some'.weak (.nil _)), ?_⟩
          show _ = _
          rw [hbad]
        · refine Run.q (v := .bool false) rfl (OpQ.y (OpY.moveB rfl h39)) ?_
          have p39 := h39; try simp only [bs] at p39
          refine Run.q (v := .pointer (some ⟨b1, 5, none⟩)) rfl (OpQ.y (OpY.fieldAddr Tfo_35_5 rfl rfl)) ?_
          refine Run.q (v := .slice Ao no co) rfl (OpQ.y (OpY.load1 Tone_33 rfl (Cells.blk (.head _) ⟨rfl, trivial⟩))) ?_
          refine Run.q (v := .int .i64 (((no : Nat) : Int))) rfl (OpQ.y (OpY.len Tsl_33 rfl)) ?_
          refine Run.q (v := .pointer (some ⟨b1, 0, none⟩)) rfl (OpQ.y (OpY.fieldAddr Tfo_35_0 rfl rfl)) ?_
          refine Run.q (v := .int .i64 I) rfl (OpQ.y (OpY.load1 Tone_3 rfl (Cells.blk (.head _) ⟨rfl, trivial⟩))) ?_
          refine Run.q (v := .bool ((((no : Nat) : Int)) != I)) rfl (OpQ.y (OpY.pure rfl)) ?_
          refine Run.q (v := .bool ((((no : Nat) : Int)) != I)) rfl (OpQ.y (OpY.pure rfl)) ?_
          refine Run.done ?_
          refine Run.cond (b := (((no : Nat) : Int)) != I) rfl (fun h46 => ?_) (fun h46 => ?_)
          · have p46 := h46; try simp only [bs] at p46
            refine Run.seq ?_
            have hbad : psOk I V R F ts nt os no = false := by rw [psOk, show psHead I V R F no = false by simp_all [psHead]]; simp
            refine Run.region ?_
            refine Run.q (v := .bool false) rfl (OpQ.y (OpY.pure rfl)) ?_
            refine Run.done ?_
            refine Run.ret ?_
            refine ⟨.bool false, [], Out.one rfl rfl, (Some'.weak (.nil _)), ?_⟩
            show _ = _
            rw [hbad]
          · have p46 := h46; try simp only [bs] at p46
            refine Run.skip ?_
            refine Run.seq ?_
            refine Run.seq ?_
            have hh : psHead I V R F no = true := by simp_all [psHead]
            have hp := psHead_iff hh
            have hNN : NN = I + V := by rw [← hNN0, IntKind.wrap_i64]; omega
            have hpw := pow_le24 (n := (I + V).toNat) (by omega)
            have hPW : (1 : Int) * 2 ^ NN.toNat = PW := by rw [hNN, Int.one_mul]; exact hPW0
            rw [hPW0] at hpw
            refine Run.region ?_
            refine Run.q (v := .pointer (some ⟨b1, 4, none⟩)) rfl (OpQ.y (OpY.fieldAddr Tfo_35_4 rfl rfl)) ?_
            refine Run.q (v := .slice At nt ct) rfl (OpQ.y (OpY.load1 Tone_32 rfl (Cells.blk (.head _) ⟨rfl, trivial⟩))) ?_
            refine Run.q (v := .int .i64 (((nt : Nat) : Int))) rfl (OpQ.y (OpY.len Tsl_32 rfl)) ?_
            refine Run.q (v := .int .i64 0) rfl (OpQ.y (OpY.pure rfl)) ?_
            refine Run.done ?_
            refine Run.block ?_
            refine Run.loop (ι := Nat) ([2, 4, 5, 6, 50, 51, 52, 53, 54, 55, 56, 57, 58, 59, 60, 61, 62, 63, 64, 65, 66, 67, 68, 69, 70, 71, 72, 73, 74, 75, 76, 77, 78, 79, 80, 81, 82, 83, 84, 85, 86, 87, 88, 89, 90, 91, 92, 93, 94, 95] ++ [96, 97, 98, 99, 100, 101]) (fun k => [(50, .int .i64 (((k : Nat) : Int)))]) (fun k => [.blk b1 35 [.int .i64 I, .int .i64 V, .int .i64 R, .int .i64 F, .slice At nt ct, .slice Ao no co]]) (fun k => k ≤ nt ∧ (∀ i, i < k → (!termOk PW ts i) = false)) (fun k => nt - k) 0 ?_ ?_ ?_ ?_
            · exact ⟨Nat.zero_le _, by first | trivial | (intro i hi; omega)⟩
            · exact ⟨rfl, trivial⟩
            · exact (Some'.weak (.take (.nil _)))
            · rintro k fr hinv
              show Run _ _ (over _ _ [(50, .int .i64 (((k : Nat) : Int)))] fr) [.blk b1 35 [.int .i64 I, .int .i64 V, .int .i64 R, .int .i64 F, .slice At nt ct, .slice Ao no co]]
              try dsimp only at hinv
              refine Run.seq ?_
              refine Run.region ?_
              refine Run.q (v := .bool (decide ((((k : Nat) : Int)) < (((nt : Nat) : Int))))) rfl (OpQ.y (OpY.pure rfl)) ?_
              refine Run.done ?_
              refine Run.seq ?_
              refine Run.cond (b := decide ((((k : Nat) : Int)) < (((nt : Nat) : Int)))) rfl (fun h51 => ?_) (fun h51 => ?_)
              · have p51 := h51; try simp only [bs] at p51
                have hltk : k < nt := by omega
                obtain ⟨bt, ot, rfl⟩ := ht.opn (by omega)
                refine Run.skip ?_
                refine Run.seq ?_
                refine Run.block ?_
                refine Run.seq ?_
                refine Run.region ?_
                refine Run.q (v := .int .i64 (((k : Nat) : Int))) rfl (OpQ.y (OpY.pure rfl)) ?_
                refine Run.q (v := .pointer (some ⟨bt, ot + k * 2, none⟩)) rfl (OpQ.y (OpY.index (kk := k) Tsl_32 rfl rfl (by omega) (by omega) (by omega))) ?_
                refine Run.q (v := .agg #[.int .i64 (ix ts (k * 2)), .int .i64 (ix ts (k * 2 + 1))]) rfl (OpQ.y (OpY.loadN (cs := [.int .i64 (ix ts (k * 2)), .int .i64 (ix ts (k * 2 + 1))]) Tagg_51 rfl (Cells.arg (k := k * 2) ht rfl (by omega) (pre2 (by omega))))) ?_
                refine Run.step rfl (OpStep.alloc (zs := [.int .i64 0, .int .i64 0]) Tzero_51 fun b2 => ?_)
                refine Run.q (v := .int .i64 (((k : Nat) : Int))) rfl (OpQ.y (OpY.pure rfl)) ?_
                refine Run.step rfl (OpStep.storeAll (us := [.int .i64 (ix ts (k * 2)), .int .i64 (ix ts (k * 2 + 1))]) Tsize_51 rfl rfl rfl (.here _) rfl ?_)
                refine Run.done ?_
                refine Run.seq ?_
                refine Run.seq ?_
                refine Run.draws (by kernel_rfl) (by kernel_rfl) ?_
                refine Lex.q (v := .pointer (some ⟨b2, 0, none⟩)) rfl (OpQ.y (OpY.fieldAddr Tfo_51_0 rfl rfl)) ?_
                refine Lex.q (v := .int .i64 (ix ts (k * 2))) rfl (OpQ.y (OpY.load1 Tone_3 rfl (Cells.blk (.head _) ⟨rfl, trivial⟩))) ?_
                refine Lex.q (v := .int .i64 NN) rfl (OpQ.y (OpY.pure rfl)) ?_
                refine Lex.q (v := .int .u64 NN) rfl (OpQ.y (OpY.convIntEq Tsome_3 Tint_48 rfl (by rw [IntKind.wrap_u64]; omega))) ?_
                refine Lex.q (v := .int .i64 PW) rfl (OpQ.y (OpY.shl (n := NN.toNat) rfl rfl (by omega) (by omega) hPW (by omega) (by omega))) ?_
                refine Lex.q (v := .int .i64 (PW - 1)) rfl (OpQ.y (OpY.sub rfl rfl rfl (by omega) (by omega))) ?_
                refine Lex.q (v := .bool (within (ix ts (k * 2)) 1 (PW - 1))) rfl (OpQ.call (vs := [.int .i64 (ix ts (k * 2)), .int .i64 1, .int .i64 (PW - 1)]) (caps := []) Tcall_39 rfl rfl (fun w hs => l1In_spec _ _ _ w)) ?_
                refine Lex.q (v := .bool (!(within (ix ts (k * 2)) 1 (PW - 1)))) rfl (OpQ.y (OpY.pure rfl)) ?_
                rcases Bool.eq_false_or_eq_true (!(within (ix ts (k * 2)) 1 (PW - 1))) with h63 | h63
                · refine Lex.q (v := .bool true) rfl (OpQ.y (OpY.moveB rfl h63)) ?_
                  have p63 := h63; try simp only [bs] at p63
                  refine Lex.pass rfl ?_
                  refine Lex.pass rfl ?_
                  refine Lex.pass rfl ?_
                  refine Lex.pass rfl ?_
                  refine Lex.q (v := .bool true) rfl (OpQ.y (OpY.pure rfl)) ?_
                  refine Lex.q (v := .bool true) rfl (OpQ.y (OpY.pure rfl)) ?_
                  refine Lex.pass rfl ?_
                  refine Lex.pass rfl ?_
                  refine Lex.pass rfl ?_
                  refine Lex.pass rfl ?_
                  refine Lex.pass rfl ?_
                  refine Lex.pass rfl ?_
                  refine Lex.pass rfl ?_
                  refine Lex.pass rfl ?_
                  refine Lex.pass rfl ?_
                  refine Lex.pass rfl ?_
                  refine Lex.pass rfl ?_
                  refine Lex.pass rfl ?_
                  refine Lex.pass rfl ?_
                  refine Lex.pass rfl ?_
                  refine Lex.q (v := .bool true) rfl (OpQ.y (OpY.pure rfl)) ?_
                  refine Lex.done ?_
                  refine Run.cond (b := true) rfl (fun _ => ?_) (fun h => nomatch h)
                  refine Run.seq ?_
                  have hb1 : (!termOk PW ts k) = true := by
                    unfold termOk
                    first | (rw [p63]; rfl) | (rw [p69]; simp; done) | (rw [show decide (0 < k → ix ts ((k - 1) * 2) < ix ts (k * 2)) = false from decide_eq_false (fun h => by have := h (by omega); omega)]; simp; done) | (rw [show decide ((setL (ix ts (k * 2))).length ≤ 3) = false from decide_eq_false (by omega)]; simp; done) | (rw [show decide (ix ts (k * 2 + 1) % 2 ^ ((setL (ix ts (k * 2))).length - 1) = 0) = false from decide_eq_false (by first | (rw [← hT4]; assumption) | assumption | omega)]; simp)
                  have hbad : psOk I V R F ts nt os no = false := by rw [psOk, hPW0, anyI_true hltk hb1]; simp
                  refine Run.region ?_
                  refine Run.q (v := .bool false) rfl (OpQ.y (OpY.pure rfl)) ?_
                  refine Run.done ?_
                  refine Run.ret ?_
                  refine ⟨.bool false, [], Out.one rfl rfl, (Some'.weak (.nil _)), ?_⟩
                  show _ = _
                  rw [hbad]
                · refine Lex.q (v := .bool false) rfl (OpQ.y (OpY.moveB rfl h63)) ?_
                  have p63 := h63; try simp only [bs] at p63
                  have hM := within_iff.1 p63
                  refine Lex.q (v := .pointer (some ⟨b2, 1, none⟩)) rfl (OpQ.y (OpY.fieldAddr Tfo_51_1 rfl rfl)) ?_
                  refine Lex.q (v := .int .i64 (ix ts (k * 2 + 1))) rfl (OpQ.y (OpY.load1 Tone_3 rfl (Cells.blk (.head _) ⟨rfl, trivial⟩))) ?_
                  refine Lex.q (v := .bool (within (ix ts (k * 2 + 1)) 1 7)) rfl (OpQ.call (vs := [.int .i64 (ix ts (k * 2 + 1)), .int .i64 1, .int .i64 7]) (caps := []) Tcall_39 rfl rfl (fun w hs => l1In_spec _ _ _ w)) ?_
                  refine Lex.q (v := .bool (!(within (ix ts (k * 2 + 1)) 1 7))) rfl (OpQ.y (OpY.pure rfl)) ?_
                  refine Lex.q (v := .bool (!(within (ix ts (k * 2 + 1)) 1 7))) rfl (OpQ.y (OpY.pure rfl)) ?_
                  rcases Bool.eq_false_or_eq_true (!(within (ix ts (k * 2 + 1)) 1 7)) with h69 | h69
                  · refine Lex.q (v := .bool true) rfl (OpQ.y (OpY.moveB rfl h69)) ?_
                    have p69 := h69; try simp only [bs] at p69
                    refine Lex.pass rfl ?_
                    refine Lex.pass rfl ?_
                    refine Lex.pass rfl ?_
                    refine Lex.pass rfl ?_
                    refine Lex.pass rfl ?_
                    refine Lex.pass rfl ?_
                    refine Lex.pass rfl ?_
                    refine Lex.pass rfl ?_
                    refine Lex.pass rfl ?_
                    refine Lex.pass rfl ?_
                    refine Lex.pass rfl ?_
                    refine Lex.pass rfl ?_
                    refine Lex.pass rfl ?_
                    refine Lex.pass rfl ?_
                    refine Lex.q (v := .bool true) rfl (OpQ.y (OpY.pure rfl)) ?_
                    refine Lex.done ?_
                    refine Run.cond (b := true) rfl (fun _ => ?_) (fun h => nomatch h)
                    refine Run.seq ?_
                    have hb1 : (!termOk PW ts k) = true := by
                      unfold termOk
                      first | (rw [p63]; rfl) | (rw [p69]; simp; done) | (rw [show decide (0 < k → ix ts ((k - 1) * 2) < ix ts (k * 2)) = false from decide_eq_false (fun h => by have := h (by omega); omega)]; simp; done) | (rw [show decide ((setL (ix ts (k * 2))).length ≤ 3) = false from decide_eq_false (by omega)]; simp; done) | (rw [show decide (ix ts (k * 2 + 1) % 2 ^ ((setL (ix ts (k * 2))).length - 1) = 0) = false from decide_eq_false (by first | (rw [← hT4]; assumption) | assumption | omega)]; simp)
                    have hbad : psOk I V R F ts nt os no = false := by rw [psOk, hPW0, anyI_true hltk hb1]; simp
                    refine Run.region ?_
                    refine Run.q (v := .bool false) rfl (OpQ.y (OpY.pure rfl)) ?_
                    refine Run.done ?_
                    refine Run.ret ?_
                    refine ⟨.bool false, [], Out.one rfl rfl, (Some'.weak (.nil _)), ?_⟩
                    show _ = _
                    rw [hbad]
                  · refine Lex.q (v := .bool false) rfl (OpQ.y (OpY.moveB rfl h69)) ?_
                    have p69 := h69; try simp only [bs] at p69
                    have hC := within_iff.1 p69
                    refine Lex.q (v := .int .i64 (((k : Nat) : Int))) rfl (OpQ.y (OpY.pure rfl)) ?_
                    refine Lex.q (v := .bool (decide ((((k : Nat) : Int)) > 0))) rfl (OpQ.y (OpY.pure rfl)) ?_
                    rcases Bool.eq_false_or_eq_true (decide ((((k : Nat) : Int)) > 0)) with h72 | h72
                    · refine Lex.q (v := .bool true) rfl (OpQ.y (OpY.moveB rfl h72)) ?_
                      have p72 := h72; try simp only [bs] at p72
                      refine Lex.q (v := .pointer (some ⟨b1, 4, none⟩)) rfl (OpQ.y (OpY.fieldAddr Tfo_35_4 rfl rfl)) ?_
                      refine Lex.q (v := .slice (some ⟨bt, ot, none⟩) nt ct) rfl (OpQ.y (OpY.load1 Tone_32 rfl (Cells.blk (.tail _ (List.Mem.head _)) ⟨rfl, trivial⟩))) ?_
                      refine Lex.q (v := .int .i64 (((k : Nat) : Int))) rfl (OpQ.y (OpY.pure rfl)) ?_
                      refine Lex.q (v := .int .i64 ((((k : Nat) : Int)) - 1)) rfl (OpQ.y (OpY.sub rfl rfl rfl (by omega) (by omega))) ?_
                      refine Lex.q (v := .pointer (some ⟨bt, ot + (k - 1) * 2, none⟩)) rfl (OpQ.y (OpY.index (kk := k - 1) Tsl_32 rfl rfl (by omega) (by omega) (by omega))) ?_
                      refine Lex.q (v := .pointer (some ⟨bt, ot + (k - 1) * 2, none⟩)) rfl (OpQ.y (OpY.fieldAddr Tfo_51_0 rfl rfl)) ?_
                      refine Lex.q (v := .int .i64 (ix ts ((k - 1) * 2))) rfl (OpQ.y (OpY.load1 Tone_3 rfl (Cells.arg (k := (k - 1) * 2) ht rfl (by omega) (pre1 (by omega))))) ?_
                      refine Lex.q (v := .pointer (some ⟨b2, 0, none⟩)) rfl (OpQ.y (OpY.fieldAddr Tfo_51_0 rfl rfl)) ?_
                      refine Lex.q (v := .int .i64 (ix ts (k * 2))) rfl (OpQ.y (OpY.load1 Tone_3 rfl (Cells.blk (.head _) ⟨rfl, trivial⟩))) ?_
                      refine Lex.q (v := .bool (decide ((ix ts ((k - 1) * 2)) ≥ (ix ts (k * 2))))) rfl (OpQ.y (OpY.pure rfl)) ?_
                      refine Lex.q (v := .bool (decide ((ix ts ((k - 1) * 2)) ≥ (ix ts (k * 2))))) rfl (OpQ.y (OpY.pure rfl)) ?_
                      refine Lex.q (v := .bool (decide ((ix ts ((k - 1) * 2)) ≥ (ix ts (k * 2))))) rfl (OpQ.y (OpY.pure rfl)) ?_
                      refine Lex.done ?_
                      refine Run.cond (b := decide ((ix ts ((k - 1) * 2)) ≥ (ix ts (k * 2)))) rfl (fun h84 => ?_) (fun h84 => ?_)
                      · have p84 := h84; try simp only [bs] at p84
                        refine Run.seq ?_
                        have hb1 : (!termOk PW ts k) = true := by
                          unfold termOk
                          first | (rw [p63]; rfl) | (rw [p69]; simp; done) | (rw [show decide (0 < k → ix ts ((k - 1) * 2) < ix ts (k * 2)) = false from decide_eq_false (fun h => by have := h (by omega); omega)]; simp; done) | (rw [show decide ((setL (ix ts (k * 2))).length ≤ 3) = false from decide_eq_false (by omega)]; simp; done) | (rw [show decide (ix ts (k * 2 + 1) % 2 ^ ((setL (ix ts (k * 2))).length - 1) = 0) = false from decide_eq_false (by first | (rw [← hT4]; assumption) | assumption | omega)]; simp)
                        have hbad : psOk I V R F ts nt os no = false := by rw [psOk, hPW0, anyI_true hltk hb1]; simp
                        refine Run.region ?_
                        refine Run.q (v := .bool false) rfl (OpQ.y (OpY.pure rfl)) ?_
                        refine Run.done ?_
                        refine Run.ret ?_
                        refine ⟨.bool false, [], Out.one rfl rfl, (Some'.weak (.nil _)), ?_⟩
                        show _ = _
                        rw [hbad]
                      · have p84 := h84; try simp only [bs] at p84
                        refine Run.skip ?_
                        refine Run.seq ?_
                        refine Run.region ?_
                        refine Run.q (v := .pointer (some ⟨b2, 0, none⟩)) rfl (OpQ.y (OpY.fieldAddr Tfo_51_0 rfl rfl)) ?_
                        refine Run.q (v := .int .i64 (ix ts (k * 2))) rfl (OpQ.y (OpY.load1 Tone_3 rfl (Cells.blk (.head _) ⟨rfl, trivial⟩))) ?_
                        refine Run.step rfl (OpStep.call (vs := [.int .i64 (ix ts (k * 2))]) (caps := []) Tcall_40 rfl rfl (fun w hs => l1Set_spec (by omega) (by omega)) ?_)
                        rintro us _ ⟨hs24, rfl⟩
                        show Run _ _ (putF _ _ _ us) [.own us 3 1 ((setL (ix ts (k * 2))).length) (ints (setL (ix ts (k * 2)))), .blk b2 51 [.int .i64 (ix ts (k * 2)), .int .i64 (ix ts (k * 2 + 1))], .blk b1 35 [.int .i64 I, .int .i64 V, .int .i64 R, .int .i64 F, .slice (some ⟨bt, ot, none⟩) nt ct, .slice Ao no co]]
                        refine Run.formOwn (.head _) (fun A_us1 c_us1 hv hcapc_us1 hmaxc_us1 => ?_) (fun _ _ _ => ⟨nofun, nofun, nofun⟩)
                        subst hv
                        refine Run.q (v := .int .i64 ((((setL (ix ts (k * 2))).length : Nat) : Int))) rfl (OpQ.y (OpY.len Tsl_83 rfl)) ?_
                        refine Run.q (v := .int .i64 ((((setL (ix ts (k * 2))).length : Nat) : Int))) rfl (OpQ.y (OpY.pure rfl)) ?_
                        refine Run.done ?_
                        refine Run.seq ?_
                        refine Run.held (by kernel_rfl) ?_
                        refine DW.take (i := 0) (v := .int .i64 ((((setL (ix ts (k * 2))).length : Nat) : Int))) rfl (by kernel_rfl) (by kernel_rfl) (by kernel_rfl) (fun _ _ _ h => h) (Weak.refl _) rfl (OpY.pure rfl) ?_
                        refine DW.take (i := 1) (v := .bool (decide (((((setL (ix ts (k * 2))).length : Nat) : Int)) > 3))) rfl (by kernel_rfl) (by kernel_rfl) (by kernel_rfl) (fun _ _ _ h => h) (Weak.refl _) rfl (OpY.pure rfl) ?_
                        rcases Bool.eq_false_or_eq_true (decide (((((setL (ix ts (k * 2))).length : Nat) : Int)) > 3)) with h91 | h91
                        · refine DW.take (i := 2) (v := .bool true) rfl (by kernel_rfl) (by kernel_rfl) (by kernel_rfl) (fun _ _ _ h => h) (Weak.refl _) rfl (OpY.moveB rfl h91) ?_
                          have p91 := h91; try simp only [bs] at p91
                          refine DW.pass (i := 3) rfl (by kernel_rfl) (by kernel_rfl) (by kernel_rfl) (fun _ _ _ h => h) (Weak.refl _) rfl ?_
                          refine DW.pass (i := 4) rfl (by kernel_rfl) (by kernel_rfl) (by kernel_rfl) (fun _ _ _ h => h) (Weak.refl _) rfl ?_
                          refine DW.pass (i := 5) rfl (by kernel_rfl) (by kernel_rfl) (by kernel_rfl) (fun _ _ _ h => h) (Weak.refl _) rfl ?_
                          refine DW.pass (i := 6) rfl (by kernel_rfl) (by kernel_rfl) (by kernel_rfl) (fun _ _ _ h => h) (Weak.refl _) rfl ?_
                          refine DW.pass (i := 7) rfl (by kernel_rfl) (by kernel_rfl) (by kernel_rfl) (fun _ _ _ h => h) (Weak.refl _) rfl ?_
                          refine DW.pass (i := 8) rfl (by kernel_rfl) (by kernel_rfl) (by kernel_rfl) (fun _ _ _ h => h) (Weak.refl _) rfl ?_
                          refine DW.pass (i := 9) rfl (by kernel_rfl) (by kernel_rfl) (by kernel_rfl) (fun _ _ _ h => h) (Weak.refl _) rfl ?_
                          refine DW.pass (i := 10) rfl (by kernel_rfl) (by kernel_rfl) (by kernel_rfl) (fun _ _ _ h => h) (Weak.refl _) rfl ?_
                          refine DW.take (i := 11) (v := .bool true) rfl (by kernel_rfl) (by kernel_rfl) (by kernel_rfl) (fun _ _ _ h => h) (Weak.refl _) rfl (OpY.pure rfl) ?_
                          refine DW.done (by kernel_rfl) ?_
                          refine Run.cond (b := true) rfl (fun _ => ?_) (fun h => nomatch h)
                          refine Run.seq ?_
                          have hb1 : (!termOk PW ts k) = true := by
                            unfold termOk
                            first | (rw [p63]; rfl) | (rw [p69]; simp; done) | (rw [show decide (0 < k → ix ts ((k - 1) * 2) < ix ts (k * 2)) = false from decide_eq_false (fun h => by have := h (by omega); omega)]; simp; done) | (rw [show decide ((setL (ix ts (k * 2))).length ≤ 3) = false from decide_eq_false (by omega)]; simp; done) | (rw [show decide (ix ts (k * 2 + 1) % 2 ^ ((setL (ix ts (k * 2))).length - 1) = 0) = false from decide_eq_false (by first | (rw [← hT4]; assumption) | assumption | omega)]; simp)
                          have hbad : psOk I V R F ts nt os no = false := by rw [psOk, hPW0, anyI_true hltk hb1]; simp
                          refine Run.region ?_
                          refine Run.q (v := .bool false) rfl (OpQ.y (OpY.pure rfl)) ?_
                          refine Run.done ?_
                          refine Run.ret ?_
                          refine ⟨.bool false, [], Out.one rfl rfl, (Some'.weak (.nil _)), ?_⟩
                          show _ = _
                          rw [hbad]
                        · refine DW.take (i := 2) (v := .bool false) rfl (by kernel_rfl) (by kernel_rfl) (by kernel_rfl) (fun _ _ _ h => h) (Weak.refl _) rfl (OpY.moveB rfl h91) ?_
                          have p91 := h91; try simp only [bs] at p91
                          have hS1 := set_pos hM.1 (by omega)
                          have hT4 : ix [1, 1, 2, 4] ((setL (ix ts (k * 2))).length) = 2 ^ ((setL (ix ts (k * 2))).length - 1) := (pow3 hS1 (by omega)).symm
                          have hT0 : 0 < ix [1, 1, 2, 4] ((setL (ix ts (k * 2))).length) := by rw [hT4]; exact (pow_le24 (by omega)).1
                          refine DW.take (i := 3) (v := .pointer (some ⟨b2, 1, none⟩)) rfl (by kernel_rfl) (by kernel_rfl) (by kernel_rfl) (fun _ _ _ h => h) (Weak.refl _) rfl (OpY.fieldAddr Tfo_51_1 rfl rfl) ?_
                          refine DW.take (i := 4) (v := .int .i64 (ix ts (k * 2 + 1))) rfl (by kernel_rfl) (by kernel_rfl) (by kernel_rfl) (fun _ _ _ h => h) (Weak.refl _) rfl (OpY.load1 Tone_3 rfl (Cells.blk (.tail _ (List.Mem.head _)) ⟨rfl, trivial⟩)) ?_
                          refine DW.take (i := 6) (v := .int .i64 ((((setL (ix ts (k * 2))).length : Nat) : Int))) rfl (by kernel_rfl) (by kernel_rfl) (by kernel_rfl) (fun _ _ _ h => h) (Weak.refl _) rfl (OpY.pure rfl) ?_
                          refine DW.step (i := 5) (by kernel_rfl) rfl rfl (OpStep.buildSlice (us := [.int .i64 1, .int .i64 1, .int .i64 2, .int .i64 4]) Tsl_83 (by decide) (by decide) ⟨rfl, [.int .i64 1], _, rfl, rfl, rfl, ⟨rfl, [.int .i64 1], _, rfl, rfl, rfl, ⟨rfl, [.int .i64 2], _, rfl, rfl, rfl, ⟨rfl, [.int .i64 4], _, rfl, rfl, rfl, rfl⟩⟩⟩⟩ rfl fun b3 => ?_)
                          refine ⟨(Some'.weak (.skip (.take (.take (.take (.nil _)))))), ?_⟩
                          refine DW.take (i := 7) (v := .pointer (some ⟨b3, (setL (ix ts (k * 2))).length, none⟩)) rfl (by kernel_rfl) (by kernel_rfl) (by kernel_rfl) (fun _ _ _ h => h) (Some'.weak (.skip (.take (.take (.take (.nil _)))))) rfl (OpY.index (kk := (setL (ix ts (k * 2))).length) Tsl_83 rfl rfl (by omega) (by omega) (by omega)) ?_
                          refine DW.step (i := 8) (by kernel_rfl) rfl rfl (OpStep.q (v := .int .i64 (ix [1, 1, 2, 4] ((setL (ix ts (k * 2))).length))) (OpQ.y (OpY.load1 Tone_3 rfl (Cells.own0 (cs := ints [1, 1, 2, 4]) (.head _) (pre1 (by simp only [List.length_cons, List.length_nil]; omega))))) ?_)
                          refine ⟨(Some'.weak (.skip (.take (.take (.take (.nil _)))))), ?_⟩
                          refine DW.take (i := 9) (v := .int .i64 (ix ts (k * 2 + 1) % (ix [1, 1, 2, 4] ((setL (ix ts (k * 2))).length)))) rfl (by kernel_rfl) (by kernel_rfl) (by kernel_rfl) (fun _ _ _ h => h) (Some'.weak (.skip (.take (.take (.take (.nil _)))))) rfl (OpY.rem rfl rfl (by omega) (by omega)) ?_
                          refine DW.take (i := 10) (v := .bool ((ix ts (k * 2 + 1) % (ix [1, 1, 2, 4] ((setL (ix ts (k * 2))).length))) != 0)) rfl (by kernel_rfl) (by kernel_rfl) (by kernel_rfl) (fun _ _ _ h => h) (Some'.weak (.skip (.take (.take (.take (.nil _)))))) rfl (OpY.pure rfl) ?_
                          refine DW.take (i := 11) (v := .bool ((ix ts (k * 2 + 1) % (ix [1, 1, 2, 4] ((setL (ix ts (k * 2))).length))) != 0)) rfl (by kernel_rfl) (by kernel_rfl) (by kernel_rfl) (fun _ _ _ h => h) (Some'.weak (.skip (.take (.take (.take (.nil _)))))) rfl (OpY.pure rfl) ?_
                          refine DW.done (by kernel_rfl) ?_
                          refine Run.cond (b := (ix ts (k * 2 + 1) % (ix [1, 1, 2, 4] ((setL (ix ts (k * 2))).length))) != 0) rfl (fun h100 => ?_) (fun h100 => ?_)
                          · have p100 := h100; try simp only [bs] at p100
                            refine Run.seq ?_
                            have hb1 : (!termOk PW ts k) = true := by
                              unfold termOk
                              first | (rw [p63]; rfl) | (rw [p69]; simp; done) | (rw [show decide (0 < k → ix ts ((k - 1) * 2) < ix ts (k * 2)) = false from decide_eq_false (fun h => by have := h (by omega); omega)]; simp; done) | (rw [show decide ((setL (ix ts (k * 2))).length ≤ 3) = false from decide_eq_false (by omega)]; simp; done) | (rw [show decide (ix ts (k * 2 + 1) % 2 ^ ((setL (ix ts (k * 2))).length - 1) = 0) = false from decide_eq_false (by first | (rw [← hT4]; assumption) | assumption | omega)]; simp)
                            have hbad : psOk I V R F ts nt os no = false := by rw [psOk, hPW0, anyI_true hltk hb1]; simp
                            refine Run.region ?_
                            refine Run.q (v := .bool false) rfl (OpQ.y (OpY.pure rfl)) ?_
                            refine Run.done ?_
                            refine Run.ret ?_
                            refine ⟨.bool false, [], Out.one rfl rfl, (Some'.weak (.nil _)), ?_⟩
                            show _ = _
                            rw [hbad]
                          · have p100 := h100; try simp only [bs] at p100
                            refine Run.skip ?_
                            refine Run.blockEnd ?_
                            have hgood : (!termOk PW ts k) = false := by
                              unfold termOk
                              rw [p63, p69, show decide (0 < k → ix ts ((k - 1) * 2) < ix ts (k * 2)) = true from decide_eq_true (fun h => by omega), show decide ((setL (ix ts (k * 2))).length ≤ 3) = true from decide_eq_true (by omega), show decide (ix ts (k * 2 + 1) % 2 ^ ((setL (ix ts (k * 2))).length - 1) = 0) = true from decide_eq_true (by first | (rw [← hT4]; assumption) | assumption)]; rfl
                            refine Run.region ?_
                            refine Run.q (v := .int .i64 ((((k : Nat) : Int)) + 1)) rfl (OpQ.y (OpY.add rfl rfl rfl (by omega) (by omega))) ?_
                            refine Run.q (v := .int .i64 ((((k : Nat) : Int)) + 1)) rfl (OpQ.y (OpY.pure rfl)) ?_
                            refine Run.done ?_
                            refine Run.goal ⟨(by repeat (first | exact Same.refl _ _ | refine Same.put rfl ?_ | refine Same.over rfl rfl ?_)), k + 1, ?_, ?_, ?_, ?_⟩
                            · refine ⟨by omega, ?_⟩
                              intro i hi
                              rcases Nat.lt_succ_iff_lt_or_eq.1 hi with h | h
                              · exact hinv.2 i h
                              · rw [h]; exact hgood
                            · omega
                            · exact ⟨(by first | rfl | (congr 1; omega) | simp), trivial⟩
                            · exact (Some'.weak (.skip (.skip (.skip (.takeEq (by first | rfl | simp) (.nil _))))))
                    · refine Lex.q (v := .bool false) rfl (OpQ.y (OpY.moveB rfl h72)) ?_
                      have p72 := h72; try simp only [bs] at p72
                      refine Lex.pass rfl ?_
                      refine Lex.pass rfl ?_
                      refine Lex.pass rfl ?_
                      refine Lex.pass rfl ?_
                      refine Lex.pass rfl ?_
                      refine Lex.pass rfl ?_
                      refine Lex.pass rfl ?_
                      refine Lex.pass rfl ?_
                      refine Lex.pass rfl ?_
                      refine Lex.pass rfl ?_
                      refine Lex.q (v := .bool false) rfl (OpQ.y (OpY.pure rfl)) ?_
                      refine Lex.q (v := .bool false) rfl (OpQ.y (OpY.pure rfl)) ?_
                      refine Lex.done ?_
                      refine Run.cond (b := false) rfl (fun h => nomatch h) (fun _ => ?_)
                      refine Run.skip ?_
                      refine Run.seq ?_
                      refine Run.region ?_
                      refine Run.q (v := .pointer (some ⟨b2, 0, none⟩)) rfl (OpQ.y (OpY.fieldAddr Tfo_51_0 rfl rfl)) ?_
                      refine Run.q (v := .int .i64 (ix ts (k * 2))) rfl (OpQ.y (OpY.load1 Tone_3 rfl (Cells.blk (.head _) ⟨rfl, trivial⟩))) ?_
                      refine Run.step rfl (OpStep.call (vs := [.int .i64 (ix ts (k * 2))]) (caps := []) Tcall_40 rfl rfl (fun w hs => l1Set_spec (by omega) (by omega)) ?_)
                      rintro us _ ⟨hs24, rfl⟩
                      show Run _ _ (putF _ _ _ us) [.own us 3 1 ((setL (ix ts (k * 2))).length) (ints (setL (ix ts (k * 2)))), .blk b2 51 [.int .i64 (ix ts (k * 2)), .int .i64 (ix ts (k * 2 + 1))], .blk b1 35 [.int .i64 I, .int .i64 V, .int .i64 R, .int .i64 F, .slice (some ⟨bt, ot, none⟩) nt ct, .slice Ao no co]]
                      refine Run.formOwn (.head _) (fun A_us2 c_us2 hv hcapc_us2 hmaxc_us2 => ?_) (fun _ _ _ => ⟨nofun, nofun, nofun⟩)
                      subst hv
                      refine Run.q (v := .int .i64 ((((setL (ix ts (k * 2))).length : Nat) : Int))) rfl (OpQ.y (OpY.len Tsl_83 rfl)) ?_
                      refine Run.q (v := .int .i64 ((((setL (ix ts (k * 2))).length : Nat) : Int))) rfl (OpQ.y (OpY.pure rfl)) ?_
                      refine Run.done ?_
                      refine Run.seq ?_
                      refine Run.held (by kernel_rfl) ?_
                      refine DW.take (i := 0) (v := .int .i64 ((((setL (ix ts (k * 2))).length : Nat) : Int))) rfl (by kernel_rfl) (by kernel_rfl) (by kernel_rfl) (fun _ _ _ h => h) (Weak.refl _) rfl (OpY.pure rfl) ?_
                      refine DW.take (i := 1) (v := .bool (decide (((((setL (ix ts (k * 2))).length : Nat) : Int)) > 3))) rfl (by kernel_rfl) (by kernel_rfl) (by kernel_rfl) (fun _ _ _ h => h) (Weak.refl _) rfl (OpY.pure rfl) ?_
                      rcases Bool.eq_false_or_eq_true (decide (((((setL (ix ts (k * 2))).length : Nat) : Int)) > 3)) with h91 | h91
                      · refine DW.take (i := 2) (v := .bool true) rfl (by kernel_rfl) (by kernel_rfl) (by kernel_rfl) (fun _ _ _ h => h) (Weak.refl _) rfl (OpY.moveB rfl h91) ?_
                        have p91 := h91; try simp only [bs] at p91
                        refine DW.pass (i := 3) rfl (by kernel_rfl) (by kernel_rfl) (by kernel_rfl) (fun _ _ _ h => h) (Weak.refl _) rfl ?_
                        refine DW.pass (i := 4) rfl (by kernel_rfl) (by kernel_rfl) (by kernel_rfl) (fun _ _ _ h => h) (Weak.refl _) rfl ?_
                        refine DW.pass (i := 5) rfl (by kernel_rfl) (by kernel_rfl) (by kernel_rfl) (fun _ _ _ h => h) (Weak.refl _) rfl ?_
                        refine DW.pass (i := 6) rfl (by kernel_rfl) (by kernel_rfl) (by kernel_rfl) (fun _ _ _ h => h) (Weak.refl _) rfl ?_
                        refine DW.pass (i := 7) rfl (by kernel_rfl) (by kernel_rfl) (by kernel_rfl) (fun _ _ _ h => h) (Weak.refl _) rfl ?_
                        refine DW.pass (i := 8) rfl (by kernel_rfl) (by kernel_rfl) (by kernel_rfl) (fun _ _ _ h => h) (Weak.refl _) rfl ?_
                        refine DW.pass (i := 9) rfl (by kernel_rfl) (by kernel_rfl) (by kernel_rfl) (fun _ _ _ h => h) (Weak.refl _) rfl ?_
                        refine DW.pass (i := 10) rfl (by kernel_rfl) (by kernel_rfl) (by kernel_rfl) (fun _ _ _ h => h) (Weak.refl _) rfl ?_
                        refine DW.take (i := 11) (v := .bool true) rfl (by kernel_rfl) (by kernel_rfl) (by kernel_rfl) (fun _ _ _ h => h) (Weak.refl _) rfl (OpY.pure rfl) ?_
                        refine DW.done (by kernel_rfl) ?_
                        refine Run.cond (b := true) rfl (fun _ => ?_) (fun h => nomatch h)
                        refine Run.seq ?_
                        have hb1 : (!termOk PW ts k) = true := by
                          unfold termOk
                          first | (rw [p63]; rfl) | (rw [p69]; simp; done) | (rw [show decide (0 < k → ix ts ((k - 1) * 2) < ix ts (k * 2)) = false from decide_eq_false (fun h => by have := h (by omega); omega)]; simp; done) | (rw [show decide ((setL (ix ts (k * 2))).length ≤ 3) = false from decide_eq_false (by omega)]; simp; done) | (rw [show decide (ix ts (k * 2 + 1) % 2 ^ ((setL (ix ts (k * 2))).length - 1) = 0) = false from decide_eq_false (by first | (rw [← hT4]; assumption) | assumption | omega)]; simp)
                        have hbad : psOk I V R F ts nt os no = false := by rw [psOk, hPW0, anyI_true hltk hb1]; simp
                        refine Run.region ?_
                        refine Run.q (v := .bool false) rfl (OpQ.y (OpY.pure rfl)) ?_
                        refine Run.done ?_
                        refine Run.ret ?_
                        refine ⟨.bool false, [], Out.one rfl rfl, (Some'.weak (.nil _)), ?_⟩
                        show _ = _
                        rw [hbad]
                      · refine DW.take (i := 2) (v := .bool false) rfl (by kernel_rfl) (by kernel_rfl) (by kernel_rfl) (fun _ _ _ h => h) (Weak.refl _) rfl (OpY.moveB rfl h91) ?_
                        have p91 := h91; try simp only [bs] at p91
                        have hS1 := set_pos hM.1 (by omega)
                        have hT4 : ix [1, 1, 2, 4] ((setL (ix ts (k * 2))).length) = 2 ^ ((setL (ix ts (k * 2))).length - 1) := (pow3 hS1 (by omega)).symm
                        have hT0 : 0 < ix [1, 1, 2, 4] ((setL (ix ts (k * 2))).length) := by rw [hT4]; exact (pow_le24 (by omega)).1
                        refine DW.take (i := 3) (v := .pointer (some ⟨b2, 1, none⟩)) rfl (by kernel_rfl) (by kernel_rfl) (by kernel_rfl) (fun _ _ _ h => h) (Weak.refl _) rfl (OpY.fieldAddr Tfo_51_1 rfl rfl) ?_
                        refine DW.take (i := 4) (v := .int .i64 (ix ts (k * 2 + 1))) rfl (by kernel_rfl) (by kernel_rfl) (by kernel_rfl) (fun _ _ _ h => h) (Weak.refl _) rfl (OpY.load1 Tone_3 rfl (Cells.blk (.tail _ (List.Mem.head _)) ⟨rfl, trivial⟩)) ?_
                        refine DW.take (i := 6) (v := .int .i64 ((((setL (ix ts (k * 2))).length : Nat) : Int))) rfl (by kernel_rfl) (by kernel_rfl) (by kernel_rfl) (fun _ _ _ h => h) (Weak.refl _) rfl (OpY.pure rfl) ?_
                        refine DW.step (i := 5) (by kernel_rfl) rfl rfl (OpStep.buildSlice (us := [.int .i64 1, .int .i64 1, .int .i64 2, .int .i64 4]) Tsl_83 (by decide) (by decide) ⟨rfl, [.int .i64 1], _, rfl, rfl, rfl, ⟨rfl, [.int .i64 1], _, rfl, rfl, rfl, ⟨rfl, [.int .i64 2], _, rfl, rfl, rfl, ⟨rfl, [.int .i64 4], _, rfl, rfl, rfl, rfl⟩⟩⟩⟩ rfl fun b4 => ?_)
                        refine ⟨(Some'.weak (.skip (.take (.take (.take (.nil _)))))), ?_⟩
                        refine DW.take (i := 7) (v := .pointer (some ⟨b4, (setL (ix ts (k * 2))).length, none⟩)) rfl (by kernel_rfl) (by kernel_rfl) (by kernel_rfl) (fun _ _ _ h => h) (Some'.weak (.skip (.take (.take (.take (.nil _)))))) rfl (OpY.index (kk := (setL (ix ts (k * 2))).length) Tsl_83 rfl rfl (by omega) (by omega) (by omega)) ?_
                        refine DW.step (i := 8) (by kernel_rfl) rfl rfl (OpStep.q (v := .int .i64 (ix [1, 1, 2, 4] ((setL (ix ts (k * 2))).length))) (OpQ.y (OpY.load1 Tone_3 rfl (Cells.own0 (cs := ints [1, 1, 2, 4]) (.head _) (pre1 (by simp only [List.length_cons, List.length_nil]; omega))))) ?_)
                        refine ⟨(Some'.weak (.skip (.take (.take (.take (.nil _)))))), ?_⟩
                        refine DW.take (i := 9) (v := .int .i64 (ix ts (k * 2 + 1) % (ix [1, 1, 2, 4] ((setL (ix ts (k * 2))).length)))) rfl (by kernel_rfl) (by kernel_rfl) (by kernel_rfl) (fun _ _ _ h => h) (Some'.weak (.skip (.take (.take (.take (.nil _)))))) rfl (OpY.rem rfl rfl (by omega) (by omega)) ?_
                        refine DW.take (i := 10) (v := .bool ((ix ts (k * 2 + 1) % (ix [1, 1, 2, 4] ((setL (ix ts (k * 2))).length))) != 0)) rfl (by kernel_rfl) (by kernel_rfl) (by kernel_rfl) (fun _ _ _ h => h) (Some'.weak (.skip (.take (.take (.take (.nil _)))))) rfl (OpY.pure rfl) ?_
                        refine DW.take (i := 11) (v := .bool ((ix ts (k * 2 + 1) % (ix [1, 1, 2, 4] ((setL (ix ts (k * 2))).length))) != 0)) rfl (by kernel_rfl) (by kernel_rfl) (by kernel_rfl) (fun _ _ _ h => h) (Some'.weak (.skip (.take (.take (.take (.nil _)))))) rfl (OpY.pure rfl) ?_
                        refine DW.done (by kernel_rfl) ?_
                        refine Run.cond (b := (ix ts (k * 2 + 1) % (ix [1, 1, 2, 4] ((setL (ix ts (k * 2))).length))) != 0) rfl (fun h100 => ?_) (fun h100 => ?_)
                        · have p100 := h100; try simp only [bs] at p100
                          refine Run.seq ?_
                          have hb1 : (!termOk PW ts k) = true := by
                            unfold termOk
                            first | (rw [p63]; rfl) | (rw [p69]; simp; done) | (rw [show decide (0 < k → ix ts ((k - 1) * 2) < ix ts (k * 2)) = false from decide_eq_false (fun h => by have := h (by omega); omega)]; simp; done) | (rw [show decide ((setL (ix ts (k * 2))).length ≤ 3) = false from decide_eq_false (by omega)]; simp; done) | (rw [show decide (ix ts (k * 2 + 1) % 2 ^ ((setL (ix ts (k * 2))).length - 1) = 0) = false from decide_eq_false (by first | (rw [← hT4]; assumption) | assumption | omega)]; simp)
                          have hbad : psOk I V R F ts nt os no = false := by rw [psOk, hPW0, anyI_true hltk hb1]; simp
                          refine Run.region ?_
                          refine Run.q (v := .bool false) rfl (OpQ.y (OpY.pure rfl)) ?_
                          refine Run.done ?_
                          refine Run.ret ?_
                          refine ⟨.bool false, [], Out.one rfl rfl, (Some'.weak (.nil _)), ?_⟩
                          show _ = _
                          rw [hbad]
                        · have p100 := h100; try simp only [bs] at p100
                          refine Run.skip ?_
                          refine Run.blockEnd ?_
                          have hgood : (!termOk PW ts k) = false := by
                            unfold termOk
                            rw [p63, p69, show decide (0 < k → ix ts ((k - 1) * 2) < ix ts (k * 2)) = true from decide_eq_true (fun h => by omega), show decide ((setL (ix ts (k * 2))).length ≤ 3) = true from decide_eq_true (by omega), show decide (ix ts (k * 2 + 1) % 2 ^ ((setL (ix ts (k * 2))).length - 1) = 0) = true from decide_eq_true (by first | (rw [← hT4]; assumption) | assumption)]; rfl
                          refine Run.region ?_
                          refine Run.q (v := .int .i64 ((((k : Nat) : Int)) + 1)) rfl (OpQ.y (OpY.add rfl rfl rfl (by omega) (by omega))) ?_
                          refine Run.q (v := .int .i64 ((((k : Nat) : Int)) + 1)) rfl (OpQ.y (OpY.pure rfl)) ?_
                          refine Run.done ?_
                          refine Run.goal ⟨(by repeat (first | exact Same.refl _ _ | refine Same.put rfl ?_ | refine Same.over rfl rfl ?_)), k + 1, ?_, ?_, ?_, ?_⟩
                          · refine ⟨by omega, ?_⟩
                            intro i hi
                            rcases Nat.lt_succ_iff_lt_or_eq.1 hi with h | h
                            · exact hinv.2 i h
                            · rw [h]; exact hgood
                          · omega
                          · exact ⟨(by first | rfl | (congr 1; omega) | simp), trivial⟩
                          · exact (Some'.weak (.skip (.skip (.skip (.takeEq (by first | rfl | simp) (.nil _))))))
              · have p51 := h51; try simp only [bs] at p51
                have hknk : k = nt := by omega
                have hT : anyI (fun i => !termOk PW ts i) nt = false := by rw [← hknk]; exact anyI_false hinv.2
                refine Run.exit rfl ?_
                refine Run.seq ?_
                refine Run.seq ?_
                refine Run.region ?_
                refine Run.q (v := .pointer (some ⟨b1, 5, none⟩)) rfl (OpQ.y (OpY.fieldAddr Tfo_35_5 rfl rfl)) ?_
                refine Run.q (v := .slice Ao no co) rfl (OpQ.y (OpY.load1 Tone_33 rfl (Cells.blk (.head _) ⟨rfl, trivial⟩))) ?_
                refine Run.q (v := .int .i64 (((no : Nat) : Int))) rfl (OpQ.y (OpY.len Tsl_33 rfl)) ?_
                refine Run.q (v := .int .i64 0) rfl (OpQ.y (OpY.pure rfl)) ?_
                refine Run.done ?_
                refine Run.block ?_
                refine Run.loop (ι := Nat) [2, 8, 105, 106, 107, 108, 109, 110, 111, 112, 113, 114, 115, 116, 117, 118, 119, 120, 121, 122, 123] (fun j => [(105, .int .i64 (((j : Nat) : Int)))]) (fun j => [.blk b1 35 [.int .i64 I, .int .i64 V, .int .i64 R, .int .i64 F, .slice At nt ct, .slice Ao no co]]) (fun j => j ≤ no ∧ (∀ i, i < j → (!affOk PW os i) = false)) (fun j => no - j) 0 ?_ ?_ ?_ ?_
                · exact ⟨Nat.zero_le _, by first | trivial | (intro i hi; omega)⟩
                · exact ⟨rfl, trivial⟩
                · exact (Some'.weak (.take (.nil _)))
                · rintro j fr hinv
                  show Run _ _ (over _ _ [(105, .int .i64 (((j : Nat) : Int)))] fr) [.blk b1 35 [.int .i64 I, .int .i64 V, .int .i64 R, .int .i64 F, .slice At nt ct, .slice Ao no co]]
                  try dsimp only at hinv
                  refine Run.seq ?_
                  refine Run.region ?_
                  refine Run.q (v := .bool (decide ((((j : Nat) : Int)) < (((no : Nat) : Int))))) rfl (OpQ.y (OpY.pure rfl)) ?_
                  refine Run.done ?_
                  refine Run.seq ?_
                  refine Run.cond (b := decide ((((j : Nat) : Int)) < (((no : Nat) : Int)))) rfl (fun h106 => ?_) (fun h106 => ?_)
                  · have p106 := h106; try simp only [bs] at p106
                    have hltj : j < no := by omega
                    obtain ⟨bo, oo, rfl⟩ := ho.opn (by omega)
                    refine Run.skip ?_
                    refine Run.seq ?_
                    refine Run.block ?_
                    refine Run.seq ?_
                    refine Run.region ?_
                    refine Run.q (v := .pointer (some ⟨bo, oo + j * 2, none⟩)) rfl (OpQ.y (OpY.index (kk := j) Tsl_33 rfl rfl (by omega) (by omega) (by omega))) ?_
                    refine Run.q (v := .agg #[.int .i64 (ix os (j * 2)), .int .i64 (ix os (j * 2 + 1))]) rfl (OpQ.y (OpY.loadN (cs := [.int .i64 (ix os (j * 2)), .int .i64 (ix os (j * 2 + 1))]) Tagg_54 rfl (Cells.arg (k := j * 2) ho rfl (by omega) (pre2 (by omega))))) ?_
                    refine Run.step rfl (OpStep.alloc (zs := [.int .i64 0, .int .i64 0]) Tzero_54 fun b5 => ?_)
                    refine Run.step rfl (OpStep.storeAll (us := [.int .i64 (ix os (j * 2)), .int .i64 (ix os (j * 2 + 1))]) Tsize_54 rfl rfl rfl (.here _) rfl ?_)
                    refine Run.done ?_
                    refine Run.seq ?_
                    refine Run.region ?_
                    refine Run.q (v := .pointer (some ⟨b5, 0, none⟩)) rfl (OpQ.y (OpY.fieldAddr Tfo_54_0 rfl rfl)) ?_
                    refine Run.q (v := .int .i64 (ix os (j * 2))) rfl (OpQ.y (OpY.load1 Tone_3 rfl (Cells.blk (.head _) ⟨rfl, trivial⟩))) ?_
                    refine Run.q (v := .int .i64 NN) rfl (OpQ.y (OpY.pure rfl)) ?_
                    refine Run.q (v := .int .u64 NN) rfl (OpQ.y (OpY.convIntEq Tsome_3 Tint_48 rfl (by rw [IntKind.wrap_u64]; omega))) ?_
                    refine Run.q (v := .int .i64 PW) rfl (OpQ.y (OpY.shl (n := NN.toNat) rfl rfl (by omega) (by omega) hPW (by omega) (by omega))) ?_
                    refine Run.q (v := .int .i64 (PW - 1)) rfl (OpQ.y (OpY.sub rfl rfl rfl (by omega) (by omega))) ?_
                    refine Run.q (v := .bool (within (ix os (j * 2)) 0 (PW - 1))) rfl (OpQ.call (vs := [.int .i64 (ix os (j * 2)), .int .i64 0, .int .i64 (PW - 1)]) (caps := []) Tcall_39 rfl rfl (fun w hs => l1In_spec _ _ _ w)) ?_
                    refine Run.q (v := .bool (!(within (ix os (j * 2)) 0 (PW - 1)))) rfl (OpQ.y (OpY.pure rfl)) ?_
                    rcases Bool.eq_false_or_eq_true (!(within (ix os (j * 2)) 0 (PW - 1))) with h117 | h117
                    · refine Run.q (v := .bool true) rfl (OpQ.y (OpY.moveB rfl h117)) ?_
                      have p117 := h117; try simp only [bs] at p117
                      refine Run.pass rfl ?_
                      refine Run.pass rfl ?_
                      refine Run.pass rfl ?_
                      refine Run.pass rfl ?_
                      refine Run.q (v := .bool true) rfl (OpQ.y (OpY.pure rfl)) ?_
                      refine Run.done ?_
                      refine Run.cond (b := true) rfl (fun _ => ?_) (fun h => nomatch h)
                      refine Run.seq ?_
                      have hb2 : (!affOk PW os j) = true := by
                        unfold affOk
                        first | (rw [p117]; rfl) | (rw [p122]; simp; done)
                      have hbad : psOk I V R F ts nt os no = false := by rw [psOk, hPW0, anyI_true hltj hb2]; simp
                      refine Run.region ?_
                      refine Run.q (v := .bool false) rfl (OpQ.y (OpY.pure rfl)) ?_
                      refine Run.done ?_
                      refine Run.ret ?_
                      refine ⟨.bool false, [], Out.one rfl rfl, (Some'.weak (.nil _)), ?_⟩
                      show _ = _
                      rw [hbad]
                    · refine Run.q (v := .bool false) rfl (OpQ.y (OpY.moveB rfl h117)) ?_
                      have p117 := h117; try simp only [bs] at p117
                      refine Run.q (v := .pointer (some ⟨b5, 1, none⟩)) rfl (OpQ.y (OpY.fieldAddr Tfo_54_1 rfl rfl)) ?_
                      refine Run.q (v := .int .i64 (ix os (j * 2 + 1))) rfl (OpQ.y (OpY.load1 Tone_3 rfl (Cells.blk (.head _) ⟨rfl, trivial⟩))) ?_
                      refine Run.q (v := .bool (within (ix os (j * 2 + 1)) 0 1)) rfl (OpQ.call (vs := [.int .i64 (ix os (j * 2 + 1)), .int .i64 0, .int .i64 1]) (caps := []) Tcall_39 rfl rfl (fun w hs => l1In_spec _ _ _ w)) ?_
                      refine Run.q (v := .bool (!(within (ix os (j * 2 + 1)) 0 1))) rfl (OpQ.y (OpY.pure rfl)) ?_
                      refine Run.q (v := .bool (!(within (ix os (j * 2 + 1)) 0 1))) rfl (OpQ.y (OpY.pure rfl)) ?_
                      refine Run.done ?_
                      refine Run.cond (b := !(within (ix os (j * 2 + 1)) 0 1)) rfl (fun h122 => ?_) (fun h122 => ?_)
                      · have p122 := h122; try simp only [bs] at p122
                        refine Run.seq ?_
                        have hb2 : (!affOk PW os j) = true := by
                          unfold affOk
                          first | (rw [p117]; rfl) | (rw [p122]; simp; done)
                        have hbad : psOk I V R F ts nt os no = false := by rw [psOk, hPW0, anyI_true hltj hb2]; simp
                        refine Run.region ?_
                        refine Run.q (v := .bool false) rfl (OpQ.y (OpY.pure rfl)) ?_
                        refine Run.done ?_
                        refine Run.ret ?_
                        refine ⟨.bool false, [], Out.one rfl rfl, (Some'.weak (.nil _)), ?_⟩
                        show _ = _
                        rw [hbad]
                      · have p122 := h122; try simp only [bs] at p122
                        refine Run.skip ?_
                        refine Run.blockEnd ?_
                        have hgood2 : (!affOk PW os j) = false := by
                          unfold affOk
                          rw [p117, p122]; rfl
                        refine Run.region ?_
                        refine Run.q (v := .int .i64 ((((j : Nat) : Int)) + 1)) rfl (OpQ.y (OpY.add rfl rfl rfl (by omega) (by omega))) ?_
                        refine Run.q (v := .int .i64 ((((j : Nat) : Int)) + 1)) rfl (OpQ.y (OpY.pure rfl)) ?_
                        refine Run.done ?_
                        refine Run.goal ⟨(by repeat (first | exact Same.refl _ _ | refine Same.put rfl ?_ | refine Same.over rfl rfl ?_)), j + 1, ?_, ?_, ?_, ?_⟩
                        · refine ⟨by omega, ?_⟩
                          intro i hi
                          rcases Nat.lt_succ_iff_lt_or_eq.1 hi with h | h
                          · exact hinv.2 i h
                          · rw [h]; exact hgood2
                        · omega
                        · exact ⟨(by first | rfl | (congr 1; omega) | simp), trivial⟩
                        · exact (Some'.weak (.skip (.takeEq (by first | rfl | simp) (.nil _))))
                  · have p106 := h106; try simp only [bs] at p106
                    have hknj : j = no := by omega
                    have hO : anyI (fun i => !affOk PW os i) no = false := by rw [← hknj]; exact anyI_false hinv.2
                    refine Run.exit rfl ?_
                    refine Run.seq ?_
                    refine Run.region ?_
                    refine Run.q (v := .bool true) rfl (OpQ.y (OpY.pure rfl)) ?_
                    refine Run.done ?_
                    refine Run.ret ?_
                    refine ⟨.bool true, [], Out.one rfl rfl, (Some'.weak (.nil _)), ?_⟩
                    show _ = _
                    rw [psOk, hPW0, hh, hT, hO]; rfl

set_option maxHeartbeats 1000000 in
set_option maxRecDepth 20000 in
theorem isAffine_spec {m t NN PW : Int} {w : World} (hNN : 0 ≤ NN ∧ NN ≤ 24) (hPW : PWof NN PW) : Calls Try.prog 51 #[.agg #[.int .i64 m, .int .i64 t], .int .i64 NN] w (Post No w fun v _ => v = .bool (within m 0 (PW - 1) && within t 0 1)) := by
  have hpw := pow_le24 (n := NN.toNat) (by omega)
  unfold PWof at hPW
  rw [Int.one_mul] at hPW
  rw [hPW] at hpw
  refine enter (n := 16) (args := [.agg #[.int .i64 m, .int .i64 t], .int .i64 NN]) Try.func51 rfl rfl (St.empty _ _) ?_
  refine Run.seq ?_
  refine Run.region ?_
  refine Run.step rfl (OpStep.box (us := [.int .i64 m, .int .i64 t]) rfl fun b1 => ?_)
  refine Run.q (v := .bool false) rfl (OpQ.y (OpY.pure rfl)) ?_
  refine Run.done ?_
  refine Run.seq ?_
  refine Run.draws (by kernel_rfl) (by kernel_rfl) ?_
  refine Lex.q (v := .pointer (some ⟨b1, 0, none⟩)) rfl (OpQ.y (OpY.fieldAddr Tfo_54_0 rfl rfl)) ?_
  refine Lex.q (v := .int .i64 m) rfl (OpQ.y (OpY.load1 Tone_3 rfl (Cells.blk (.head _) ⟨rfl, trivial⟩))) ?_
  refine Lex.q (v := .int .i64 NN) rfl (OpQ.y (OpY.pure rfl)) ?_
  refine Lex.q (v := .int .i64 PW) rfl (OpQ.y (OpY.shl (n := NN.toNat) rfl rfl (by omega) (by omega) (by rw [Int.one_mul]; exact hPW) (by omega) (by omega))) ?_
  refine Lex.q (v := .int .i64 (PW - 1)) rfl (OpQ.y (OpY.sub rfl rfl rfl (by omega) (by omega))) ?_
  refine Lex.q (v := .bool (within m 0 (PW - 1))) rfl (OpQ.call (vs := [.int .i64 m, .int .i64 0, .int .i64 (PW - 1)]) (caps := []) Tcall_47 rfl rfl (fun w hs => within_spec _ _ _ w)) ?_
  rcases Bool.eq_false_or_eq_true (within m 0 (PW - 1)) with h11 | h11
  · refine Lex.q (v := .bool true) rfl (OpQ.y (OpY.moveB rfl h11)) ?_
    have p11 := h11; try simp only [bs] at p11
    refine Lex.q (v := .pointer (some ⟨b1, 1, none⟩)) rfl (OpQ.y (OpY.fieldAddr Tfo_54_1 rfl rfl)) ?_
    refine Lex.q (v := .int .i64 t) rfl (OpQ.y (OpY.load1 Tone_3 rfl (Cells.blk (.head _) ⟨rfl, trivial⟩))) ?_
    refine Lex.q (v := .bool (within t 0 1)) rfl (OpQ.call (vs := [.int .i64 t, .int .i64 0, .int .i64 1]) (caps := []) Tcall_47 rfl rfl (fun w hs => within_spec _ _ _ w)) ?_
    refine Lex.q (v := .bool (within t 0 1)) rfl (OpQ.y (OpY.pure rfl)) ?_
    refine Lex.q (v := .bool (within t 0 1)) rfl (OpQ.y (OpY.pure rfl)) ?_
    refine Lex.done ?_
    refine Run.ret ?_
    refine ⟨.bool (within t 0 1), [], Out.one rfl rfl, (Some'.weak (.nil _)), ?_⟩
    show _ = _; simp_all
  · refine Lex.q (v := .bool false) rfl (OpQ.y (OpY.moveB rfl h11)) ?_
    have p11 := h11; try simp only [bs] at p11
    refine Lex.pass rfl ?_
    refine Lex.pass rfl ?_
    refine Lex.pass rfl ?_
    refine Lex.q (v := .bool false) rfl (OpQ.y (OpY.pure rfl)) ?_
    refine Lex.q (v := .bool false) rfl (OpQ.y (OpY.pure rfl)) ?_
    refine Lex.done ?_
    refine Run.ret ?_
    refine ⟨.bool false, [], Out.one rfl rfl, (Some'.weak (.nil _)), ?_⟩
    show _ = _; simp_all

set_option maxHeartbeats 1000000 in
set_option maxRecDepth 20000 in
theorem psClosure_spec {NN PW m t : Int} {p : Nat} {w : World} (hc : Sl w (.slice (some ⟨p, 0, none⟩) 1 1) 1 1 [.int .i64 NN]) (hNN : 0 ≤ NN ∧ NN ≤ 24) (hPW : PWof NN PW) : Calls Try.prog 50 #[.agg #[.int .i64 m, .int .i64 t], .pointer (some ⟨p, 0, none⟩)] w (Post No w fun v _ => v = .bool (!(within m 0 (PW - 1) && within t 0 1))) := by
  refine enter (n := 8) (args := [.agg #[.int .i64 m, .int .i64 t], .pointer (some ⟨p, 0, none⟩)]) Try.func50 rfl rfl (St.empty _ _) ?_
  refine Run.seq ?_
  refine Run.region ?_
  refine Run.step rfl (OpStep.box (us := [.int .i64 m, .int .i64 t]) rfl fun b1 => ?_)
  refine Run.q (v := .bool false) rfl (OpQ.y (OpY.pure rfl)) ?_
  refine Run.done ?_
  refine Run.seq ?_
  refine Run.region ?_
  refine Run.q (v := .agg #[.int .i64 m, .int .i64 t]) rfl (OpQ.y (OpY.loadN (cs := [.int .i64 m, .int .i64 t]) Tagg_54 rfl (Cells.blk (.head _) ⟨rfl, rfl, trivial⟩))) ?_
  refine Run.q (v := .int .i64 NN) rfl (OpQ.y (OpY.load1 Tone_3 rfl (Cells.env (k := 0) hc rfl (by decide) ⟨rfl, trivial⟩))) ?_
  refine Run.q (v := .bool (within m 0 (PW - 1) && within t 0 1)) rfl (OpQ.call (vs := [.agg #[.int .i64 m, .int .i64 t], .int .i64 NN]) (caps := []) Tcall_51 rfl rfl (fun w hs => isAffine_spec hNN hPW)) ?_
  refine Run.q (v := .bool (!(within m 0 (PW - 1) && within t 0 1))) rfl (OpQ.y (OpY.pure rfl)) ?_
  refine Run.q (v := .bool (!(within m 0 (PW - 1) && within t 0 1))) rfl (OpQ.y (OpY.pure rfl)) ?_
  refine Run.done ?_
  refine Run.ret ?_
  refine ⟨.bool (!(within m 0 (PW - 1) && within t 0 1)), [], Out.one rfl rfl, (Some'.weak (.nil _)), ?_⟩
  rfl

set_option maxHeartbeats 1000000 in
set_option maxRecDepth 20000 in
theorem IndexFuncAff_spec {NN PW : Int} {p : Nat} {va : Value} {n : Nat} {xs : List Int} {w : World} (ha : Sl w va 2 n (ints xs)) (hc : Sl w (.slice (some ⟨p, 0, none⟩) 1 1) 1 1 [.int .i64 NN]) (hNN : 0 ≤ NN ∧ NN ≤ 24) (hPW : PWof NN PW) : Calls Try.prog 63 #[va, .func (.func 50) #[] #[.pointer (some ⟨p, 0, none⟩)]] w (Post No w fun v _ => v = .int .i64 (findI (fun i => !affOk PW xs i) n)) := by
  have hxl := ha.len
  have hn := ha.le
  obtain ⟨A, c, rfl, _, _⟩ := ha.form0
  refine enter (n := 19) (args := [.slice A n c, .func (.func 50) #[] #[.pointer (some ⟨p, 0, none⟩)]]) Try.func63 rfl rfl (St.empty _ _) ?_
  refine Run.seq ?_
  refine Run.region ?_
  refine Run.q (v := .int .i64 0) rfl (OpQ.y (OpY.pure rfl)) ?_
  refine Run.done ?_
  refine Run.seq ?_
  refine Run.seq ?_
  refine Run.region ?_
  refine Run.q (v := .slice A n c) rfl (OpQ.y (OpY.pure rfl)) ?_
  refine Run.q (v := .int .i64 (((n : Nat) : Int))) rfl (OpQ.y (OpY.len Tsl_33 rfl)) ?_
  refine Run.q (v := .int .i64 0) rfl (OpQ.y (OpY.pure rfl)) ?_
  refine Run.done ?_
  refine Run.block ?_
  refine Run.loop (ι := Nat) [4, 5, 8, 9, 10, 11, 12, 13, 14, 15, 16, 17, 18] (fun k => [(8, .int .i64 (((k : Nat) : Int)))]) (fun k => []) (fun k => k ≤ n ∧ (∀ i, i < k → (!affOk PW xs i) = false)) (fun k => n - k) 0 ?_ ?_ ?_ ?_
  · exact ⟨Nat.zero_le _, by first | trivial | (intro i hi; omega)⟩
  · exact ⟨rfl, trivial⟩
  · exact (Some'.weak (.nil _))
  · rintro k fr hinv
    show Run _ _ (over _ _ [(8, .int .i64 (((k : Nat) : Int)))] fr) []
    try dsimp only at hinv
    refine Run.seq ?_
    refine Run.region ?_
    refine Run.q (v := .bool (decide ((((k : Nat) : Int)) < (((n : Nat) : Int))))) rfl (OpQ.y (OpY.pure rfl)) ?_
    refine Run.done ?_
    refine Run.seq ?_
    refine Run.cond (b := decide ((((k : Nat) : Int)) < (((n : Nat) : Int)))) rfl (fun h9 => ?_) (fun h9 => ?_)
    · have p9 := h9; try simp only [bs] at p9
      have hltk : k < n := by omega
      obtain ⟨b, o, rfl⟩ := ha.opn (by omega)
      refine Run.skip ?_
      refine Run.seq ?_
      refine Run.block ?_
      refine Run.seq ?_
      refine Run.region ?_
      refine Run.q (v := .int .i64 (((k : Nat) : Int))) rfl (OpQ.y (OpY.pure rfl)) ?_
      refine Run.q (v := .int .i64 (((k : Nat) : Int))) rfl (OpQ.y (OpY.pure rfl)) ?_
      refine Run.done ?_
      refine Run.seq ?_
      refine Run.region ?_
      refine Run.q (v := .func (.func 50) #[] #[.pointer (some ⟨p, 0, none⟩)]) rfl (OpQ.y (OpY.pure rfl)) ?_
      refine Run.q (v := .slice (some ⟨b, o, none⟩) n c) rfl (OpQ.y (OpY.pure rfl)) ?_
      refine Run.q (v := .int .i64 (((k : Nat) : Int))) rfl (OpQ.y (OpY.pure rfl)) ?_
      refine Run.q (v := .pointer (some ⟨b, o + k * 2, none⟩)) rfl (OpQ.y (OpY.index (kk := k) Tsl_33 rfl rfl (by omega) (by omega) (by first | rfl | omega))) ?_
      refine Run.q (v := .agg #[.int .i64 (ix xs (k * 2)), .int .i64 (ix xs (k * 2 + 1))]) rfl (OpQ.y (OpY.loadN (cs := [.int .i64 (ix xs (k * 2)), .int .i64 (ix xs (k * 2 + 1))]) Tagg_54 rfl (Cells.arg (k := k * 2) ha rfl (by omega) (pre2 (by omega))))) ?_
      refine Run.q (v := .bool (!affOk PW xs k)) rfl (OpQ.call (vs := [.agg #[.int .i64 (ix xs (k * 2)), .int .i64 (ix xs (k * 2 + 1))], .pointer (some ⟨p, 0, none⟩)]) (caps := [.pointer (some ⟨p, 0, none⟩)]) Tcall_50 rfl rfl (fun w hs => psClosure_spec (hs.sl hc) hNN hPW)) ?_
      refine Run.done ?_
      refine Run.cond (b := !affOk PW xs k) rfl (fun h16 => ?_) (fun h16 => ?_)
      · have p16 := h16; try simp only [bs] at p16
        refine Run.seq ?_
        have hres : findI (fun i => !affOk PW xs i) n = k := findI_hit hinv.2 h16 hltk
        refine Run.region ?_
        refine Run.q (v := .int .i64 (((k : Nat) : Int))) rfl (OpQ.y (OpY.pure rfl)) ?_
        refine Run.q (v := .int .i64 (((k : Nat) : Int))) rfl (OpQ.y (OpY.pure rfl)) ?_
        refine Run.done ?_
        refine Run.ret ?_
        refine ⟨.int .i64 (((k : Nat) : Int)), [], Out.one rfl rfl, (Some'.weak (.nil _)), ?_⟩
        show _ = _; rw [hres]
      · have p16 := h16; try simp only [bs] at p16
        refine Run.skip ?_
        refine Run.blockEnd ?_
        have hgood : (!affOk PW xs k) = false := h16
        refine Run.region ?_
        refine Run.q (v := .int .i64 ((((k : Nat) : Int)) + 1)) rfl (OpQ.y (OpY.add rfl rfl rfl (by omega) (by omega))) ?_
        refine Run.q (v := .int .i64 ((((k : Nat) : Int)) + 1)) rfl (OpQ.y (OpY.pure rfl)) ?_
        refine Run.done ?_
        refine Run.goal ⟨(by repeat (first | exact Same.refl _ _ | refine Same.put rfl ?_ | refine Same.over rfl rfl ?_)), k + 1, ?_, ?_, ?_, ?_⟩
        · refine ⟨by omega, ?_⟩
          intro i hi
          rcases Nat.lt_succ_iff_lt_or_eq.1 hi with h | h
          · exact hinv.2 i h
          · rw [h]; exact hgood
        · omega
        · exact ⟨(by first | rfl | (congr 1; omega) | simp), trivial⟩
        · exact (Some'.weak (.nil _))
    · have p9 := h9; try simp only [bs] at p9
      have hknk : k = n := by omega
      have hres : findI (fun i => !affOk PW xs i) n = -1 := by rw [← hknk]; exact findI_none hinv.2
      refine Run.exit rfl ?_
      refine Run.seq ?_
      refine Run.region ?_
      refine Run.q (v := .int .i64 (-1)) rfl (OpQ.y (OpY.pure rfl)) ?_
      refine Run.done ?_
      refine Run.ret ?_
      refine ⟨.int .i64 (-1), [], Out.one rfl rfl, (Some'.weak (.nil _)), ?_⟩
      show _ = _; rw [hres]

set_option maxHeartbeats 1000000 in
set_option maxRecDepth 20000 in
theorem ContainsFuncAff_spec {NN PW : Int} {p : Nat} {va : Value} {n : Nat} {xs : List Int} {w : World} (ha : Sl w va 2 n (ints xs)) (hc : Sl w (.slice (some ⟨p, 0, none⟩) 1 1) 1 1 [.int .i64 NN]) (hNN : 0 ≤ NN ∧ NN ≤ 24) (hPW : PWof NN PW) : Calls Try.prog 49 #[va, .func (.func 50) #[] #[.pointer (some ⟨p, 0, none⟩)]] w (Post No w fun v _ => v = .bool (anyI (fun i => !affOk PW xs i) n)) := by
  refine enter (n := 9) (args := [va, .func (.func 50) #[] #[.pointer (some ⟨p, 0, none⟩)]]) Try.func49 rfl rfl (St.empty _ _) ?_
  refine Run.seq ?_
  refine Run.region ?_
  refine Run.q (v := .bool false) rfl (OpQ.y (OpY.pure rfl)) ?_
  refine Run.done ?_
  refine Run.seq ?_
  refine Run.region ?_
  refine Run.q (v := va) rfl (OpQ.y (OpY.pure rfl)) ?_
  refine Run.q (v := .func (.func 50) #[] #[.pointer (some ⟨p, 0, none⟩)]) rfl (OpQ.y (OpY.pure rfl)) ?_
  refine Run.q (v := .int .i64 (findI (fun i => !affOk PW xs i) n)) rfl (OpQ.call (vs := [va, .func (.func 50) #[] #[.pointer (some ⟨p, 0, none⟩)]]) (caps := []) Tcall_63 rfl rfl (fun w hs => IndexFuncAff_spec (hs.sl ha) (hs.sl hc) hNN hPW)) ?_
  refine Run.q (v := .bool (decide ((findI (fun i => !affOk PW xs i) n) ≥ 0))) rfl (OpQ.y (OpY.pure rfl)) ?_
  refine Run.q (v := .bool (decide ((findI (fun i => !affOk PW xs i) n) ≥ 0))) rfl (OpQ.y (OpY.pure rfl)) ?_
  refine Run.done ?_
  refine Run.ret ?_
  refine ⟨.bool (decide ((findI (fun i => !affOk PW xs i) n) ≥ 0)), [], Out.one rfl rfl, (Some'.weak (.nil _)), ?_⟩
  show _ = _; rw [findI_ge]

set_option maxHeartbeats 1500000 in
set_option maxRecDepth 20000 in
theorem IsValidPathSum_spec {I V R F : Int} {vt vo : Value} {nt no : Nat} {ts os : List Int} {w : World} (ht : Sl w vt 2 nt (ints ts)) (ho : Sl w vo 2 no (ints os)) : Calls Try.prog 26 #[.agg #[.int .i64 I, .int .i64 V, .int .i64 R, .int .i64 F, vt, vo]] w (Post No w fun v _ => v = .bool (psOk I V R F ts nt os no)) := by
  have htl := ht.len
  have hnt := ht.le
  obtain ⟨At, ct, rfl, _, _⟩ := ht.form0
  have hol := ho.len
  have hno := ho.le
  obtain ⟨Ao, co, rfl, _, _⟩ := ho.form0
  obtain ⟨NN, hNN⟩ : ∃ NN : Int, NN = I + V := ⟨_, rfl⟩
  obtain ⟨PW, hPW0⟩ : ∃ PW : Int, (2 : Int) ^ (I + V).toNat = PW := ⟨_, rfl⟩
  refine enter (n := 104) (args := [.agg #[.int .i64 I, .int .i64 V, .int .i64 R, .int .i64 F, .slice At nt ct, .slice Ao no co]]) Try.func26 rfl rfl (St.empty _ _) ?_
  refine Run.seq ?_
  refine Run.region ?_
  refine Run.step rfl (OpStep.box (us := [.int .i64 I, .int .i64 V, .int .i64 R, .int .i64 F, .slice At nt ct, .slice Ao no co]) rfl fun b1 => ?_)
  refine Run.q (v := .bool false) rfl (OpQ.y (OpY.pure rfl)) ?_
  refine Run.done ?_
  refine Run.seq ?_
  refine Run.seq ?_
  refine Run.region ?_
  refine Run.q (v := .pointer (some ⟨b1, 0, none⟩)) rfl (OpQ.y (OpY.fieldAddr Tfo_35_0 rfl rfl)) ?_
  refine Run.q (v := .int .i64 I) rfl (OpQ.y (OpY.load1 Tone_3 rfl (Cells.blk (.head _) ⟨rfl, trivial⟩))) ?_
  refine Run.q (v := .bool (within I 1 5)) rfl (OpQ.call (vs := [.int .i64 I, .int .i64 1, .int .i64 5]) (caps := []) Tcall_47 rfl rfl (fun w hs => within_spec _ _ _ w)) ?_
  refine Run.q (v := .bool (!(within I 1 5))) rfl (OpQ.y (OpY.pure rfl)) ?_
  rcases Bool.eq_false_or_eq_true (!(within I 1 5)) with h11 | h11
  · refine Run.q (v := .bool true) rfl (OpQ.y (OpY.moveB rfl h11)) ?_
    have p11 := h11; try simp only [bs] at p11
    refine Run.pass rfl ?_
    refine Run.pass rfl ?_
    refine Run.pass rfl ?_
    refine Run.pass rfl ?_
    refine Run.pass rfl ?_
    refine Run.pass rfl ?_
    refine Run.pass rfl ?_
    refine Run.q (v := .bool true) rfl (OpQ.y (OpY.pure rfl)) ?_
    refine Run.q (v := .bool true) rfl (OpQ.y (OpY.pure rfl)) ?_
    refine Run.pass rfl ?_
    refine Run.pass rfl ?_
    refine Run.pass rfl ?_
    refine Run.pass rfl ?_
    refine Run.q (v := .bool true) rfl (OpQ.y (OpY.pure rfl)) ?_
    refine Run.q (v := .bool true) rfl (OpQ.y (OpY.pure rfl)) ?_
    refine Run.pass rfl ?_
    refine Run.pass rfl ?_
    refine Run.pass rfl ?_
    refine Run.pass rfl ?_
    refine Run.q (v := .bool true) rfl (OpQ.y (OpY.pure rfl)) ?_
    refine Run.q (v := .bool true) rfl (OpQ.y (OpY.pure rfl)) ?_
    refine Run.pass rfl ?_
    refine Run.pass rfl ?_
    refine Run.pass rfl ?_
    refine Run.pass rfl ?_
    refine Run.pass rfl ?_
    refine Run.pass rfl ?_
    refine Run.q (v := .bool true) rfl (OpQ.y (OpY.pure rfl)) ?_
    refine Run.done ?_
    refine Run.cond (b := true) rfl (fun _ => ?_) (fun h => nomatch h)
    refine Run.seq ?_
    have hbad : psOk I V R F ts nt os no = false := by rw [psOk, show psHead I V R F no = false by simp_all [psHead]]; simp
    refine Run.region ?_
    refine Run.q (v := .bool false) rfl (OpQ.y (OpY.pure rfl)) ?_
    refine Run.done ?_
    refine Run.ret ?_
    refine ⟨.bool false, [], Out.one rfl rfl, (Some'.weak (.nil _)), ?_⟩
    show _ = _
    rw [hbad]
  · refine Run.q (v := .bool false) rfl (OpQ.y (OpY.moveB rfl h11)) ?_
    have p11 := h11; try simp only [bs] at p11
    have hI := within_iff.1 p11
    refine Run.q (v := .pointer (some ⟨b1, 1, none⟩)) rfl (OpQ.y (OpY.fieldAddr Tfo_35_1 rfl rfl)) ?_
    refine Run.q (v := .int .i64 V) rfl (OpQ.y (OpY.load1 Tone_3 rfl (Cells.blk (.head _) ⟨rfl, trivial⟩))) ?_
    refine Run.q (v := .pointer (some ⟨b1, 0, none⟩)) rfl (OpQ.y (OpY.fieldAddr Tfo_35_0 rfl rfl)) ?_
    refine Run.q (v := .int .i64 I) rfl (OpQ.y (OpY.load1 Tone_3 rfl (Cells.blk (.head _) ⟨rfl, trivial⟩))) ?_
    refine Run.q (v := .int .i64 (24 - I)) rfl (OpQ.y (OpY.sub rfl rfl rfl (by omega) (by omega))) ?_
    refine Run.q (v := .bool (within V 0 (24 - I))) rfl (OpQ.call (vs := [.int .i64 V, .int .i64 0, .int .i64 (24 - I)]) (caps := []) Tcall_47 rfl rfl (fun w hs => within_spec _ _ _ w)) ?_
    refine Run.q (v := .bool (!(within V 0 (24 - I)))) rfl (OpQ.y (OpY.pure rfl)) ?_
    refine Run.q (v := .bool (!(within V 0 (24 - I)))) rfl (OpQ.y (OpY.pure rfl)) ?_
    rcases Bool.eq_false_or_eq_true (!(within V 0 (24 - I))) with h20 | h20
    · refine Run.q (v := .bool true) rfl (OpQ.y (OpY.moveB rfl h20)) ?_
      have p20 := h20; try simp only [bs] at p20
      refine Run.pass rfl ?_
      refine Run.pass rfl ?_
      refine Run.pass rfl ?_
      refine Run.pass rfl ?_
      refine Run.q (v := .bool true) rfl (OpQ.y (OpY.pure rfl)) ?_
      refine Run.q (v := .bool true) rfl (OpQ.y (OpY.pure rfl)) ?_
      refine Run.pass rfl ?_
      refine Run.pass rfl ?_
      refine Run.pass rfl ?_
      refine Run.pass rfl ?_
      refine Run.q (v := .bool true) rfl (OpQ.y (OpY.pure rfl)) ?_
      refine Run.q (v := .bool true) rfl (OpQ.y (OpY.pure rfl)) ?_
      refine Run.pass rfl ?_
      refine Run.pass rfl ?_
      refine Run.pass rfl ?_
      refine Run.pass rfl ?_
      refine Run.pass rfl ?_
      refine Run.pass rfl ?_
      refine Run.q (v := .bool true) rfl (OpQ.y (OpY.pure rfl)) ?_
      refine Run.done ?_
      refine Run.cond (b := true) rfl (fun _ => ?_) (fun h => nomatch h)
      refine Run.seq ?_
      have hbad : psOk I V R F ts nt os no = false := by rw [psOk, show psHead I V R F no = false by simp_all [psHead]]; simp
      refine Run.region ?_
      refine Run.q (v := .bool false) rfl (OpQ.y (OpY.pure rfl)) ?_
      refine Run.done ?_
      refine Run.ret ?_
      refine ⟨.bool false, [], Out.one rfl rfl, (Some'.weak (.nil _)), ?_⟩
      show _ = _
      rw [hbad]
    · refine Run.q (v := .bool false) rfl (OpQ.y (OpY.moveB rfl h20)) ?_
      have p20 := h20; try simp only [bs] at p20
      refine Run.q (v := .pointer (some ⟨b1, 2, none⟩)) rfl (OpQ.y (OpY.fieldAddr Tfo_35_2 rfl rfl)) ?_
      refine Run.q (v := .int .i64 R) rfl (OpQ.y (OpY.load1 Tone_3 rfl (Cells.blk (.head _) ⟨rfl, trivial⟩))) ?_
      refine Run.q (v := .bool (within R (-60) 60)) rfl (OpQ.call (vs := [.int .i64 R, .int .i64 (-60), .int .i64 60]) (caps := []) Tcall_47 rfl rfl (fun w hs => within_spec _ _ _ w)) ?_
      refine Run.q (v := .bool (!(within R (-60) 60))) rfl (OpQ.y (OpY.pure rfl)) ?_
      refine Run.q (v := .bool (!(within R (-60) 60))) rfl (OpQ.y (OpY.pure rfl)) ?_
      rcases Bool.eq_false_or_eq_true (!(within R (-60) 60)) with h26 | h26
      · refine Run.q (v := .bool true) rfl (OpQ.y (OpY.moveB rfl h26)) ?_
        have p26 := h26; try simp only [bs] at p26
        refine Run.pass rfl ?_
        refine Run.pass rfl ?_
        refine Run.pass rfl ?_
        refine Run.pass rfl ?_
        refine Run.q (v := .bool true) rfl (OpQ.y (OpY.pure rfl)) ?_
        refine Run.q (v := .bool true) rfl (OpQ.y (OpY.pure rfl)) ?_
        refine Run.pass rfl ?_
        refine Run.pass rfl ?_
        refine Run.pass rfl ?_
        refine Run.pass rfl ?_
        refine Run.pass rfl ?_
        refine Run.pass rfl ?_
        refine Run.q (v := .bool true) rfl (OpQ.y (OpY.pure rfl)) ?_
        refine Run.done ?_
        refine Run.cond (b := true) rfl (fun _ => ?_) (fun h => nomatch h)
        refine Run.seq ?_
        have hbad : psOk I V R F ts nt os no = false := by rw [psOk, show psHead I V R F no = false by simp_all [psHead]]; simp
        refine Run.region ?_
        refine Run.q (v := .bool false) rfl (OpQ.y (OpY.pure rfl)) ?_
        refine Run.done ?_
        refine Run.ret ?_
        refine ⟨.bool false, [], Out.one rfl rfl, (Some'.weak (.nil _)), ?_⟩
        show _ = _
        rw [hbad]
      · refine Run.q (v := .bool false) rfl (OpQ.y (OpY.moveB rfl h26)) ?_
        have p26 := h26; try simp only [bs] at p26
        refine Run.q (v := .pointer (some ⟨b1, 3, none⟩)) rfl (OpQ.y (OpY.fieldAddr Tfo_35_3 rfl rfl)) ?_
        refine Run.q (v := .int .i64 F) rfl (OpQ.y (OpY.load1 Tone_3 rfl (Cells.blk (.head _) ⟨rfl, trivial⟩))) ?_
        refine Run.q (v := .bool (within F 0 7)) rfl (OpQ.call (vs := [.int .i64 F, .int .i64 0, .int .i64 7]) (caps := []) Tcall_47 rfl rfl (fun w hs => within_spec _ _ _ w)) ?_
        refine Run.q (v := .bool (!(within F 0 7))) rfl (OpQ.y (OpY.pure rfl)) ?_
        refine Run.q (v := .bool (!(within F 0 7))) rfl (OpQ.y (OpY.pure rfl)) ?_
        rcases Bool.eq_false_or_eq_true (!(within F 0 7)) with h32 | h32
        · refine Run.q (v := .bool true) rfl (OpQ.y (OpY.moveB rfl h32)) ?_
          have p32 := h32; try simp only [bs] at p32
          refine Run.pass rfl ?_
          refine Run.pass rfl ?_
          refine Run.pass rfl ?_
          refine Run.pass rfl ?_
          refine Run.pass rfl ?_
          refine Run.pass rfl ?_
          refine Run.q (v := .bool true) rfl (OpQ.y (OpY.pure rfl)) ?_
          refine Run.done ?_
          refine Run.cond (b := true) rfl (fun _ => ?_) (fun h => nomatch h)
          refine Run.seq ?_
          have hbad : psOk I V R F ts nt os no = false := by rw [psOk, show psHead I V R F no = false by simp_all [psHead]]; simp
          refine Run.region ?_
          refine Run.q (v := .bool false) rfl (OpQ.y (OpY.pure rfl)) ?_
          refine Run.done ?_
          refine Run.ret ?_
          refine ⟨.bool false, [], Out.one rfl rfl, (Some'.weak (.nil _)), ?_⟩
          show _ = _
          rw [hbad]
        · refine Run.q (v := .bool false) rfl (OpQ.y (OpY.moveB rfl h32)) ?_
          have p32 := h32; try simp only [bs] at p32
          refine Run.q (v := .pointer (some ⟨b1, 5, none⟩)) rfl (OpQ.y (OpY.fieldAddr Tfo_35_5 rfl rfl)) ?_
          refine Run.q (v := .slice Ao no co) rfl (OpQ.y (OpY.load1 Tone_33 rfl (Cells.blk (.head _) ⟨rfl, trivial⟩))) ?_
          refine Run.q (v := .int .i64 (((no : Nat) : Int))) rfl (OpQ.y (OpY.len Tsl_33 rfl)) ?_
          refine Run.q (v := .pointer (some ⟨b1, 0, none⟩)) rfl (OpQ.y (OpY.fieldAddr Tfo_35_0 rfl rfl)) ?_
          refine Run.q (v := .int .i64 I) rfl (OpQ.y (OpY.load1 Tone_3 rfl (Cells.blk (.head _) ⟨rfl, trivial⟩))) ?_
          refine Run.q (v := .bool ((((no : Nat) : Int)) != I)) rfl (OpQ.y (OpY.pure rfl)) ?_
          refine Run.q (v := .bool ((((no : Nat) : Int)) != I)) rfl (OpQ.y (OpY.pure rfl)) ?_
          refine Run.done ?_
          refine Run.cond (b := (((no : Nat) : Int)) != I) rfl (fun h39 => ?_) (fun h39 => ?_)
          · have p39 := h39; try simp only [bs] at p39
            refine Run.seq ?_
            have hbad : psOk I V R F ts nt os no = false := by rw [psOk, show psHead I V R F no = false by simp_all [psHead]]; simp
            refine Run.region ?_
            refine Run.q (v := .bool false) rfl (OpQ.y (OpY.pure rfl)) ?_
            refine Run.done ?_
            refine Run.ret ?_
            refine ⟨.bool false, [], Out.one rfl rfl, (Some'.weak (.nil _)), ?_⟩
            show _ = _
            rw [hbad]
          · have p39 := h39; try simp only [bs] at p39
            refine Run.skip ?_
            refine Run.seq ?_
            have hh : psHead I V R F no = true := by simp_all [psHead]
            have hp := psHead_iff hh
            have hpw := pow_le24 (n := (I + V).toNat) (by omega)
            have hPW : (1 : Int) * 2 ^ NN.toNat = PW := by rw [hNN, Int.one_mul]; exact hPW0
            rw [hPW0] at hpw
            refine Run.region ?_
            refine Run.q (v := .pointer (some ⟨b1, 0, none⟩)) rfl (OpQ.y (OpY.fieldAddr Tfo_35_0 rfl rfl)) ?_
            refine Run.q (v := .int .i64 I) rfl (OpQ.y (OpY.load1 Tone_3 rfl (Cells.blk (.head _) ⟨rfl, trivial⟩))) ?_
            refine Run.q (v := .pointer (some ⟨b1, 1, none⟩)) rfl (OpQ.y (OpY.fieldAddr Tfo_35_1 rfl rfl)) ?_
            refine Run.q (v := .int .i64 V) rfl (OpQ.y (OpY.load1 Tone_3 rfl (Cells.blk (.head _) ⟨rfl, trivial⟩))) ?_
            refine Run.q (v := .int .i64 NN) rfl (OpQ.y (OpY.add rfl rfl hNN.symm (by omega) (by omega))) ?_
            refine Run.step rfl (OpStep.alloc (zs := [.int .i64 0]) Tzero_3 fun b2 => ?_)
            refine Run.step rfl (OpStep.storeAll (us := [.int .i64 NN]) Tsize_3 rfl rfl rfl (.here _) rfl ?_)
            refine Run.done ?_
            refine Run.seq ?_
            refine Run.seq ?_
            refine Run.region ?_
            refine Run.q (v := .pointer (some ⟨b1, 4, none⟩)) rfl (OpQ.y (OpY.fieldAddr Tfo_35_4 rfl rfl)) ?_
            refine Run.q (v := .slice At nt ct) rfl (OpQ.y (OpY.load1 Tone_32 rfl (Cells.blk (.tail _ (List.Mem.head _)) ⟨rfl, trivial⟩))) ?_
            refine Run.q (v := .int .i64 (((nt : Nat) : Int))) rfl (OpQ.y (OpY.len Tsl_32 rfl)) ?_
            refine Run.q (v := .int .i64 0) rfl (OpQ.y (OpY.pure rfl)) ?_
            refine Run.done ?_
            refine Run.block ?_
            refine Run.loop (ι := Nat) ([2, 4, 5, 6, 48, 49, 50, 51, 52, 53, 54, 55, 56, 57, 58, 59, 60, 61, 62, 63, 64, 65, 66, 67, 68, 69, 70, 71, 72, 73, 74, 75, 76, 77, 78, 79, 80, 81, 82, 83, 84, 85, 86, 87, 88, 89, 90, 91, 92, 93] ++ [94, 95, 96, 97, 98]) (fun k => [(48, .int .i64 (((k : Nat) : Int)))]) (fun k => [.blk b2 3 [.int .i64 NN], .blk b1 35 [.int .i64 I, .int .i64 V, .int .i64 R, .int .i64 F, .slice At nt ct, .slice Ao no co]]) (fun k => k ≤ nt ∧ (∀ i, i < k → (!termOk PW ts i) = false)) (fun k => nt - k) 0 ?_ ?_ ?_ ?_
            · exact ⟨Nat.zero_le _, by first | trivial | (intro i hi; omega)⟩
            · exact ⟨rfl, trivial⟩
            · exact (Some'.weak (.take (.take (.nil _))))
            · rintro k fr hinv
              show Run _ _ (over _ _ [(48, .int .i64 (((k : Nat) : Int)))] fr) [.blk b2 3 [.int .i64 NN], .blk b1 35 [.int .i64 I, .int .i64 V, .int .i64 R, .int .i64 F, .slice At nt ct, .slice Ao no co]]
              try dsimp only at hinv
              refine Run.seq ?_
              refine Run.region ?_
              refine Run.q (v := .bool (decide ((((k : Nat) : Int)) < (((nt : Nat) : Int))))) rfl (OpQ.y (OpY.pure rfl)) ?_
              refine Run.done ?_
              refine Run.seq ?_
              refine Run.cond (b := decide ((((k : Nat) : Int)) < (((nt : Nat) : Int)))) rfl (fun h49 => ?_) (fun h49 => ?_)
              · have p49 := h49; try simp only [bs] at p49
                have hltk : k < nt := by omega
                obtain ⟨bt, ot, rfl⟩ := ht.opn (by omega)
                refine Run.skip ?_
                refine Run.seq ?_
                refine Run.block ?_
                refine Run.seq ?_
                refine Run.region ?_
                refine Run.q (v := .int .i64 (((k : Nat) : Int))) rfl (OpQ.y (OpY.pure rfl)) ?_
                refine Run.q (v := .pointer (some ⟨bt, ot + k * 2, none⟩)) rfl (OpQ.y (OpY.index (kk := k) Tsl_32 rfl rfl (by omega) (by omega) (by first | rfl | omega))) ?_
                refine Run.q (v := .agg #[.int .i64 (ix ts (k * 2)), .int .i64 (ix ts (k * 2 + 1))]) rfl (OpQ.y (OpY.loadN (cs := [.int .i64 (ix ts (k * 2)), .int .i64 (ix ts (k * 2 + 1))]) Tagg_51 rfl (Cells.arg (k := k * 2) ht rfl (by omega) (pre2 (by omega))))) ?_
                refine Run.step rfl (OpStep.alloc (zs := [.int .i64 0, .int .i64 0]) Tzero_51 fun b3 => ?_)
                refine Run.q (v := .int .i64 (((k : Nat) : Int))) rfl (OpQ.y (OpY.pure rfl)) ?_
                refine Run.step rfl (OpStep.storeAll (us := [.int .i64 (ix ts (k * 2)), .int .i64 (ix ts (k * 2 + 1))]) Tsize_51 rfl rfl rfl (.here _) rfl ?_)
                refine Run.done ?_
                refine Run.seq ?_
                refine Run.region ?_
                refine Run.q (v := .pointer (some ⟨b3, 0, none⟩)) rfl (OpQ.y (OpY.fieldAddr Tfo_51_0 rfl rfl)) ?_
                refine Run.q (v := .int .i64 (ix ts (k * 2))) rfl (OpQ.y (OpY.load1 Tone_3 rfl (Cells.blk (.head _) ⟨rfl, trivial⟩))) ?_
                refine Run.q (v := .int .i64 (popE (IntKind.u64.wrap (ix ts (k * 2))))) rfl (OpQ.call (vs := [.int .i64 (ix ts (k * 2))]) (caps := []) Tcall_48 rfl rfl (fun w hs => bitsIn_spec _ w)) ?_
                refine Run.q (v := .int .i64 (popE (IntKind.u64.wrap (ix ts (k * 2))))) rfl (OpQ.y (OpY.pure rfl)) ?_
                refine Run.done ?_
                refine Run.seq ?_
                refine Run.draws (by kernel_rfl) (by kernel_rfl) ?_
                refine Lex.q (v := .pointer (some ⟨b3, 0, none⟩)) rfl (OpQ.y (OpY.fieldAddr Tfo_51_0 rfl rfl)) ?_
                refine Lex.q (v := .int .i64 (ix ts (k * 2))) rfl (OpQ.y (OpY.load1 Tone_3 rfl (Cells.blk (.head _) ⟨rfl, trivial⟩))) ?_
                refine Lex.q (v := .int .i64 NN) rfl (OpQ.y (OpY.load1 Tone_3 rfl (Cells.blk (.tail _ (List.Mem.head _)) ⟨rfl, trivial⟩))) ?_
                refine Lex.q (v := .int .i64 PW) rfl (OpQ.y (OpY.shl (n := NN.toNat) rfl rfl (by omega) (by omega) hPW (by omega) (by omega))) ?_
                refine Lex.q (v := .int .i64 (PW - 1)) rfl (OpQ.y (OpY.sub rfl rfl rfl (by omega) (by omega))) ?_
                refine Lex.q (v := .bool (within (ix ts (k * 2)) 1 (PW - 1))) rfl (OpQ.call (vs := [.int .i64 (ix ts (k * 2)), .int .i64 1, .int .i64 (PW - 1)]) (caps := []) Tcall_47 rfl rfl (fun w hs => within_spec _ _ _ w)) ?_
                refine Lex.q (v := .bool (!(within (ix ts (k * 2)) 1 (PW - 1)))) rfl (OpQ.y (OpY.pure rfl)) ?_
                rcases Bool.eq_false_or_eq_true (!(within (ix ts (k * 2)) 1 (PW - 1))) with h63 | h63
                · refine Lex.q (v := .bool true) rfl (OpQ.y (OpY.moveB rfl h63)) ?_
                  have p63 := h63; try simp only [bs] at p63
                  refine Lex.pass rfl ?_
                  refine Lex.pass rfl ?_
                  refine Lex.q (v := .bool true) rfl (OpQ.y (OpY.pure rfl)) ?_
                  refine Lex.q (v := .bool true) rfl (OpQ.y (OpY.pure rfl)) ?_
                  refine Lex.pass rfl ?_
                  refine Lex.pass rfl ?_
                  refine Lex.pass rfl ?_
                  refine Lex.pass rfl ?_
                  refine Lex.q (v := .bool true) rfl (OpQ.y (OpY.pure rfl)) ?_
                  refine Lex.q (v := .bool true) rfl (OpQ.y (OpY.pure rfl)) ?_
                  refine Lex.pass rfl ?_
                  refine Lex.pass rfl ?_
                  refine Lex.pass rfl ?_
                  refine Lex.pass rfl ?_
                  refine Lex.pass rfl ?_
                  refine Lex.pass rfl ?_
                  refine Lex.pass rfl ?_
                  refine Lex.q (v := .bool true) rfl (OpQ.y (OpY.pure rfl)) ?_
                  refine Lex.q (v := .bool true) rfl (OpQ.y (OpY.pure rfl)) ?_
                  refine Lex.pass rfl ?_
                  refine Lex.pass rfl ?_
                  refine Lex.pass rfl ?_
                  refine Lex.pass rfl ?_
                  refine Lex.pass rfl ?_
                  refine Lex.pass rfl ?_
                  refine Lex.pass rfl ?_
                  refine Lex.pass rfl ?_
                  refine Lex.pass rfl ?_
                  refine Lex.pass rfl ?_
                  refine Lex.pass rfl ?_
                  refine Lex.pass rfl ?_
                  refine Lex.pass rfl ?_
                  refine Lex.pass rfl ?_
                  refine Lex.q (v := .bool true) rfl (OpQ.y (OpY.pure rfl)) ?_
                  refine Lex.done ?_
                  refine Run.cond (b := true) rfl (fun _ => ?_) (fun h => nomatch h)
                  refine Run.seq ?_
                  have hb1 : (!termOk PW ts k) = true := by
                    unfold termOk
                    first | (rw [p63]; rfl) | (rw [p73]; simp; done) | (rw [show decide (0 < k → ix ts ((k - 1) * 2) < ix ts (k * 2)) = false from decide_eq_false (fun h => by have := h (by omega); omega)]; simp; done) | (rw [show decide ((setL (ix ts (k * 2))).length ≤ 3) = false from decide_eq_false (by omega)]; simp; done) | (rw [show decide (ix ts (k * 2 + 1) % 2 ^ ((setL (ix ts (k * 2))).length - 1) = 0) = false from decide_eq_false (by first | (rw [← hT4]; assumption) | assumption | omega)]; simp)
                  have hbad : psOk I V R F ts nt os no = false := by rw [psOk, hPW0, anyI_true hltk hb1]; simp
                  refine Run.region ?_
                  refine Run.q (v := .bool false) rfl (OpQ.y (OpY.pure rfl)) ?_
                  refine Run.done ?_
                  refine Run.ret ?_
                  refine ⟨.bool false, [], Out.one rfl rfl, (Some'.weak (.nil _)), ?_⟩
                  show _ = _
                  rw [hbad]
                · refine Lex.q (v := .bool false) rfl (OpQ.y (OpY.moveB rfl h63)) ?_
                  have p63 := h63; try simp only [bs] at p63
                  have hM := within_iff.1 p63
                  have hLL : popE (IntKind.u64.wrap (ix ts (k * 2))) = (((setL (ix ts (k * 2))).length : Nat) : Int) := by
                    rw [show IntKind.u64.wrap (ix ts (k * 2)) = ix ts (k * 2) by rw [IntKind.wrap_u64]; omega]; exact popE_set (by omega) (by omega)
                  have hS1 := set_pos hM.1 (by omega)
                  have hS24 : (setL (ix ts (k * 2))).length ≤ 24 := filterL_le _ 24
                  refine Lex.q (v := .int .i64 (popE (IntKind.u64.wrap (ix ts (k * 2))))) rfl (OpQ.y (OpY.pure rfl)) ?_
                  refine Lex.q (v := .bool (decide ((popE (IntKind.u64.wrap (ix ts (k * 2)))) > 3))) rfl (OpQ.y (OpY.pure rfl)) ?_
                  refine Lex.q (v := .bool (decide ((popE (IntKind.u64.wrap (ix ts (k * 2)))) > 3))) rfl (OpQ.y (OpY.pure rfl)) ?_
                  rcases Bool.eq_false_or_eq_true (decide ((popE (IntKind.u64.wrap (ix ts (k * 2)))) > 3)) with h67 | h67
                  · refine Lex.q (v := .bool true) rfl (OpQ.y (OpY.moveB rfl h67)) ?_
                    have p67 := h67; try simp only [bs] at p67
                    refine Lex.pass rfl ?_
                    refine Lex.pass rfl ?_
                    refine Lex.pass rfl ?_
                    refine Lex.pass rfl ?_
                    refine Lex.q (v := .bool true) rfl (OpQ.y (OpY.pure rfl)) ?_
                    refine Lex.q (v := .bool true) rfl (OpQ.y (OpY.pure rfl)) ?_
                    refine Lex.pass rfl ?_
                    refine Lex.pass rfl ?_
                    refine Lex.pass rfl ?_
                    refine Lex.pass rfl ?_
                    refine Lex.pass rfl ?_
                    refine Lex.pass rfl ?_
                    refine Lex.pass rfl ?_
                    refine Lex.q (v := .bool true) rfl (OpQ.y (OpY.pure rfl)) ?_
                    refine Lex.q (v := .bool true) rfl (OpQ.y (OpY.pure rfl)) ?_
                    refine Lex.pass rfl ?_
                    refine Lex.pass rfl ?_
                    refine Lex.pass rfl ?_
                    refine Lex.pass rfl ?_
                    refine Lex.pass rfl ?_
                    refine Lex.pass rfl ?_
                    refine Lex.pass rfl ?_
                    refine Lex.pass rfl ?_
                    refine Lex.pass rfl ?_
                    refine Lex.pass rfl ?_
                    refine Lex.pass rfl ?_
                    refine Lex.pass rfl ?_
                    refine Lex.pass rfl ?_
                    refine Lex.pass rfl ?_
                    refine Lex.q (v := .bool true) rfl (OpQ.y (OpY.pure rfl)) ?_
                    refine Lex.done ?_
                    refine Run.cond (b := true) rfl (fun _ => ?_) (fun h => nomatch h)
                    refine Run.seq ?_
                    have hb1 : (!termOk PW ts k) = true := by
                      unfold termOk
                      first | (rw [p63]; rfl) | (rw [p73]; simp; done) | (rw [show decide (0 < k → ix ts ((k - 1) * 2) < ix ts (k * 2)) = false from decide_eq_false (fun h => by have := h (by omega); omega)]; simp; done) | (rw [show decide ((setL (ix ts (k * 2))).length ≤ 3) = false from decide_eq_false (by omega)]; simp; done) | (rw [show decide (ix ts (k * 2 + 1) % 2 ^ ((setL (ix ts (k * 2))).length - 1) = 0) = false from decide_eq_false (by first | (rw [← hT4]; assumption) | assumption | omega)]; simp)
                    have hbad : psOk I V R F ts nt os no = false := by rw [psOk, hPW0, anyI_true hltk hb1]; simp
                    refine Run.region ?_
                    refine Run.q (v := .bool false) rfl (OpQ.y (OpY.pure rfl)) ?_
                    refine Run.done ?_
                    refine Run.ret ?_
                    refine ⟨.bool false, [], Out.one rfl rfl, (Some'.weak (.nil _)), ?_⟩
                    show _ = _
                    rw [hbad]
                  · refine Lex.q (v := .bool false) rfl (OpQ.y (OpY.moveB rfl h67)) ?_
                    have p67 := h67; try simp only [bs] at p67
                    refine Lex.q (v := .pointer (some ⟨b3, 1, none⟩)) rfl (OpQ.y (OpY.fieldAddr Tfo_51_1 rfl rfl)) ?_
                    refine Lex.q (v := .int .i64 (ix ts (k * 2 + 1))) rfl (OpQ.y (OpY.load1 Tone_3 rfl (Cells.blk (.head _) ⟨rfl, trivial⟩))) ?_
                    refine Lex.q (v := .bool (within (ix ts (k * 2 + 1)) 1 7)) rfl (OpQ.call (vs := [.int .i64 (ix ts (k * 2 + 1)), .int .i64 1, .int .i64 7]) (caps := []) Tcall_47 rfl rfl (fun w hs => within_spec _ _ _ w)) ?_
                    refine Lex.q (v := .bool (!(within (ix ts (k * 2 + 1)) 1 7))) rfl (OpQ.y (OpY.pure rfl)) ?_
                    refine Lex.q (v := .bool (!(within (ix ts (k * 2 + 1)) 1 7))) rfl (OpQ.y (OpY.pure rfl)) ?_
                    rcases Bool.eq_false_or_eq_true (!(within (ix ts (k * 2 + 1)) 1 7)) with h73 | h73
                    · refine Lex.q (v := .bool true) rfl (OpQ.y (OpY.moveB rfl h73)) ?_
                      have p73 := h73; try simp only [bs] at p73
                      refine Lex.pass rfl ?_
                      refine Lex.pass rfl ?_
                      refine Lex.pass rfl ?_
                      refine Lex.pass rfl ?_
                      refine Lex.pass rfl ?_
                      refine Lex.pass rfl ?_
                      refine Lex.pass rfl ?_
                      refine Lex.q (v := .bool true) rfl (OpQ.y (OpY.pure rfl)) ?_
                      refine Lex.q (v := .bool true) rfl (OpQ.y (OpY.pure rfl)) ?_
                      refine Lex.pass rfl ?_
                      refine Lex.pass rfl ?_
                      refine Lex.pass rfl ?_
                      refine Lex.pass rfl ?_
                      refine Lex.pass rfl ?_
                      refine Lex.pass rfl ?_
                      refine Lex.pass rfl ?_
                      refine Lex.pass rfl ?_
                      refine Lex.pass rfl ?_
                      refine Lex.pass rfl ?_
                      refine Lex.pass rfl ?_
                      refine Lex.pass rfl ?_
                      refine Lex.pass rfl ?_
                      refine Lex.pass rfl ?_
                      refine Lex.q (v := .bool true) rfl (OpQ.y (OpY.pure rfl)) ?_
                      refine Lex.done ?_
                      refine Run.cond (b := true) rfl (fun _ => ?_) (fun h => nomatch h)
                      refine Run.seq ?_
                      have hb1 : (!termOk PW ts k) = true := by
                        unfold termOk
                        first | (rw [p63]; rfl) | (rw [p73]; simp; done) | (rw [show decide (0 < k → ix ts ((k - 1) * 2) < ix ts (k * 2)) = false from decide_eq_false (fun h => by have := h (by omega); omega)]; simp; done) | (rw [show decide ((setL (ix ts (k * 2))).length ≤ 3) = false from decide_eq_false (by omega)]; simp; done) | (rw [show decide (ix ts (k * 2 + 1) % 2 ^ ((setL (ix ts (k * 2))).length - 1) = 0) = false from decide_eq_false (by first | (rw [← hT4]; assumption) | assumption | omega)]; simp)
                      have hbad : psOk I V R F ts nt os no = false := by rw [psOk, hPW0, anyI_true hltk hb1]; simp
                      refine Run.region ?_
                      refine Run.q (v := .bool false) rfl (OpQ.y (OpY.pure rfl)) ?_
                      refine Run.done ?_
                      refine Run.ret ?_
                      refine ⟨.bool false, [], Out.one rfl rfl, (Some'.weak (.nil _)), ?_⟩
                      show _ = _
                      rw [hbad]
                    · refine Lex.q (v := .bool false) rfl (OpQ.y (OpY.moveB rfl h73)) ?_
                      have p73 := h73; try simp only [bs] at p73
                      have hC := within_iff.1 p73
                      obtain ⟨TT, hTT⟩ : ∃ TT : Int, (1 : Int) * 2 ^ ((setL (ix ts (k * 2))).length - 1) = TT := ⟨_, rfl⟩
                      have hT4 : TT = 2 ^ ((setL (ix ts (k * 2))).length - 1) := by rw [← hTT, Int.one_mul]
                      have hTp := pow_le24 (n := (setL (ix ts (k * 2))).length - 1) (by omega)
                      rw [← hT4] at hTp
                      refine Lex.q (v := .pointer (some ⟨b3, 1, none⟩)) rfl (OpQ.y (OpY.fieldAddr Tfo_51_1 rfl rfl)) ?_
                      refine Lex.q (v := .int .i64 (ix ts (k * 2 + 1))) rfl (OpQ.y (OpY.load1 Tone_3 rfl (Cells.blk (.head _) ⟨rfl, trivial⟩))) ?_
                      refine Lex.q (v := .int .i64 (popE (IntKind.u64.wrap (ix ts (k * 2))))) rfl (OpQ.y (OpY.pure rfl)) ?_
                      refine Lex.q (v := .int .i64 (popE (IntKind.u64.wrap (ix ts (k * 2))) - 1)) rfl (OpQ.y (OpY.sub rfl rfl rfl (by omega) (by omega))) ?_
                      refine Lex.q (v := .int .i64 TT) rfl (OpQ.y (OpY.shl (n := (setL (ix ts (k * 2))).length - 1) rfl rfl (by omega) (by omega) hTT (by omega) (by omega))) ?_
                      refine Lex.q (v := .int .i64 (ix ts (k * 2 + 1) % TT)) rfl (OpQ.y (OpY.rem rfl rfl (by omega) (by omega))) ?_
                      refine Lex.q (v := .bool ((ix ts (k * 2 + 1) % TT) != 0)) rfl (OpQ.y (OpY.pure rfl)) ?_
                      refine Lex.q (v := .bool ((ix ts (k * 2 + 1) % TT) != 0)) rfl (OpQ.y (OpY.pure rfl)) ?_
                      rcases Bool.eq_false_or_eq_true ((ix ts (k * 2 + 1) % TT) != 0) with h82 | h82
                      · refine Lex.q (v := .bool true) rfl (OpQ.y (OpY.moveB rfl h82)) ?_
                        have p82 := h82; try simp only [bs] at p82
                        refine Lex.pass rfl ?_
                        refine Lex.pass rfl ?_
                        refine Lex.pass rfl ?_
                        refine Lex.pass rfl ?_
                        refine Lex.pass rfl ?_
                        refine Lex.pass rfl ?_
                        refine Lex.pass rfl ?_
                        refine Lex.pass rfl ?_
                        refine Lex.pass rfl ?_
                        refine Lex.pass rfl ?_
                        refine Lex.pass rfl ?_
                        refine Lex.pass rfl ?_
                        refine Lex.pass rfl ?_
                        refine Lex.pass rfl ?_
                        refine Lex.q (v := .bool true) rfl (OpQ.y (OpY.pure rfl)) ?_
                        refine Lex.done ?_
                        refine Run.cond (b := true) rfl (fun _ => ?_) (fun h => nomatch h)
                        refine Run.seq ?_
                        have hb1 : (!termOk PW ts k) = true := by
                          unfold termOk
                          first | (rw [p63]; rfl) | (rw [p73]; simp; done) | (rw [show decide (0 < k → ix ts ((k - 1) * 2) < ix ts (k * 2)) = false from decide_eq_false (fun h => by have := h (by omega); omega)]; simp; done) | (rw [show decide ((setL (ix ts (k * 2))).length ≤ 3) = false from decide_eq_false (by omega)]; simp; done) | (rw [show decide (ix ts (k * 2 + 1) % 2 ^ ((setL (ix ts (k * 2))).length - 1) = 0) = false from decide_eq_false (by first | (rw [← hT4]; assumption) | assumption | omega)]; simp)
                        have hbad : psOk I V R F ts nt os no = false := by rw [psOk, hPW0, anyI_true hltk hb1]; simp
                        refine Run.region ?_
                        refine Run.q (v := .bool false) rfl (OpQ.y (OpY.pure rfl)) ?_
                        refine Run.done ?_
                        refine Run.ret ?_
                        refine ⟨.bool false, [], Out.one rfl rfl, (Some'.weak (.nil _)), ?_⟩
                        show _ = _
                        rw [hbad]
                      · refine Lex.q (v := .bool false) rfl (OpQ.y (OpY.moveB rfl h82)) ?_
                        have p82 := h82; try simp only [bs] at p82
                        refine Lex.q (v := .int .i64 (((k : Nat) : Int))) rfl (OpQ.y (OpY.pure rfl)) ?_
                        refine Lex.q (v := .bool (decide ((((k : Nat) : Int)) > 0))) rfl (OpQ.y (OpY.pure rfl)) ?_
                        rcases Bool.eq_false_or_eq_true (decide ((((k : Nat) : Int)) > 0)) with h85 | h85
                        · refine Lex.q (v := .bool true) rfl (OpQ.y (OpY.moveB rfl h85)) ?_
                          have p85 := h85; try simp only [bs] at p85
                          refine Lex.q (v := .pointer (some ⟨b1, 4, none⟩)) rfl (OpQ.y (OpY.fieldAddr Tfo_35_4 rfl rfl)) ?_
                          refine Lex.q (v := .slice (some ⟨bt, ot, none⟩) nt ct) rfl (OpQ.y (OpY.load1 Tone_32 rfl (Cells.blk (.tail _ (.tail _ (List.Mem.head _))) ⟨rfl, trivial⟩))) ?_
                          refine Lex.q (v := .int .i64 (((k : Nat) : Int))) rfl (OpQ.y (OpY.pure rfl)) ?_
                          refine Lex.q (v := .int .i64 ((((k : Nat) : Int)) - 1)) rfl (OpQ.y (OpY.sub rfl rfl rfl (by omega) (by omega))) ?_
                          refine Lex.q (v := .pointer (some ⟨bt, ot + (k - 1) * 2, none⟩)) rfl (OpQ.y (OpY.index (kk := k - 1) Tsl_32 rfl rfl (by omega) (by omega) (by first | rfl | omega))) ?_
                          refine Lex.q (v := .pointer (some ⟨bt, ot + (k - 1) * 2, none⟩)) rfl (OpQ.y (OpY.fieldAddr Tfo_51_0 rfl rfl)) ?_
                          refine Lex.q (v := .int .i64 (ix ts ((k - 1) * 2))) rfl (OpQ.y (OpY.load1 Tone_3 rfl (Cells.arg (k := (k - 1) * 2) ht rfl (by omega) (pre1 (by omega))))) ?_
                          refine Lex.q (v := .pointer (some ⟨b3, 0, none⟩)) rfl (OpQ.y (OpY.fieldAddr Tfo_51_0 rfl rfl)) ?_
                          refine Lex.q (v := .int .i64 (ix ts (k * 2))) rfl (OpQ.y (OpY.load1 Tone_3 rfl (Cells.blk (.head _) ⟨rfl, trivial⟩))) ?_
                          refine Lex.q (v := .bool (decide ((ix ts ((k - 1) * 2)) ≥ (ix ts (k * 2))))) rfl (OpQ.y (OpY.pure rfl)) ?_
                          refine Lex.q (v := .bool (decide ((ix ts ((k - 1) * 2)) ≥ (ix ts (k * 2))))) rfl (OpQ.y (OpY.pure rfl)) ?_
                          refine Lex.q (v := .bool (decide ((ix ts ((k - 1) * 2)) ≥ (ix ts (k * 2))))) rfl (OpQ.y (OpY.pure rfl)) ?_
                          refine Lex.done ?_
                          refine Run.cond (b := decide ((ix ts ((k - 1) * 2)) ≥ (ix ts (k * 2)))) rfl (fun h97 => ?_) (fun h97 => ?_)
                          · have p97 := h97; try simp only [bs] at p97
                            refine Run.seq ?_
                            have hb1 : (!termOk PW ts k) = true := by
                              unfold termOk
                              first | (rw [p63]; rfl) | (rw [p73]; simp; done) | (rw [show decide (0 < k → ix ts ((k - 1) * 2) < ix ts (k * 2)) = false from decide_eq_false (fun h => by have := h (by omega); omega)]; simp; done) | (rw [show decide ((setL (ix ts (k * 2))).length ≤ 3) = false from decide_eq_false (by omega)]; simp; done) | (rw [show decide (ix ts (k * 2 + 1) % 2 ^ ((setL (ix ts (k * 2))).length - 1) = 0) = false from decide_eq_false (by first | (rw [← hT4]; assumption) | assumption | omega)]; simp)
                            have hbad : psOk I V R F ts nt os no = false := by rw [psOk, hPW0, anyI_true hltk hb1]; simp
                            refine Run.region ?_
                            refine Run.q (v := .bool false) rfl (OpQ.y (OpY.pure rfl)) ?_
                            refine Run.done ?_
                            refine Run.ret ?_
                            refine ⟨.bool false, [], Out.one rfl rfl, (Some'.weak (.nil _)), ?_⟩
                            show _ = _
                            rw [hbad]
                          · have p97 := h97; try simp only [bs] at p97
                            refine Run.skip ?_
                            refine Run.blockEnd ?_
                            have hgood : (!termOk PW ts k) = false := by
                              unfold termOk
                              rw [p63, p73, show decide (0 < k → ix ts ((k - 1) * 2) < ix ts (k * 2)) = true from decide_eq_true (fun h => by omega), show decide ((setL (ix ts (k * 2))).length ≤ 3) = true from decide_eq_true (by omega), show decide (ix ts (k * 2 + 1) % 2 ^ ((setL (ix ts (k * 2))).length - 1) = 0) = true from decide_eq_true (by first | (rw [← hT4]; assumption) | assumption)]; rfl
                            refine Run.region ?_
                            refine Run.q (v := .int .i64 ((((k : Nat) : Int)) + 1)) rfl (OpQ.y (OpY.add rfl rfl rfl (by omega) (by omega))) ?_
                            refine Run.q (v := .int .i64 ((((k : Nat) : Int)) + 1)) rfl (OpQ.y (OpY.pure rfl)) ?_
                            refine Run.done ?_
                            refine Run.goal ⟨(by repeat (first | exact Same.refl _ _ | refine Same.put rfl ?_ | refine Same.over rfl rfl ?_)), k + 1, ?_, ?_, ?_, ?_⟩
                            · refine ⟨by omega, ?_⟩
                              intro i hi
                              rcases Nat.lt_succ_iff_lt_or_eq.1 hi with h | h
                              · exact hinv.2 i h
                              · rw [h]; exact hgood
                            · omega
                            · exact ⟨(by first | rfl | (congr 1; omega) | simp), trivial⟩
                            · exact (Some'.weak (.skip (.take (.takeEq (by first | rfl | simp) (.nil _)))))
                        · refine Lex.q (v := .bool false) rfl (OpQ.y (OpY.moveB rfl h85)) ?_
                          have p85 := h85; try simp only [bs] at p85
                          refine Lex.pass rfl ?_
                          refine Lex.pass rfl ?_
                          refine Lex.pass rfl ?_
                          refine Lex.pass rfl ?_
                          refine Lex.pass rfl ?_
                          refine Lex.pass rfl ?_
                          refine Lex.pass rfl ?_
                          refine Lex.pass rfl ?_
                          refine Lex.pass rfl ?_
                          refine Lex.pass rfl ?_
                          refine Lex.q (v := .bool false) rfl (OpQ.y (OpY.pure rfl)) ?_
                          refine Lex.q (v := .bool false) rfl (OpQ.y (OpY.pure rfl)) ?_
                          refine Lex.done ?_
                          refine Run.cond (b := false) rfl (fun h => nomatch h) (fun _ => ?_)
                          refine Run.skip ?_
                          refine Run.blockEnd ?_
                          have hgood : (!termOk PW ts k) = false := by
                            unfold termOk
                            rw [p63, p73, show decide (0 < k → ix ts ((k - 1) * 2) < ix ts (k * 2)) = true from decide_eq_true (fun h => by omega), show decide ((setL (ix ts (k * 2))).length ≤ 3) = true from decide_eq_true (by omega), show decide (ix ts (k * 2 + 1) % 2 ^ ((setL (ix ts (k * 2))).length - 1) = 0) = true from decide_eq_true (by first | (rw [← hT4]; assumption) | assumption)]; rfl
                          refine Run.region ?_
                          refine Run.q (v := .int .i64 ((((k : Nat) : Int)) + 1)) rfl (OpQ.y (OpY.add rfl rfl rfl (by omega) (by omega))) ?_
                          refine Run.q (v := .int .i64 ((((k : Nat) : Int)) + 1)) rfl (OpQ.y (OpY.pure rfl)) ?_
                          refine Run.done ?_
                          refine Run.goal ⟨(by repeat (first | exact Same.refl _ _ | refine Same.put rfl ?_ | refine Same.over rfl rfl ?_)), k + 1, ?_, ?_, ?_, ?_⟩
                          · refine ⟨by omega, ?_⟩
                            intro i hi
                            rcases Nat.lt_succ_iff_lt_or_eq.1 hi with h | h
                            · exact hinv.2 i h
                            · rw [h]; exact hgood
                          · omega
                          · exact ⟨(by first | rfl | (congr 1; omega) | simp), trivial⟩
                          · exact (Some'.weak (.skip (.take (.takeEq (by first | rfl | simp) (.nil _)))))
              · have p49 := h49; try simp only [bs] at p49
                have hknk : k = nt := by omega
                have hT : anyI (fun i => !termOk PW ts i) nt = false := by rw [← hknk]; exact anyI_false hinv.2
                refine Run.exit rfl ?_
                refine Run.seq ?_
                refine Run.region ?_
                refine Run.q (v := .pointer (some ⟨b1, 5, none⟩)) rfl (OpQ.y (OpY.fieldAddr Tfo_35_5 rfl rfl)) ?_
                refine Run.q (v := .slice Ao no co) rfl (OpQ.y (OpY.load1 Tone_33 rfl (Cells.blk (.tail _ (List.Mem.head _)) ⟨rfl, trivial⟩))) ?_
                refine Run.q (v := .func (.func 50) #[] #[.pointer (some ⟨b2, 0, none⟩)]) rfl (OpQ.y (OpY.makeFunc (caps := [.pointer (some ⟨b2, 0, none⟩)]) rfl)) ?_
                refine Run.q (v := .bool (anyI (fun i => !affOk PW os i) no)) rfl (OpQ.call (vs := [.slice Ao no co, .func (.func 50) #[] #[.pointer (some ⟨b2, 0, none⟩)]]) (caps := []) Tcall_49 rfl rfl (fun w hs => ContainsFuncAff_spec (hs.sl ho) (hs.slBlk (.head _)) (by omega) hPW)) ?_
                refine Run.q (v := .bool (!(anyI (fun i => !affOk PW os i) no))) rfl (OpQ.y (OpY.pure rfl)) ?_
                refine Run.q (v := .bool (!(anyI (fun i => !affOk PW os i) no))) rfl (OpQ.y (OpY.pure rfl)) ?_
                refine Run.done ?_
                refine Run.ret ?_
                refine ⟨.bool (!(anyI (fun i => !affOk PW os i) no)), [], Out.one rfl rfl, (Some'.weak (.nil _)), ?_⟩
                show _ = _
                rw [psOk, hPW0, hh, hT]; rfl

end Go.Proofs.Ytadobifnhcafpaa
