/- The walk of the law FnRows. -/
import Derived.Test.YtgghmjijjdboeaaDev
import Derived.Test.YtgghmjijjdboeaaDg3
import Derived.Test.YtgghmjijjdboeaaRwl
import Derived.Test.YtgghmjijjdboeaaProg
set_option linter.unusedSimpArgs false
set_option linter.unusedVariables false
namespace Go.Proofs.Ytgghmjijjdboeaa
open Go Go.RowKit
namespace L46T
theorem Tagg_50 : aggOf Try.prog 50 = some 3 := by kernel_rfl
theorem Tbool_4 : Try.prog.underlying 4 = some .bool := by kernel_rfl
theorem Tcall_24 : callable Try.prog 24 = true := by kernel_rfl
theorem Tcall_25 : callable Try.prog 25 = true := by kernel_rfl
theorem Tcall_26 : callable Try.prog 26 = true := by kernel_rfl
theorem Tcall_27 : callable Try.prog 27 = true := by kernel_rfl
theorem Tcall_28 : callable Try.prog 28 = true := by kernel_rfl
theorem Tcall_29 : callable Try.prog 29 = true := by kernel_rfl
theorem Tcall_30 : callable Try.prog 30 = true := by kernel_rfl
theorem Tcall_31 : callable Try.prog 31 = true := by kernel_rfl
theorem Tfo_50_0 : fieldOff Try.prog 50 0 = some 0 := by kernel_rfl
theorem Tfo_50_1 : fieldOff Try.prog 50 1 = some 1 := by kernel_rfl
theorem Tfo_50_2 : fieldOff Try.prog 50 2 = some 2 := by kernel_rfl
theorem Tone_3 : oneOf Try.prog 3 = true := by kernel_rfl
theorem Tsize_3 : (Try.prog.info? 3).map (·.size) = some 1 := by kernel_rfl
theorem Tsize_50 : (Try.prog.info? 50).map (·.size) = some 3 := by kernel_rfl
theorem Tsl_22 : sliceOf Try.prog 22 = some (5, 1, 1, [.int .u8 0]) := by kernel_rfl
theorem Tsl_34 : sliceOf Try.prog 34 = some (3, 1, 8, [.int .i64 0]) := by kernel_rfl
theorem Tsl_46 : sliceOf Try.prog 46 = some (50, 3, 24, [.int .i64 0, .int .i64 0, .int .i64 0]) := by kernel_rfl
theorem Tzero_50 : zeroOf Try.prog 50 = some [.int .i64 0, .int .i64 0, .int .i64 0] := by kernel_rfl
end L46T
open L46T

def bigB (n m : Nat) : Bool := decide ((n : Int) > 1048576) || decide ((m : Int) > 1048576 - (n : Int))
theorem bigB_false {n m : Nat} (h : bigB n m = false) : n ≤ 1048576 ∧ m ≤ 1048576 := by
  simp only [bigB, Bool.or_eq_false_iff, decide_eq_false_iff_not] at h; omega
theorem rpR_snoc' (g : Nat × Nat) (l : List (Nat × Nat)) (x : List Int) : rpR x (l ++ [g]) = (rpR x l).set g.1 (bits .xor .i64 (ix (rpR x l) g.1) (ix (rpR x l) g.2)) := rpR_snoc g.1 g.2 l x
theorem rpS_snoc' (g : Nat × Nat) (l : List (Nat × Nat)) (x : List Int) : rpS x (l ++ [g]) = ((rpS x l).set g.1 (ix (rpS x l) g.2)).set g.2 (ix (rpS x l) g.1) := rpS_snoc g.1 g.2 l x

set_option maxHeartbeats 1000000 in
set_option maxRecDepth 20000 in
theorem sameInts_spec {va vb : Value} {n m : Nat} {xs ys : List Int} {w : World} (ha : Sl w va 1 n (ints xs)) (hb : Sl w vb 1 m (ints ys)) : Calls Try.prog 28 #[va, vb] w (Post No w fun v _ => v = .bool (decide (xs = ys))) := by
  have hxl := ha.len
  have hyl := hb.len
  have hn := ha.le
  have hm := hb.le
  obtain ⟨A, c, rfl, _, _⟩ := ha.form0
  obtain ⟨B, d, rfl, _, _⟩ := hb.form0
  refine enter (n := 26) (args := [.slice A n c, .slice B m d]) Try.func28 rfl rfl (St.empty _ _) ?_
  refine Run.seq ?_
  refine Run.region ?_
  refine Run.q (v := .bool false) rfl (OpQ.y (OpY.pure rfl)) ?_
  refine Run.done ?_
  refine Run.seq ?_
  refine Run.seq ?_
  refine Run.region ?_
  refine Run.q (v := .slice A n c) rfl (OpQ.y (OpY.pure rfl)) ?_
  refine Run.q (v := .int .i64 (((n : Nat) : Int))) rfl (OpQ.y (OpY.len Tsl_34 rfl)) ?_
  refine Run.q (v := .slice B m d) rfl (OpQ.y (OpY.pure rfl)) ?_
  refine Run.q (v := .int .i64 (((m : Nat) : Int))) rfl (OpQ.y (OpY.len Tsl_34 rfl)) ?_
  refine Run.q (v := .bool ((((n : Nat) : Int)) != (((m : Nat) : Int)))) rfl (OpQ.y (OpY.pure rfl)) ?_
  refine Run.done ?_
  refine Run.cond (b := (((n : Nat) : Int)) != (((m : Nat) : Int))) rfl (fun h10 => ?_) (fun h10 => ?_)
  · have p10 := h10; try simp only [decide_eq_true_eq, decide_eq_false_iff_not, beq_iff_eq, bne_iff_ne, beq_eq_false_iff_ne, ne_eq, gt_iff_lt, ge_iff_le, Int.not_lt, Int.not_le, bne_eq_false_iff_eq, Bool.not_eq_true', Bool.not_eq_false', Bool.and_eq_true, Bool.and_eq_false_iff, Bool.or_eq_true, Bool.or_eq_false_iff, Decidable.not_not, List.cons.injEq, and_true] at p10
    have hres : decide (xs = ys) = false := ints_ne_len (by omega)
    refine Run.seq ?_
    refine Run.region ?_
    refine Run.q (v := .bool false) rfl (OpQ.y (OpY.pure rfl)) ?_
    refine Run.done ?_
    refine Run.ret ?_
    refine ⟨.bool false, [], Out.one rfl rfl, (Some'.weak (.nil _)), ?_⟩
    show _ = _; rw [hres]
  · have p10 := h10; try simp only [decide_eq_true_eq, decide_eq_false_iff_not, beq_iff_eq, bne_iff_ne, beq_eq_false_iff_ne, ne_eq, gt_iff_lt, ge_iff_le, Int.not_lt, Int.not_le, bne_eq_false_iff_eq, Bool.not_eq_true', Bool.not_eq_false', Bool.and_eq_true, Bool.and_eq_false_iff, Bool.or_eq_true, Bool.or_eq_false_iff, Decidable.not_not, List.cons.injEq, and_true] at p10
    refine Run.skip ?_
    refine Run.seq ?_
    refine Run.seq ?_
    refine Run.region ?_
    refine Run.q (v := .slice A n c) rfl (OpQ.y (OpY.pure rfl)) ?_
    refine Run.q (v := .int .i64 (((n : Nat) : Int))) rfl (OpQ.y (OpY.len Tsl_34 rfl)) ?_
    refine Run.q (v := .int .i64 0) rfl (OpQ.y (OpY.pure rfl)) ?_
    refine Run.done ?_
    refine Run.block ?_
    refine Run.loop (ι := Nat) [4, 5, 13, 14, 15, 16, 17, 18, 19, 20, 21, 22, 23, 24, 25] (fun k => [(13, .int .i64 (((k : Nat) : Int)))]) (fun k => []) (fun k => k ≤ n ∧ (∀ i, i < k → decide (ix xs i = ix ys i) = true)) (fun k => n - k) 0 ?_ ?_ ?_ ?_
    · exact ⟨Nat.zero_le _, by first | trivial | (intro i hi; omega)⟩
    · exact ⟨rfl, trivial⟩
    · exact (Some'.weak (.nil _))
    · rintro k fr hinv
      show Run _ _ (over _ _ [(13, .int .i64 (((k : Nat) : Int)))] fr) []
      try dsimp only at hinv
      refine Run.seq ?_
      refine Run.region ?_
      refine Run.q (v := .bool (decide ((((k : Nat) : Int)) < (((n : Nat) : Int))))) rfl (OpQ.y (OpY.pure rfl)) ?_
      refine Run.done ?_
      refine Run.seq ?_
      refine Run.cond (b := decide ((((k : Nat) : Int)) < (((n : Nat) : Int)))) rfl (fun h14 => ?_) (fun h14 => ?_)
      · have p14 := h14; try simp only [decide_eq_true_eq, decide_eq_false_iff_not, beq_iff_eq, bne_iff_ne, beq_eq_false_iff_ne, ne_eq, gt_iff_lt, ge_iff_le, Int.not_lt, Int.not_le, bne_eq_false_iff_eq, Bool.not_eq_true', Bool.not_eq_false', Bool.and_eq_true, Bool.and_eq_false_iff, Bool.or_eq_true, Bool.or_eq_false_iff, Decidable.not_not, List.cons.injEq, and_true] at p14
        have hltk : k < n := by omega
        obtain ⟨b, o, rfl⟩ := ha.opn (by omega)
        have hltm : k < m := by omega
        obtain ⟨b2, o2, rfl⟩ := hb.opn (by omega)
        refine Run.skip ?_
        refine Run.seq ?_
        refine Run.block ?_
        refine Run.seq ?_
        refine Run.region ?_
        refine Run.q (v := .int .i64 (((k : Nat) : Int))) rfl (OpQ.y (OpY.pure rfl)) ?_
        refine Run.q (v := .int .i64 (((k : Nat) : Int))) rfl (OpQ.y (OpY.pure rfl)) ?_
        refine Run.done ?_
        refine Run.seq ?_
        refine Run.draws (by kernel_rfl) (by kernel_rfl) ?_
        refine Lex.q (v := .slice (some ⟨b, o, none⟩) n c) rfl (OpQ.y (OpY.pure rfl)) ?_
        refine Lex.q (v := .int .i64 (((k : Nat) : Int))) rfl (OpQ.y (OpY.pure rfl)) ?_
        refine Lex.q (v := .pointer (some ⟨b, o + k, none⟩)) rfl (OpQ.y (OpY.index (kk := k) Tsl_34 rfl rfl (by omega) (by omega) (by first | rfl | omega))) ?_
        refine Lex.q (v := .int .i64 (ix xs (k))) rfl (OpQ.y (OpY.load1 Tone_3 rfl (Cells.arg (k := k) ha rfl (by omega) (pre1 (by omega))))) ?_
        refine Lex.q (v := .slice (some ⟨b2, o2, none⟩) m d) rfl (OpQ.y (OpY.pure rfl)) ?_
        refine Lex.q (v := .int .i64 (((k : Nat) : Int))) rfl (OpQ.y (OpY.pure rfl)) ?_
        refine Lex.q (v := .pointer (some ⟨b2, o2 + k, none⟩)) rfl (OpQ.y (OpY.index (kk := k) Tsl_34 rfl rfl (by omega) (by omega) (by first | rfl | omega))) ?_
        refine Lex.q (v := .int .i64 (ix ys (k))) rfl (OpQ.y (OpY.load1 Tone_3 rfl (Cells.arg (k := k) hb rfl (by omega) (pre1 (by omega))))) ?_
        refine Lex.q (v := .bool ((ix xs (k)) != (ix ys (k)))) rfl (OpQ.y (OpY.pure rfl)) ?_
        refine Lex.done ?_
        refine Run.cond (b := (ix xs (k)) != (ix ys (k))) rfl (fun h24 => ?_) (fun h24 => ?_)
        · have p24 := h24; try simp only [decide_eq_true_eq, decide_eq_false_iff_not, beq_iff_eq, bne_iff_ne, beq_eq_false_iff_ne, ne_eq, gt_iff_lt, ge_iff_le, Int.not_lt, Int.not_le, bne_eq_false_iff_eq, Bool.not_eq_true', Bool.not_eq_false', Bool.and_eq_true, Bool.and_eq_false_iff, Bool.or_eq_true, Bool.or_eq_false_iff, Decidable.not_not, List.cons.injEq, and_true] at p24
          have hres : decide (xs = ys) = false := ints_ne (k := k) (by omega)
          refine Run.seq ?_
          refine Run.region ?_
          refine Run.q (v := .bool false) rfl (OpQ.y (OpY.pure rfl)) ?_
          refine Run.done ?_
          refine Run.ret ?_
          refine ⟨.bool false, [], Out.one rfl rfl, (Some'.weak (.nil _)), ?_⟩
          show _ = _; rw [hres]
        · have p24 := h24; try simp only [decide_eq_true_eq, decide_eq_false_iff_not, beq_iff_eq, bne_iff_ne, beq_eq_false_iff_ne, ne_eq, gt_iff_lt, ge_iff_le, Int.not_lt, Int.not_le, bne_eq_false_iff_eq, Bool.not_eq_true', Bool.not_eq_false', Bool.and_eq_true, Bool.and_eq_false_iff, Bool.or_eq_true, Bool.or_eq_false_iff, Decidable.not_not, List.cons.injEq, and_true] at p24
          have hgood : decide (ix xs k = ix ys k) = true := by simp; omega
          refine Run.skip ?_
          refine Run.blockEnd ?_
          refine Run.region ?_
          refine Run.q (v := .int .i64 ((((k : Nat) : Int)) + 1)) rfl (OpQ.y (OpY.add rfl rfl rfl (by omega) (by omega))) ?_
          refine Run.q (v := .int .i64 ((((k : Nat) : Int)) + 1)) rfl (OpQ.y (OpY.pure rfl)) ?_
          refine Run.done ?_
          refine Run.goal ⟨(by repeat (first | exact Same.refl _ _ | refine Same.put rfl ?_ | refine Same.over rfl rfl ?_)), k + 1, ?_, ?_, ?_, ?_⟩
          · refine ⟨by omega, ?_⟩
            intro i hi
            rcases Nat.lt_succ_iff_lt_or_eq.1 hi with h | h
            · exact hinv.2 i h
            · rw [h]; exact hgood
          · omega
          · exact ⟨(by first | rfl | (congr 1; omega) | simp), trivial⟩
          · exact (Some'.weak (.nil _))
      · have p14 := h14; try simp only [decide_eq_true_eq, decide_eq_false_iff_not, beq_iff_eq, bne_iff_ne, beq_eq_false_iff_ne, ne_eq, gt_iff_lt, ge_iff_le, Int.not_lt, Int.not_le, bne_eq_false_iff_eq, Bool.not_eq_true', Bool.not_eq_false', Bool.and_eq_true, Bool.and_eq_false_iff, Bool.or_eq_true, Bool.or_eq_false_iff, Decidable.not_not, List.cons.injEq, and_true] at p14
        have hknk : k = n := by omega
        have hres : decide (xs = ys) = true := ints_eq (by omega) fun i hi => hinv.2 i (by omega)
        refine Run.exit rfl ?_
        refine Run.seq ?_
        refine Run.region ?_
        refine Run.q (v := .bool true) rfl (OpQ.y (OpY.pure rfl)) ?_
        refine Run.done ?_
        refine Run.ret ?_
        refine ⟨.bool true, [], Out.one rfl rfl, (Some'.weak (.nil _)), ?_⟩
        show _ = _; rw [hres]

set_option maxHeartbeats 1000000 in
set_option maxRecDepth 20000 in
theorem big_spec {va vb : Value} {n m : Nat} {cs ds : List Int} {w : World} (ha : Sl w va 1 n (u8s cs)) (hb : Sl w vb 1 m (u8s ds)) : Calls Try.prog 24 #[va, vb] w (Post No w fun v _ => v = .bool (bigB n m)) := by
  have hn := ha.le
  have hm := hb.le
  obtain ⟨A, c, rfl, _, _⟩ := ha.form0
  obtain ⟨B, d, rfl, _, _⟩ := hb.form0
  refine enter (n := 16) (args := [.slice A n c, .slice B m d]) Try.func24 rfl rfl (St.empty _ _) ?_
  refine Run.seq ?_
  refine Run.region ?_
  refine Run.q (v := .bool false) rfl (OpQ.y (OpY.pure rfl)) ?_
  refine Run.done ?_
  refine Run.seq ?_
  refine Run.region ?_
  refine Run.q (v := .slice A n c) rfl (OpQ.y (OpY.pure rfl)) ?_
  refine Run.q (v := .int .i64 (((n : Nat) : Int))) rfl (OpQ.y (OpY.len Tsl_22 rfl)) ?_
  refine Run.q (v := .bool (decide ((((n : Nat) : Int)) > 1048576))) rfl (OpQ.y (OpY.pure rfl)) ?_
  rcases Bool.eq_false_or_eq_true (decide ((((n : Nat) : Int)) > 1048576)) with h8 | h8
  · refine Run.q (v := .bool true) rfl (OpQ.y (OpY.moveB rfl h8)) ?_
    have p8 := h8; try simp only [decide_eq_true_eq, decide_eq_false_iff_not, beq_iff_eq, bne_iff_ne, beq_eq_false_iff_ne, ne_eq, gt_iff_lt, ge_iff_le, Int.not_lt, Int.not_le, bne_eq_false_iff_eq, Bool.not_eq_true', Bool.not_eq_false', Bool.and_eq_true, Bool.and_eq_false_iff, Bool.or_eq_true, Bool.or_eq_false_iff, Decidable.not_not, List.cons.injEq, and_true] at p8
    refine Run.pass rfl ?_
    refine Run.pass rfl ?_
    refine Run.pass rfl ?_
    refine Run.pass rfl ?_
    refine Run.pass rfl ?_
    refine Run.pass rfl ?_
    refine Run.q (v := .bool true) rfl (OpQ.y (OpY.pure rfl)) ?_
    refine Run.q (v := .bool true) rfl (OpQ.y (OpY.pure rfl)) ?_
    refine Run.done ?_
    refine Run.ret ?_
    refine ⟨.bool true, [], Out.one rfl rfl, (Some'.weak (.nil _)), ?_⟩
    show _ = _; rw [bigB, h8]; rfl
  · refine Run.q (v := .bool false) rfl (OpQ.y (OpY.moveB rfl h8)) ?_
    have p8 := h8; try simp only [decide_eq_true_eq, decide_eq_false_iff_not, beq_iff_eq, bne_iff_ne, beq_eq_false_iff_ne, ne_eq, gt_iff_lt, ge_iff_le, Int.not_lt, Int.not_le, bne_eq_false_iff_eq, Bool.not_eq_true', Bool.not_eq_false', Bool.and_eq_true, Bool.and_eq_false_iff, Bool.or_eq_true, Bool.or_eq_false_iff, Decidable.not_not, List.cons.injEq, and_true] at p8
    refine Run.q (v := .slice B m d) rfl (OpQ.y (OpY.pure rfl)) ?_
    refine Run.q (v := .int .i64 (((m : Nat) : Int))) rfl (OpQ.y (OpY.len Tsl_22 rfl)) ?_
    refine Run.q (v := .slice A n c) rfl (OpQ.y (OpY.pure rfl)) ?_
    refine Run.q (v := .int .i64 (((n : Nat) : Int))) rfl (OpQ.y (OpY.len Tsl_22 rfl)) ?_
    refine Run.q (v := .int .i64 (1048576 - (((n : Nat) : Int)))) rfl (OpQ.y (OpY.sub rfl rfl rfl (by omega) (by omega))) ?_
    refine Run.q (v := .bool (decide ((((m : Nat) : Int)) > (1048576 - (((n : Nat) : Int)))))) rfl (OpQ.y (OpY.pure rfl)) ?_
    refine Run.q (v := .bool (decide ((((m : Nat) : Int)) > (1048576 - (((n : Nat) : Int)))))) rfl (OpQ.y (OpY.pure rfl)) ?_
    refine Run.q (v := .bool (decide ((((m : Nat) : Int)) > (1048576 - (((n : Nat) : Int)))))) rfl (OpQ.y (OpY.pure rfl)) ?_
    refine Run.done ?_
    refine Run.ret ?_
    refine ⟨.bool (decide ((((m : Nat) : Int)) > (1048576 - (((n : Nat) : Int))))), [], Out.one rfl rfl, (Some'.weak (.nil _)), ?_⟩
    show _ = _; rw [bigB, h8]; rfl

set_option maxHeartbeats 1000000 in
set_option maxRecDepth 20000 in
theorem law_spec {va vb : Value} {n m0 : Nat} {cs ds : List Int} {w : World} (ha : Sl w va 1 n (u8s cs)) (hby : ∀ x ∈ cs, 0 ≤ x ∧ x < 256) (hb : Sl w vb 1 m0 (u8s ds)) (hbz : ∀ x ∈ ds, 0 ≤ x ∧ x < 256) : Calls Try.prog 5 #[va, vb] w (Post No w fun v _ => v = .bool true) := by
  obtain ⟨Ac, cc, rfl, hn0, _⟩ := ha.form0
  obtain ⟨Bc, dd, rfl, hm0, _⟩ := hb.form0
  refine enter (n := 197) (args := [.slice Ac n cc, .slice Bc m0 dd]) Try.func5 rfl rfl (St.empty _ _) ?_
  refine Run.seq ?_
  refine Run.region ?_
  refine Run.q (v := .bool false) rfl (OpQ.y (OpY.pure rfl)) ?_
  refine Run.done ?_
  refine Run.seq ?_
  refine Run.seq ?_
  refine Run.region ?_
  refine Run.q (v := .slice Ac n cc) rfl (OpQ.y (OpY.pure rfl)) ?_
  refine Run.q (v := .slice Bc m0 dd) rfl (OpQ.y (OpY.pure rfl)) ?_
  refine Run.q (v := .bool (bigB n m0)) rfl (OpQ.call (vs := [.slice Ac n cc, .slice Bc m0 dd]) (caps := []) Tcall_24 rfl rfl (fun w hs => big_spec (hs.sl ha) (hs.sl hb))) ?_
  refine Run.done ?_
  refine Run.cond (b := bigB n m0) rfl (fun h27 => ?_) (fun h27 => ?_)
  · have p27 := h27; try simp only [decide_eq_true_eq, decide_eq_false_iff_not, beq_iff_eq, bne_iff_ne, beq_eq_false_iff_ne, ne_eq, gt_iff_lt, ge_iff_le, Int.not_lt, Int.not_le, bne_eq_false_iff_eq, Bool.not_eq_true', Bool.not_eq_false', Bool.and_eq_true, Bool.and_eq_false_iff, Bool.or_eq_true, Bool.or_eq_false_iff, Decidable.not_not, List.cons.injEq, and_true] at p27
    refine Run.seq ?_
    refine Run.region ?_
    refine Run.q (v := .bool true) rfl (OpQ.y (OpY.pure rfl)) ?_
    refine Run.done ?_
    refine Run.ret ?_
    refine ⟨.bool true, [], Out.one rfl rfl, (Some'.weak (.nil _)), ?_⟩
    rfl
  · have p27 := h27; try simp only [decide_eq_true_eq, decide_eq_false_iff_not, beq_iff_eq, bne_iff_ne, beq_eq_false_iff_ne, ne_eq, gt_iff_lt, ge_iff_le, Int.not_lt, Int.not_le, bne_eq_false_iff_eq, Bool.not_eq_true', Bool.not_eq_false', Bool.and_eq_true, Bool.and_eq_false_iff, Bool.or_eq_true, Bool.or_eq_false_iff, Decidable.not_not, List.cons.injEq, and_true] at p27
    have hbg : bigB n m0 = false := by simpa using h27
    have hb2 := bigB_false hbg
    refine Run.skip ?_
    refine Run.seq ?_
    refine Run.region ?_
    refine Run.q (v := .slice Ac n cc) rfl (OpQ.y (OpY.pure rfl)) ?_
    refine Run.step rfl (OpStep.call (vs := [.slice Ac n cc]) (caps := []) Tcall_25 rfl rfl (fun w hs => DrawEliminateRows_spec (hs.sl ha) hby) ?_)
    rintro ur _ ⟨rs, hrl, hrb, rfl⟩
    show Run _ _ (putF _ _ _ ur) [.own ur 3 1 (rs.length) (ints rs)]
    refine Run.q (v := ur) rfl (OpQ.y (OpY.pure rfl)) ?_
    refine Run.done ?_
    refine Run.seq ?_
    refine Run.region ?_
    refine Run.q (v := ur) rfl (OpQ.y (OpY.pure rfl)) ?_
    refine Run.step rfl (OpStep.call (vs := [ur]) (caps := []) Tcall_26 rfl rfl (fun w hs => EliminateRows_spec (hs.slOwn (.head _))) ?_)
    rintro _ _ ⟨a1, b1, ⟨hla1, hlb1⟩, rfl, rfl⟩
    show Run _ _ (putF _ _ _ (.tuple #[a1, b1, .bool (rowsOk rs rs.length)])) [.own a1 3 1 ((elR rs.length rs).length) (ints (elR rs.length rs)), .own b1 50 3 ((elG rs.length rs).length) (ints (flCX (elG rs.length rs))), .own ur 3 1 (rs.length) (ints rs)]
    refine Run.q (v := .tuple #[a1, b1, .bool (rowsOk rs rs.length)]) rfl (OpQ.y (OpY.pure rfl)) ?_
    refine Run.q (v := a1) rfl (OpQ.y (OpY.pure rfl)) ?_
    refine Run.q (v := b1) rfl (OpQ.y (OpY.pure rfl)) ?_
    refine Run.q (v := .bool (rowsOk rs rs.length)) rfl (OpQ.y (OpY.pure rfl)) ?_
    refine Run.q (v := a1) rfl (OpQ.y (OpY.pure rfl)) ?_
    refine Run.q (v := b1) rfl (OpQ.y (OpY.pure rfl)) ?_
    refine Run.q (v := .bool (rowsOk rs rs.length)) rfl (OpQ.y (OpY.pure rfl)) ?_
    refine Run.done ?_
    refine Run.seq ?_
    refine Run.region ?_
    refine Run.q (v := ur) rfl (OpQ.y (OpY.pure rfl)) ?_
    refine Run.step rfl (OpStep.call (vs := [ur]) (caps := []) Tcall_27 rfl rfl (fun w hs => sEliminateRows_spec (hs.slOwn (.tail _ (.tail _ (List.Mem.head _))))) ?_)
    rintro _ _ ⟨a2, b2, ⟨hla2, hlb2⟩, rfl, rfl⟩
    show Run _ _ (putF _ _ _ (.tuple #[a2, b2, .bool (rowsOk rs rs.length)])) [.own a2 3 1 ((elR rs.length rs).length) (ints (elR rs.length rs)), .own b2 50 3 ((elG rs.length rs).length) (ints (flCX (elG rs.length rs))), .own a1 3 1 ((elR rs.length rs).length) (ints (elR rs.length rs)), .own b1 50 3 ((elG rs.length rs).length) (ints (flCX (elG rs.length rs))), .own ur 3 1 (rs.length) (ints rs)]
    refine Run.q (v := .tuple #[a2, b2, .bool (rowsOk rs rs.length)]) rfl (OpQ.y (OpY.pure rfl)) ?_
    refine Run.q (v := a2) rfl (OpQ.y (OpY.pure rfl)) ?_
    refine Run.q (v := b2) rfl (OpQ.y (OpY.pure rfl)) ?_
    refine Run.q (v := .bool (rowsOk rs rs.length)) rfl (OpQ.y (OpY.pure rfl)) ?_
    refine Run.q (v := a2) rfl (OpQ.y (OpY.pure rfl)) ?_
    refine Run.q (v := b2) rfl (OpQ.y (OpY.pure rfl)) ?_
    refine Run.q (v := .bool (rowsOk rs rs.length)) rfl (OpQ.y (OpY.pure rfl)) ?_
    refine Run.done ?_
    refine Run.seq ?_
    refine Run.seq ?_
    refine Run.region ?_
    refine Run.q (v := .bool (rowsOk rs rs.length)) rfl (OpQ.y (OpY.pure rfl)) ?_
    refine Run.q (v := .bool (rowsOk rs rs.length)) rfl (OpQ.y (OpY.pure rfl)) ?_
    refine Run.q (v := .bool false) rfl (OpQ.y (OpY.neqBSame Tbool_4 rfl rfl rfl)) ?_
    refine Run.q (v := .bool false) rfl (OpQ.y (OpY.pure rfl)) ?_
    refine Run.q (v := a1) rfl (OpQ.y (OpY.pure rfl)) ?_
    refine Run.q (v := a2) rfl (OpQ.y (OpY.pure rfl)) ?_
    refine Run.q (v := .bool true) rfl (OpQ.call (vs := [a1, a2]) (caps := []) Tcall_28 rfl rfl (fun w hs => (by have h := sameInts_spec (xs := (elR rs.length rs)) (ys := (elR rs.length rs)) (hs.slOwn (.tail _ (.tail _ (List.Mem.head _)))) (hs.slOwn (.head _)); rw [decide_eq_true rfl] at h; exact h))) ?_
    refine Run.q (v := .bool false) rfl (OpQ.y (OpY.pure rfl)) ?_
    refine Run.q (v := .bool false) rfl (OpQ.y (OpY.pure rfl)) ?_
    refine Run.q (v := .bool false) rfl (OpQ.y (OpY.pure rfl)) ?_
    refine Run.q (v := b1) rfl (OpQ.y (OpY.pure rfl)) ?_
    refine Run.formOwn (.tail _ (.tail _ (.tail _ (List.Mem.head _)))) (fun A_b11 c_b11 hv hcapc_b11 hmaxc_b11 => ?_) (fun _ _ _ => ⟨nofun, nofun, nofun⟩)
    subst hv
    refine Run.q (v := .int .i64 ((((elG rs.length rs).length : Nat) : Int))) rfl (OpQ.y (OpY.len Tsl_46 rfl)) ?_
    refine Run.q (v := b2) rfl (OpQ.y (OpY.pure rfl)) ?_
    refine Run.formOwn (.tail _ (List.Mem.head _)) (fun A_b21 c_b21 hv hcapc_b21 hmaxc_b21 => ?_) (fun _ _ _ => ⟨nofun, nofun, nofun⟩)
    subst hv
    refine Run.q (v := .int .i64 ((((elG rs.length rs).length : Nat) : Int))) rfl (OpQ.y (OpY.len Tsl_46 rfl)) ?_
    refine Run.q (v := .bool false) rfl (OpQ.y (OpY.neqSame rfl rfl rfl)) ?_
    refine Run.q (v := .bool false) rfl (OpQ.y (OpY.pure rfl)) ?_
    refine Run.done ?_
    refine Run.cond (b := false) rfl (fun h => nomatch h) (fun _ => ?_)
    refine Run.skip ?_
    refine Run.seq ?_
    refine Run.seq ?_
    refine Run.region ?_
    refine Run.q (v := .bool (rowsOk rs rs.length)) rfl (OpQ.y (OpY.pure rfl)) ?_
    refine Run.done ?_
    refine Run.cut (ι := Nat) ([4, 12, 14, 59, 60, 61, 62, 63, 64, 65, 66, 67, 68, 69, 70, 71, 72, 73, 74, 75, 76, 77, 78, 79, 80, 81, 82, 83, 84, 85, 86, 87, 88, 89, 90, 91, 92, 93, 94, 95, 96, 97, 98, 99, 100, 101, 102, 103, 104, 105] ++ [106, 107, 108, 109, 110, 111, 112, 113]) (fun t9 => []) (fun t9 => [.own a2 3 1 ((elR rs.length rs).length) (ints (elR rs.length rs)), .own (.slice A_b21 ((elG rs.length rs).length) c_b21) 50 3 ((elG rs.length rs).length) (ints (flCX (elG rs.length rs))), .own a1 3 1 ((elR rs.length rs).length) (ints (elR rs.length rs)), .own (.slice A_b11 ((elG rs.length rs).length) c_b11) 50 3 ((elG rs.length rs).length) (ints (flCX (elG rs.length rs))), .own ur 3 1 (rs.length) (ints rs)]) (fun t9 => True) ?_ ?_
    · refine Run.cond (b := rowsOk rs rs.length) rfl (fun h58 => ?_) (fun h58 => ?_)
      · have p58 := h58; try simp only [decide_eq_true_eq, decide_eq_false_iff_not, beq_iff_eq, bne_iff_ne, beq_eq_false_iff_ne, ne_eq, gt_iff_lt, ge_iff_le, Int.not_lt, Int.not_le, bne_eq_false_iff_eq, Bool.not_eq_true', Bool.not_eq_false', Bool.and_eq_true, Bool.and_eq_false_iff, Bool.or_eq_true, Bool.or_eq_false_iff, Decidable.not_not, List.cons.injEq, and_true] at p58
        have hok : rowsOk rs rs.length = true := by simpa using h58
        have hrp := elR_rp hok
        refine Run.seq ?_
        refine Run.region ?_
        refine Run.step rfl (OpStep.buildSlice (us := []) Tsl_34 (by decide) (by decide) rfl rfl fun b1 => ?_)
        refine Run.q (v := ur) rfl (OpQ.y (OpY.pure rfl)) ?_
        refine Run.step rfl (OpStep.append (H1 := []) (H2 := [.own a2 3 1 ((elR rs.length rs).length) (ints (elR rs.length rs)), .own (.slice A_b21 ((elG rs.length rs).length) c_b21) 50 3 ((elG rs.length rs).length) (ints (flCX (elG rs.length rs))), .own a1 3 1 ((elR rs.length rs).length) (ints (elR rs.length rs)), .own (.slice A_b11 ((elG rs.length rs).length) c_b11) 50 3 ((elG rs.length rs).length) (ints (flCX (elG rs.length rs))), .own ur 3 1 (rs.length) (ints rs)]) (v := .slice (some ⟨b1, 0, none⟩) 0 0) (u := ur) (n := 0) (m := rs.length) (xs := []) (ys := ints rs) Tsl_34 (by decide) rfl rfl rfl rfl (fun w hs => hs.slOwn (.tail _ (.tail _ (.tail _ (.tail _ (.tail _ (List.Mem.head _))))))) (by exact ints_all _) (by omega) (by simp only [maxLen]; omega) fun av1 hnav1 => ?_)
        refine Run.weak (H' := [.own av1 3 1 (rs.length) (ints rs), .own a2 3 1 ((elR rs.length rs).length) (ints (elR rs.length rs)), .own (.slice A_b21 ((elG rs.length rs).length) c_b21) 50 3 ((elG rs.length rs).length) (ints (flCX (elG rs.length rs))), .own a1 3 1 ((elR rs.length rs).length) (ints (elR rs.length rs)), .own (.slice A_b11 ((elG rs.length rs).length) c_b11) 50 3 ((elG rs.length rs).length) (ints (flCX (elG rs.length rs))), .own ur 3 1 (rs.length) (ints rs)]) (Some'.weak (.takeEq (by simp) (.take (.take (.take (.take (.take (.nil _)))))))) ?_ ⟨_, _, rfl, fun _ => nofun, fun _ => nofun⟩
        refine Run.q (v := av1) rfl (OpQ.y (OpY.pure rfl)) ?_
        refine Run.done ?_
        refine Run.seq ?_
        refine Run.seq ?_
        refine Run.region ?_
        refine Run.q (v := .slice A_b11 ((elG rs.length rs).length) c_b11) rfl (OpQ.y (OpY.pure rfl)) ?_
        refine Run.q (v := .int .i64 ((((elG rs.length rs).length : Nat) : Int))) rfl (OpQ.y (OpY.len Tsl_46 rfl)) ?_
        refine Run.q (v := .int .i64 0) rfl (OpQ.y (OpY.pure rfl)) ?_
        refine Run.done ?_
        refine Run.block ?_
        refine Run.loop (ι := Nat) [4, 14, 64, 65, 66, 67, 68, 69, 70, 71, 72, 73, 74, 75, 76, 77, 78, 79, 80, 81, 82, 83, 84, 85, 86, 87, 88, 89, 90, 91, 92, 93, 94, 95, 96, 97, 98, 99, 100, 101, 102, 103, 104, 105, 106, 107, 108, 109] (fun k => [(64, .int .i64 (((k : Nat) : Int)))]) (fun k => [.own av1 3 1 (rs.length) (ints (rpR rs ((elG rs.length rs).take k))), .own a2 3 1 ((elR rs.length rs).length) (ints (elR rs.length rs)), .own (.slice A_b21 ((elG rs.length rs).length) c_b21) 50 3 ((elG rs.length rs).length) (ints (flCX (elG rs.length rs))), .own a1 3 1 ((elR rs.length rs).length) (ints (elR rs.length rs)), .own (.slice A_b11 ((elG rs.length rs).length) c_b11) 50 3 ((elG rs.length rs).length) (ints (flCX (elG rs.length rs))), .own ur 3 1 (rs.length) (ints rs)]) (fun k => k ≤ (elG rs.length rs).length) (fun k => (elG rs.length rs).length - k) 0 ?_ ?_ ?_ ?_
        · exact Nat.zero_le _
        · exact ⟨rfl, trivial⟩
        · exact (Some'.weak (.takeEq (by first | rfl | (rw [take_gx hlt, rpR_snoc', hgi.2.1, hgi.2.2]; simp) | (rw [take_gx hlt, rpR_snoc']) | simp [rpR]) (.take (.take (.take (.take (.take (.nil _))))))))
        · rintro k fr hinv
          show Run _ _ (over _ _ [(64, .int .i64 (((k : Nat) : Int)))] fr) [.own av1 3 1 (rs.length) (ints (rpR rs ((elG rs.length rs).take k))), .own a2 3 1 ((elR rs.length rs).length) (ints (elR rs.length rs)), .own (.slice A_b21 ((elG rs.length rs).length) c_b21) 50 3 ((elG rs.length rs).length) (ints (flCX (elG rs.length rs))), .own a1 3 1 ((elR rs.length rs).length) (ints (elR rs.length rs)), .own (.slice A_b11 ((elG rs.length rs).length) c_b11) 50 3 ((elG rs.length rs).length) (ints (flCX (elG rs.length rs))), .own ur 3 1 (rs.length) (ints rs)]
          try dsimp only at hinv
          refine Run.seq ?_
          refine Run.region ?_
          refine Run.q (v := .bool (decide ((((k : Nat) : Int)) < ((((elG rs.length rs).length : Nat) : Int))))) rfl (OpQ.y (OpY.pure rfl)) ?_
          refine Run.done ?_
          refine Run.seq ?_
          refine Run.cond (b := decide ((((k : Nat) : Int)) < ((((elG rs.length rs).length : Nat) : Int)))) rfl (fun h65 => ?_) (fun h65 => ?_)
          · have p65 := h65; try simp only [decide_eq_true_eq, decide_eq_false_iff_not, beq_iff_eq, bne_iff_ne, beq_eq_false_iff_ne, ne_eq, gt_iff_lt, ge_iff_le, Int.not_lt, Int.not_le, bne_eq_false_iff_eq, Bool.not_eq_true', Bool.not_eq_false', Bool.and_eq_true, Bool.and_eq_false_iff, Bool.or_eq_true, Bool.or_eq_false_iff, Decidable.not_not, List.cons.injEq, and_true] at p65
            have hlt : k < (elG rs.length rs).length := by omega
            have hgi := flCX_ix hlt
            have hfl := flCX_length (elG rs.length rs)
            have hgm := hrp.2 _ (gx_mem hlt)
            have hxl : (rpR rs ((elG rs.length rs).take k)).length = rs.length := by simp
            refine Run.openOwn (.tail _ (.tail _ (.tail _ (.tail _ (List.Mem.head _))))) (by omega) (fun gg cg hvgg hcapgg _ => ?_) (fun _ _ _ => ⟨nofun, nofun, nofun⟩)
            injection hvgg with hAgg _ hcgg; subst hAgg; subst hcgg
            refine Run.openOwn (.head _) (by omega) (fun gr cr hvgr hcapgr _ => ?_) (fun _ _ _ => ⟨nofun, nofun, nofun⟩)
            subst hvgr
            refine Run.skip ?_
            refine Run.seq ?_
            refine Run.block ?_
            refine Run.seq ?_
            refine Run.region ?_
            refine Run.q (v := .pointer (some ⟨gg, k * 3, none⟩)) rfl (OpQ.y (OpY.index (kk := k) Tsl_46 rfl rfl (by omega) (by omega) (by first | rfl | omega))) ?_
            refine Run.q (v := .agg #[.int .i64 (ix (flCX (elG rs.length rs)) (k * 3)), .int .i64 (ix (flCX (elG rs.length rs)) (k * 3 + 1)), .int .i64 (ix (flCX (elG rs.length rs)) (k * 3 + 2))]) rfl (OpQ.y (OpY.loadN (cs := [.int .i64 (ix (flCX (elG rs.length rs)) (k * 3)), .int .i64 (ix (flCX (elG rs.length rs)) (k * 3 + 1)), .int .i64 (ix (flCX (elG rs.length rs)) (k * 3 + 2))]) Tagg_50 rfl (Cells.own0 (.tail _ (.tail _ (.tail _ (.tail _ (List.Mem.head _))))) (pre3 (by omega))))) ?_
            refine Run.step rfl (OpStep.alloc (zs := [.int .i64 0, .int .i64 0, .int .i64 0]) Tzero_50 fun b2 => ?_)
            refine Run.step rfl (OpStep.storeAll (us := [.int .i64 (ix (flCX (elG rs.length rs)) (k * 3)), .int .i64 (ix (flCX (elG rs.length rs)) (k * 3 + 1)), .int .i64 (ix (flCX (elG rs.length rs)) (k * 3 + 2))]) Tsize_50 rfl rfl rfl (.here _) rfl ?_)
            refine Run.done ?_
            refine Run.seq ?_
            refine Run.seq ?_
            refine Run.region ?_
            refine Run.q (v := .pointer (some ⟨b2, 1, none⟩)) rfl (OpQ.y (OpY.fieldAddr Tfo_50_1 rfl rfl)) ?_
            refine Run.q (v := .int .i64 (ix (flCX (elG rs.length rs)) (k * 3 + 1))) rfl (OpQ.y (OpY.load1 Tone_3 rfl (Cells.blk (.head _) ⟨rfl, trivial⟩))) ?_
            refine Run.q (v := .bool (decide ((ix (flCX (elG rs.length rs)) (k * 3 + 1)) < 0))) rfl (OpQ.y (OpY.pure rfl)) ?_
            rcases Bool.eq_false_or_eq_true (decide ((ix (flCX (elG rs.length rs)) (k * 3 + 1)) < 0)) with h71 | h71
            · refine Run.q (v := .bool true) rfl (OpQ.y (OpY.moveB rfl h71)) ?_
              have p71 := h71; try simp only [decide_eq_true_eq, decide_eq_false_iff_not, beq_iff_eq, bne_iff_ne, beq_eq_false_iff_ne, ne_eq, gt_iff_lt, ge_iff_le, Int.not_lt, Int.not_le, bne_eq_false_iff_eq, Bool.not_eq_true', Bool.not_eq_false', Bool.and_eq_true, Bool.and_eq_false_iff, Bool.or_eq_true, Bool.or_eq_false_iff, Decidable.not_not, List.cons.injEq, and_true] at p71
              exact absurd h71 (by simp <;> omega) --DONE
            · refine Run.q (v := .bool false) rfl (OpQ.y (OpY.moveB rfl h71)) ?_
              have p71 := h71; try simp only [decide_eq_true_eq, decide_eq_false_iff_not, beq_iff_eq, bne_iff_ne, beq_eq_false_iff_ne, ne_eq, gt_iff_lt, ge_iff_le, Int.not_lt, Int.not_le, bne_eq_false_iff_eq, Bool.not_eq_true', Bool.not_eq_false', Bool.and_eq_true, Bool.and_eq_false_iff, Bool.or_eq_true, Bool.or_eq_false_iff, Decidable.not_not, List.cons.injEq, and_true] at p71
              refine Run.q (v := .pointer (some ⟨b2, 1, none⟩)) rfl (OpQ.y (OpY.fieldAddr Tfo_50_1 rfl rfl)) ?_
              refine Run.q (v := .int .i64 (ix (flCX (elG rs.length rs)) (k * 3 + 1))) rfl (OpQ.y (OpY.load1 Tone_3 rfl (Cells.blk (.head _) ⟨rfl, trivial⟩))) ?_
              refine Run.q (v := .slice (some ⟨gr, 0, none⟩) (rs.length) cr) rfl (OpQ.y (OpY.pure rfl)) ?_
              refine Run.q (v := .int .i64 (((rs.length : Nat) : Int))) rfl (OpQ.y (OpY.len Tsl_34 rfl)) ?_
              refine Run.q (v := .bool (decide ((ix (flCX (elG rs.length rs)) (k * 3 + 1)) ≥ (((rs.length : Nat) : Int))))) rfl (OpQ.y (OpY.pure rfl)) ?_
              refine Run.q (v := .bool (decide ((ix (flCX (elG rs.length rs)) (k * 3 + 1)) ≥ (((rs.length : Nat) : Int))))) rfl (OpQ.y (OpY.pure rfl)) ?_
              rcases Bool.eq_false_or_eq_true (decide ((ix (flCX (elG rs.length rs)) (k * 3 + 1)) ≥ (((rs.length : Nat) : Int)))) with h78 | h78
              · refine Run.q (v := .bool true) rfl (OpQ.y (OpY.moveB rfl h78)) ?_
                have p78 := h78; try simp only [decide_eq_true_eq, decide_eq_false_iff_not, beq_iff_eq, bne_iff_ne, beq_eq_false_iff_ne, ne_eq, gt_iff_lt, ge_iff_le, Int.not_lt, Int.not_le, bne_eq_false_iff_eq, Bool.not_eq_true', Bool.not_eq_false', Bool.and_eq_true, Bool.and_eq_false_iff, Bool.or_eq_true, Bool.or_eq_false_iff, Decidable.not_not, List.cons.injEq, and_true] at p78
                exact absurd h78 (by simp <;> omega) --DONE
              · refine Run.q (v := .bool false) rfl (OpQ.y (OpY.moveB rfl h78)) ?_
                have p78 := h78; try simp only [decide_eq_true_eq, decide_eq_false_iff_not, beq_iff_eq, bne_iff_ne, beq_eq_false_iff_ne, ne_eq, gt_iff_lt, ge_iff_le, Int.not_lt, Int.not_le, bne_eq_false_iff_eq, Bool.not_eq_true', Bool.not_eq_false', Bool.and_eq_true, Bool.and_eq_false_iff, Bool.or_eq_true, Bool.or_eq_false_iff, Decidable.not_not, List.cons.injEq, and_true] at p78
                refine Run.q (v := .pointer (some ⟨b2, 2, none⟩)) rfl (OpQ.y (OpY.fieldAddr Tfo_50_2 rfl rfl)) ?_
                refine Run.q (v := .int .i64 (ix (flCX (elG rs.length rs)) (k * 3 + 2))) rfl (OpQ.y (OpY.load1 Tone_3 rfl (Cells.blk (.head _) ⟨rfl, trivial⟩))) ?_
                refine Run.q (v := .bool (decide ((ix (flCX (elG rs.length rs)) (k * 3 + 2)) < 0))) rfl (OpQ.y (OpY.pure rfl)) ?_
                refine Run.q (v := .bool (decide ((ix (flCX (elG rs.length rs)) (k * 3 + 2)) < 0))) rfl (OpQ.y (OpY.pure rfl)) ?_
                rcases Bool.eq_false_or_eq_true (decide ((ix (flCX (elG rs.length rs)) (k * 3 + 2)) < 0)) with h83 | h83
                · refine Run.q (v := .bool true) rfl (OpQ.y (OpY.moveB rfl h83)) ?_
                  have p83 := h83; try simp only [decide_eq_true_eq, decide_eq_false_iff_not, beq_iff_eq, bne_iff_ne, beq_eq_false_iff_ne, ne_eq, gt_iff_lt, ge_iff_le, Int.not_lt, Int.not_le, bne_eq_false_iff_eq, Bool.not_eq_true', Bool.not_eq_false', Bool.and_eq_true, Bool.and_eq_false_iff, Bool.or_eq_true, Bool.or_eq_false_iff, Decidable.not_not, List.cons.injEq, and_true] at p83
                  exact absurd h83 (by simp <;> omega) --DONE
                · refine Run.q (v := .bool false) rfl (OpQ.y (OpY.moveB rfl h83)) ?_
                  have p83 := h83; try simp only [decide_eq_true_eq, decide_eq_false_iff_not, beq_iff_eq, bne_iff_ne, beq_eq_false_iff_ne, ne_eq, gt_iff_lt, ge_iff_le, Int.not_lt, Int.not_le, bne_eq_false_iff_eq, Bool.not_eq_true', Bool.not_eq_false', Bool.and_eq_true, Bool.and_eq_false_iff, Bool.or_eq_true, Bool.or_eq_false_iff, Decidable.not_not, List.cons.injEq, and_true] at p83
                  refine Run.q (v := .pointer (some ⟨b2, 2, none⟩)) rfl (OpQ.y (OpY.fieldAddr Tfo_50_2 rfl rfl)) ?_
                  refine Run.q (v := .int .i64 (ix (flCX (elG rs.length rs)) (k * 3 + 2))) rfl (OpQ.y (OpY.load1 Tone_3 rfl (Cells.blk (.head _) ⟨rfl, trivial⟩))) ?_
                  refine Run.q (v := .slice (some ⟨gr, 0, none⟩) (rs.length) cr) rfl (OpQ.y (OpY.pure rfl)) ?_
                  refine Run.q (v := .int .i64 (((rs.length : Nat) : Int))) rfl (OpQ.y (OpY.len Tsl_34 rfl)) ?_
                  refine Run.q (v := .bool (decide ((ix (flCX (elG rs.length rs)) (k * 3 + 2)) ≥ (((rs.length : Nat) : Int))))) rfl (OpQ.y (OpY.pure rfl)) ?_
                  refine Run.q (v := .bool (decide ((ix (flCX (elG rs.length rs)) (k * 3 + 2)) ≥ (((rs.length : Nat) : Int))))) rfl (OpQ.y (OpY.pure rfl)) ?_
                  rcases Bool.eq_false_or_eq_true (decide ((ix (flCX (elG rs.length rs)) (k * 3 + 2)) ≥ (((rs.length : Nat) : Int)))) with h90 | h90
                  · refine Run.q (v := .bool true) rfl (OpQ.y (OpY.moveB rfl h90)) ?_
                    have p90 := h90; try simp only [decide_eq_true_eq, decide_eq_false_iff_not, beq_iff_eq, bne_iff_ne, beq_eq_false_iff_ne, ne_eq, gt_iff_lt, ge_iff_le, Int.not_lt, Int.not_le, bne_eq_false_iff_eq, Bool.not_eq_true', Bool.not_eq_false', Bool.and_eq_true, Bool.and_eq_false_iff, Bool.or_eq_true, Bool.or_eq_false_iff, Decidable.not_not, List.cons.injEq, and_true] at p90
                    exact absurd h90 (by simp <;> omega) --DONE
                  · refine Run.q (v := .bool false) rfl (OpQ.y (OpY.moveB rfl h90)) ?_
                    have p90 := h90; try simp only [decide_eq_true_eq, decide_eq_false_iff_not, beq_iff_eq, bne_iff_ne, beq_eq_false_iff_ne, ne_eq, gt_iff_lt, ge_iff_le, Int.not_lt, Int.not_le, bne_eq_false_iff_eq, Bool.not_eq_true', Bool.not_eq_false', Bool.and_eq_true, Bool.and_eq_false_iff, Bool.or_eq_true, Bool.or_eq_false_iff, Decidable.not_not, List.cons.injEq, and_true] at p90
                    refine Run.q (v := .pointer (some ⟨b2, 1, none⟩)) rfl (OpQ.y (OpY.fieldAddr Tfo_50_1 rfl rfl)) ?_
                    refine Run.q (v := .int .i64 (ix (flCX (elG rs.length rs)) (k * 3 + 1))) rfl (OpQ.y (OpY.load1 Tone_3 rfl (Cells.blk (.head _) ⟨rfl, trivial⟩))) ?_
                    refine Run.q (v := .pointer (some ⟨b2, 2, none⟩)) rfl (OpQ.y (OpY.fieldAddr Tfo_50_2 rfl rfl)) ?_
                    refine Run.q (v := .int .i64 (ix (flCX (elG rs.length rs)) (k * 3 + 2))) rfl (OpQ.y (OpY.load1 Tone_3 rfl (Cells.blk (.head _) ⟨rfl, trivial⟩))) ?_
                    refine Run.q (v := .bool ((ix (flCX (elG rs.length rs)) (k * 3 + 1)) == (ix (flCX (elG rs.length rs)) (k * 3 + 2)))) rfl (OpQ.y (OpY.pure rfl)) ?_
                    refine Run.q (v := .bool ((ix (flCX (elG rs.length rs)) (k * 3 + 1)) == (ix (flCX (elG rs.length rs)) (k * 3 + 2)))) rfl (OpQ.y (OpY.pure rfl)) ?_
                    refine Run.done ?_
                    refine Run.cond (b := (ix (flCX (elG rs.length rs)) (k * 3 + 1)) == (ix (flCX (elG rs.length rs)) (k * 3 + 2))) rfl (fun h96 => ?_) (fun h96 => ?_)
                    · exact absurd h96 (by simp <;> omega) --DONE
                    · have p96 := h96; try simp only [decide_eq_true_eq, decide_eq_false_iff_not, beq_iff_eq, bne_iff_ne, beq_eq_false_iff_ne, ne_eq, gt_iff_lt, ge_iff_le, Int.not_lt, Int.not_le, bne_eq_false_iff_eq, Bool.not_eq_true', Bool.not_eq_false', Bool.and_eq_true, Bool.and_eq_false_iff, Bool.or_eq_true, Bool.or_eq_false_iff, Decidable.not_not, List.cons.injEq, and_true] at p96
                      refine Run.skip ?_
                      refine Run.lastly [12] (by kernel_rfl) ?_
                      refine DL.takeP (i := 0) (v := .slice (some ⟨gr, 0, none⟩) (rs.length) cr) rfl (by kernel_rfl) (by kernel_rfl) (by kernel_rfl) (fun _ _ _ h => h) rfl (fun _ => OpY.pure rfl) ?_
                      refine DL.takeP (i := 1) (v := .pointer (some ⟨b2, 1, none⟩)) rfl (by kernel_rfl) (by kernel_rfl) (by kernel_rfl) (fun _ _ _ h => h) rfl (fun _ => OpY.fieldAddr Tfo_50_1 rfl rfl) ?_
                      refine DL.take (i := 2) (v := .int .i64 (ix (flCX (elG rs.length rs)) (k * 3 + 1))) rfl (by kernel_rfl) (by kernel_rfl) (by kernel_rfl) (by kernel_rfl) (fun _ _ _ h => h) (Some'.weak (.take (.take (.take (.take (.take (.take (.take (.nil _))))))))) rfl (OpY.load1 Tone_3 rfl (Cells.blk (.head _) ⟨rfl, trivial⟩)) ?_
                      refine DL.takeP (i := 3) (v := .pointer (some ⟨gr, (gx (elG rs.length rs) k).1, none⟩)) rfl (by kernel_rfl) (by kernel_rfl) (by kernel_rfl) (fun _ _ _ h => h) rfl (fun _ => OpY.index (kk := (gx (elG rs.length rs) k).1) Tsl_34 rfl rfl (by omega) (by omega) (by first | rfl | omega)) ?_
                      refine DL.take (i := 4) (v := .int .i64 (ix (rpR rs ((elG rs.length rs).take k)) ((gx (elG rs.length rs) k).1))) rfl (by kernel_rfl) (by kernel_rfl) (by kernel_rfl) (by kernel_rfl) (fun _ _ _ h => h) (Some'.weak (.take (.take (.take (.take (.take (.take (.take (.nil _))))))))) rfl (OpY.load1 Tone_3 rfl (Cells.own0 (.tail _ (List.Mem.head _)) (pre1 (by omega)))) ?_
                      refine DL.takeP (i := 5) (v := .slice (some ⟨gr, 0, none⟩) (rs.length) cr) rfl (by kernel_rfl) (by kernel_rfl) (by kernel_rfl) (fun _ _ _ h => h) rfl (fun _ => OpY.pure rfl) ?_
                      refine DL.takeP (i := 6) (v := .pointer (some ⟨b2, 2, none⟩)) rfl (by kernel_rfl) (by kernel_rfl) (by kernel_rfl) (fun _ _ _ h => h) rfl (fun _ => OpY.fieldAddr Tfo_50_2 rfl rfl) ?_
                      refine DL.take (i := 7) (v := .int .i64 (ix (flCX (elG rs.length rs)) (k * 3 + 2))) rfl (by kernel_rfl) (by kernel_rfl) (by kernel_rfl) (by kernel_rfl) (fun _ _ _ h => h) (Some'.weak (.take (.take (.take (.take (.take (.take (.take (.nil _))))))))) rfl (OpY.load1 Tone_3 rfl (Cells.blk (.head _) ⟨rfl, trivial⟩)) ?_
                      refine DL.takeP (i := 8) (v := .pointer (some ⟨gr, (gx (elG rs.length rs) k).2, none⟩)) rfl (by kernel_rfl) (by kernel_rfl) (by kernel_rfl) (fun _ _ _ h => h) rfl (fun _ => OpY.index (kk := (gx (elG rs.length rs) k).2) Tsl_34 rfl rfl (by omega) (by omega) (by first | rfl | omega)) ?_
                      refine DL.take (i := 9) (v := .int .i64 (ix (rpR rs ((elG rs.length rs).take k)) ((gx (elG rs.length rs) k).2))) rfl (by kernel_rfl) (by kernel_rfl) (by kernel_rfl) (by kernel_rfl) (fun _ _ _ h => h) (Some'.weak (.take (.take (.take (.take (.take (.take (.take (.nil _))))))))) rfl (OpY.load1 Tone_3 rfl (Cells.own0 (.tail _ (List.Mem.head _)) (pre1 (by omega)))) ?_
                      refine DL.takeP (i := 10) (v := .int .i64 (bits .xor .i64 (ix (rpR rs ((elG rs.length rs).take k)) ((gx (elG rs.length rs) k).1)) (ix (rpR rs ((elG rs.length rs).take k)) ((gx (elG rs.length rs) k).2)))) rfl (by kernel_rfl) (by kernel_rfl) (by kernel_rfl) (fun _ _ _ h => h) rfl (fun _ => OpY.xor rfl rfl) ?_
                      refine DL.takeP (i := 11) (v := .pointer (some ⟨gr, (gx (elG rs.length rs) k).1, none⟩)) rfl (by kernel_rfl) (by kernel_rfl) (by kernel_rfl) (fun _ _ _ h => h) rfl (fun _ => OpY.index (kk := (gx (elG rs.length rs) k).1) Tsl_34 rfl rfl (by omega) (by omega) (by first | rfl | omega)) ?_
                      refine DL.step (i := 12) (by kernel_rfl) (by kernel_rfl) rfl rfl (OpStep.storeOwnInt (o := (gx (elG rs.length rs) k).1) (a := bits .xor .i64 (ix (rpR rs ((elG rs.length rs).take k)) ((gx (elG rs.length rs) k).1)) (ix (rpR rs ((elG rs.length rs).take k)) ((gx (elG rs.length rs) k).2))) Tsize_3 rfl rfl (.there _ (.here _)) (by omega) ?_)
                      refine DL.done (by kernel_rfl) ?_
                      refine Run.blockEnd ?_
                      refine Run.region ?_
                      refine Run.q (v := .int .i64 ((((k : Nat) : Int)) + 1)) rfl (OpQ.y (OpY.add rfl rfl rfl (by omega) (by omega))) ?_
                      refine Run.q (v := .int .i64 ((((k : Nat) : Int)) + 1)) rfl (OpQ.y (OpY.pure rfl)) ?_
                      refine Run.done ?_
                      refine Run.goal ⟨(by repeat (first | exact Same.refl _ _ | refine Same.put rfl ?_ | refine Same.over rfl rfl ?_)), k + 1, ?_, ?_, ?_, ?_⟩
                      · omega
                      · omega
                      · exact ⟨(by first | rfl | (congr 1; omega) | simp), trivial⟩
                      · exact (Some'.weak (.skip (.takeEq (by first | rfl | (rw [take_gx hlt, rpR_snoc', hgi.2.1, hgi.2.2]; simp) | (rw [take_gx hlt, rpR_snoc']) | simp [rpR]) (.takeEq (by first | rfl | (rw [take_gx hlt, rpR_snoc', hgi.2.1, hgi.2.2]; simp) | (rw [take_gx hlt, rpR_snoc']) | simp [rpR]) (.takeEq (by first | rfl | (rw [take_gx hlt, rpR_snoc', hgi.2.1, hgi.2.2]; simp) | (rw [take_gx hlt, rpR_snoc']) | simp [rpR]) (.takeEq (by first | rfl | (rw [take_gx hlt, rpR_snoc', hgi.2.1, hgi.2.2]; simp) | (rw [take_gx hlt, rpR_snoc']) | simp [rpR]) (.takeEq (by first | rfl | (rw [take_gx hlt, rpR_snoc', hgi.2.1, hgi.2.2]; simp) | (rw [take_gx hlt, rpR_snoc']) | simp [rpR]) (.takeEq (by first | rfl | (rw [take_gx hlt, rpR_snoc', hgi.2.1, hgi.2.2]; simp) | (rw [take_gx hlt, rpR_snoc']) | simp [rpR]) (.nil _)))))))))
          · have p65 := h65; try simp only [decide_eq_true_eq, decide_eq_false_iff_not, beq_iff_eq, bne_iff_ne, beq_eq_false_iff_ne, ne_eq, gt_iff_lt, ge_iff_le, Int.not_lt, Int.not_le, bne_eq_false_iff_eq, Bool.not_eq_true', Bool.not_eq_false', Bool.and_eq_true, Bool.and_eq_false_iff, Bool.or_eq_true, Bool.or_eq_false_iff, Decidable.not_not, List.cons.injEq, and_true] at p65
            have hkG : k = (elG rs.length rs).length := by omega
            have heq1 : rpR rs ((elG rs.length rs).take k) = elR rs.length rs := by rw [hkG, List.take_length]; exact hrp.1.symm
            refine Run.exit rfl ?_
            refine Run.seq ?_
            refine Run.region ?_
            refine Run.q (v := av1) rfl (OpQ.y (OpY.pure rfl)) ?_
            refine Run.q (v := a2) rfl (OpQ.y (OpY.pure rfl)) ?_
            refine Run.q (v := .bool true) rfl (OpQ.call (vs := [av1, a2]) (caps := []) Tcall_28 rfl rfl (fun w hs => (by have h := sameInts_spec (xs := (rpR rs ((elG rs.length rs).take k))) (ys := (elR rs.length rs)) (hs.slOwn (.head _)) (hs.slOwn (.tail _ (List.Mem.head _))); rw [decide_eq_true heq1] at h; exact h))) ?_
            refine Run.q (v := .bool false) rfl (OpQ.y (OpY.pure rfl)) ?_
            refine Run.done ?_
            refine Run.cond (b := false) rfl (fun h => nomatch h) (fun _ => ?_)
            refine Run.skip ?_
            refine Run.goal ⟨(by repeat (first | exact Same.refl _ _ | refine Same.put rfl ?_ | refine Same.over rfl rfl ?_)), 0, ?_, ?_, ?_⟩
            · trivial
            · exact trivial
            · exact (Some'.weak (.skip (.takeEq (by first | rfl | simp) (.takeEq (by first | rfl | simp) (.takeEq (by first | rfl | simp) (.takeEq (by first | rfl | simp) (.takeEq (by first | rfl | simp) (.nil _))))))))
      · have p58 := h58; try simp only [decide_eq_true_eq, decide_eq_false_iff_not, beq_iff_eq, bne_iff_ne, beq_eq_false_iff_ne, ne_eq, gt_iff_lt, ge_iff_le, Int.not_lt, Int.not_le, bne_eq_false_iff_eq, Bool.not_eq_true', Bool.not_eq_false', Bool.and_eq_true, Bool.and_eq_false_iff, Bool.or_eq_true, Bool.or_eq_false_iff, Decidable.not_not, List.cons.injEq, and_true] at p58
        refine Run.skip ?_
        refine Run.goal ⟨(by repeat (first | exact Same.refl _ _ | refine Same.put rfl ?_ | refine Same.over rfl rfl ?_)), 0, ?_, ?_, ?_⟩
        · trivial
        · exact trivial
        · exact (Some'.weak (.takeEq (by first | rfl | simp) (.takeEq (by first | rfl | simp) (.takeEq (by first | rfl | simp) (.takeEq (by first | rfl | simp) (.takeEq (by first | rfl | simp) (.nil _)))))))
    · rintro t9 fr hcut
      show Run _ _ (over _ _ [] fr) [.own a2 3 1 ((elR rs.length rs).length) (ints (elR rs.length rs)), .own (.slice A_b21 ((elG rs.length rs).length) c_b21) 50 3 ((elG rs.length rs).length) (ints (flCX (elG rs.length rs))), .own a1 3 1 ((elR rs.length rs).length) (ints (elR rs.length rs)), .own (.slice A_b11 ((elG rs.length rs).length) c_b11) 50 3 ((elG rs.length rs).length) (ints (flCX (elG rs.length rs))), .own ur 3 1 (rs.length) (ints rs)]
      refine Run.seq ?_
      refine Run.region ?_
      refine Run.q (v := .slice Bc m0 dd) rfl (OpQ.y (OpY.pure rfl)) ?_
      refine Run.step rfl (OpStep.call (vs := [.slice Bc m0 dd]) (caps := []) Tcall_29 rfl rfl (fun w hs => DrawPermutationGates_spec (hs.sl hb) hbz (by omega)) ?_)
      rintro ut _ ⟨to, htl, htb, rfl⟩
      show Run _ _ (putF _ _ _ ut) [.own ut 3 1 (to.length) (ints to), .own a2 3 1 ((elR rs.length rs).length) (ints (elR rs.length rs)), .own (.slice A_b21 ((elG rs.length rs).length) c_b21) 50 3 ((elG rs.length rs).length) (ints (flCX (elG rs.length rs))), .own a1 3 1 ((elR rs.length rs).length) (ints (elR rs.length rs)), .own (.slice A_b11 ((elG rs.length rs).length) c_b11) 50 3 ((elG rs.length rs).length) (ints (flCX (elG rs.length rs))), .own ur 3 1 (rs.length) (ints rs)]
      refine Run.q (v := ut) rfl (OpQ.y (OpY.pure rfl)) ?_
      refine Run.done ?_
      refine Run.seq ?_
      refine Run.region ?_
      refine Run.q (v := ut) rfl (OpQ.y (OpY.pure rfl)) ?_
      refine Run.step rfl (OpStep.call (vs := [ut]) (caps := []) Tcall_30 rfl rfl (fun w hs => PermutationGates_spec (hs.slOwn (.head _))) ?_)
      rintro _ _ ⟨p1, hlp1, rfl, rfl⟩
      show Run _ _ (putF _ _ _ (.tuple #[p1, .bool (pmOk to to.length)])) [.own p1 50 3 ((pmR to.length to).length) (ints (flSW (pmR to.length to))), .own ut 3 1 (to.length) (ints to), .own a2 3 1 ((elR rs.length rs).length) (ints (elR rs.length rs)), .own (.slice A_b21 ((elG rs.length rs).length) c_b21) 50 3 ((elG rs.length rs).length) (ints (flCX (elG rs.length rs))), .own a1 3 1 ((elR rs.length rs).length) (ints (elR rs.length rs)), .own (.slice A_b11 ((elG rs.length rs).length) c_b11) 50 3 ((elG rs.length rs).length) (ints (flCX (elG rs.length rs))), .own ur 3 1 (rs.length) (ints rs)]
      refine Run.q (v := .tuple #[p1, .bool (pmOk to to.length)]) rfl (OpQ.y (OpY.pure rfl)) ?_
      refine Run.q (v := p1) rfl (OpQ.y (OpY.pure rfl)) ?_
      refine Run.q (v := .bool (pmOk to to.length)) rfl (OpQ.y (OpY.pure rfl)) ?_
      refine Run.q (v := p1) rfl (OpQ.y (OpY.pure rfl)) ?_
      refine Run.q (v := .bool (pmOk to to.length)) rfl (OpQ.y (OpY.pure rfl)) ?_
      refine Run.done ?_
      refine Run.seq ?_
      refine Run.region ?_
      refine Run.q (v := ut) rfl (OpQ.y (OpY.pure rfl)) ?_
      refine Run.step rfl (OpStep.call (vs := [ut]) (caps := []) Tcall_31 rfl rfl (fun w hs => sPermutationGates_spec (hs.slOwn (.tail _ (List.Mem.head _)))) ?_)
      rintro _ _ ⟨p2, hlp2, rfl, rfl⟩
      show Run _ _ (putF _ _ _ (.tuple #[p2, .bool (pmOk to to.length)])) [.own p2 50 3 ((pmR to.length to).length) (ints (flSW (pmR to.length to))), .own p1 50 3 ((pmR to.length to).length) (ints (flSW (pmR to.length to))), .own ut 3 1 (to.length) (ints to), .own a2 3 1 ((elR rs.length rs).length) (ints (elR rs.length rs)), .own (.slice A_b21 ((elG rs.length rs).length) c_b21) 50 3 ((elG rs.length rs).length) (ints (flCX (elG rs.length rs))), .own a1 3 1 ((elR rs.length rs).length) (ints (elR rs.length rs)), .own (.slice A_b11 ((elG rs.length rs).length) c_b11) 50 3 ((elG rs.length rs).length) (ints (flCX (elG rs.length rs))), .own ur 3 1 (rs.length) (ints rs)]
      refine Run.q (v := .tuple #[p2, .bool (pmOk to to.length)]) rfl (OpQ.y (OpY.pure rfl)) ?_
      refine Run.q (v := p2) rfl (OpQ.y (OpY.pure rfl)) ?_
      refine Run.q (v := .bool (pmOk to to.length)) rfl (OpQ.y (OpY.pure rfl)) ?_
      refine Run.q (v := p2) rfl (OpQ.y (OpY.pure rfl)) ?_
      refine Run.q (v := .bool (pmOk to to.length)) rfl (OpQ.y (OpY.pure rfl)) ?_
      refine Run.done ?_
      refine Run.seq ?_
      refine Run.seq ?_
      refine Run.region ?_
      refine Run.q (v := .bool (pmOk to to.length)) rfl (OpQ.y (OpY.pure rfl)) ?_
      refine Run.q (v := .bool (pmOk to to.length)) rfl (OpQ.y (OpY.pure rfl)) ?_
      refine Run.q (v := .bool false) rfl (OpQ.y (OpY.neqBSame Tbool_4 rfl rfl rfl)) ?_
      refine Run.done ?_
      refine Run.cond (b := false) rfl (fun h => nomatch h) (fun _ => ?_)
      refine Run.skip ?_
      refine Run.seq ?_
      refine Run.seq ?_
      refine Run.region ?_
      refine Run.q (v := .bool (pmOk to to.length)) rfl (OpQ.y (OpY.pure rfl)) ?_
      refine Run.done ?_
      refine Run.cond (b := pmOk to to.length) rfl (fun h129 => ?_) (fun h129 => ?_)
      · have p129 := h129; try simp only [decide_eq_true_eq, decide_eq_false_iff_not, beq_iff_eq, bne_iff_ne, beq_eq_false_iff_ne, ne_eq, gt_iff_lt, ge_iff_le, Int.not_lt, Int.not_le, bne_eq_false_iff_eq, Bool.not_eq_true', Bool.not_eq_false', Bool.and_eq_true, Bool.and_eq_false_iff, Bool.or_eq_true, Bool.or_eq_false_iff, Decidable.not_not, List.cons.injEq, and_true] at p129
        have hpm : pmOk to to.length = true := by simpa using h129
        have hpr := pmR_rp rfl hpm
        refine Run.seq ?_
        refine Run.region ?_
        refine Run.step rfl (OpStep.buildSlice (us := []) Tsl_34 (by decide) (by decide) rfl rfl fun b3 => ?_)
        refine Run.q (v := .slice (some ⟨b3, 0, none⟩) 0 0) rfl (OpQ.y (OpY.pure rfl)) ?_
        refine Run.done ?_
        refine Run.seq ?_
        refine Run.seq ?_
        refine Run.region ?_
        refine Run.q (v := ut) rfl (OpQ.y (OpY.pure rfl)) ?_
        refine Run.formOwn (.tail _ (.tail _ (.tail _ (List.Mem.head _)))) (fun A_ut1 c_ut1 hv hcapc_ut1 hmaxc_ut1 => ?_) (fun _ _ _ => ⟨nofun, nofun, nofun⟩)
        subst hv
        refine Run.q (v := .int .i64 (((to.length : Nat) : Int))) rfl (OpQ.y (OpY.len Tsl_34 rfl)) ?_
        refine Run.q (v := .int .i64 0) rfl (OpQ.y (OpY.pure rfl)) ?_
        refine Run.done ?_
        refine Run.block ?_
        refine Run.loop (ι := Nat × Value) [20, 21, 133, 134, 135, 136, 137, 138, 139, 140] (fun ⟨k, vn⟩ => [(20, vn), (133, .int .i64 (((k : Nat) : Int)))]) (fun ⟨k, vn⟩ => [.own vn 3 1 k (ints (mks 0 k)), .own p2 50 3 ((pmR to.length to).length) (ints (flSW (pmR to.length to))), .own p1 50 3 ((pmR to.length to).length) (ints (flSW (pmR to.length to))), .own (.slice A_ut1 (to.length) c_ut1) 3 1 (to.length) (ints to), .own a2 3 1 ((elR rs.length rs).length) (ints (elR rs.length rs)), .own (.slice A_b21 ((elG rs.length rs).length) c_b21) 50 3 ((elG rs.length rs).length) (ints (flCX (elG rs.length rs))), .own a1 3 1 ((elR rs.length rs).length) (ints (elR rs.length rs)), .own (.slice A_b11 ((elG rs.length rs).length) c_b11) 50 3 ((elG rs.length rs).length) (ints (flCX (elG rs.length rs))), .own ur 3 1 (rs.length) (ints rs)]) (fun ⟨k, vn⟩ => k ≤ to.length) (fun ⟨k, vn⟩ => to.length - k) (0, .slice (some ⟨b3, 0, none⟩) 0 0) ?_ ?_ ?_ ?_
        · exact Nat.zero_le _
        · exact ⟨rfl, rfl, trivial⟩
        · exact ((((((((((Weak.front [.own (.slice (some ⟨b3, 0, none⟩) 0 0) 3 1 0 ([]), .own p2 50 3 ((pmR to.length to).length) (ints (flSW (pmR to.length to))), .own p1 50 3 ((pmR to.length to).length) (ints (flSW (pmR to.length to))), .own (.slice A_ut1 (to.length) c_ut1) 3 1 (to.length) (ints to), .own a2 3 1 ((elR rs.length rs).length) (ints (elR rs.length rs)), .own (.slice A_b21 ((elG rs.length rs).length) c_b21) 50 3 ((elG rs.length rs).length) (ints (flCX (elG rs.length rs))), .own a1 3 1 ((elR rs.length rs).length) (ints (elR rs.length rs)), .own (.slice A_b11 ((elG rs.length rs).length) c_b11) 50 3 ((elG rs.length rs).length) (ints (flCX (elG rs.length rs)))] (.own ur 3 1 (rs.length) (ints rs)) []).trans (Weak.front [.own ur 3 1 (rs.length) (ints rs), .own (.slice (some ⟨b3, 0, none⟩) 0 0) 3 1 0 ([]), .own p2 50 3 ((pmR to.length to).length) (ints (flSW (pmR to.length to))), .own p1 50 3 ((pmR to.length to).length) (ints (flSW (pmR to.length to))), .own (.slice A_ut1 (to.length) c_ut1) 3 1 (to.length) (ints to), .own a2 3 1 ((elR rs.length rs).length) (ints (elR rs.length rs)), .own (.slice A_b21 ((elG rs.length rs).length) c_b21) 50 3 ((elG rs.length rs).length) (ints (flCX (elG rs.length rs))), .own a1 3 1 ((elR rs.length rs).length) (ints (elR rs.length rs))] (.own (.slice A_b11 ((elG rs.length rs).length) c_b11) 50 3 ((elG rs.length rs).length) (ints (flCX (elG rs.length rs)))) [])).trans (Weak.front [.own (.slice A_b11 ((elG rs.length rs).length) c_b11) 50 3 ((elG rs.length rs).length) (ints (flCX (elG rs.length rs))), .own ur 3 1 (rs.length) (ints rs), .own (.slice (some ⟨b3, 0, none⟩) 0 0) 3 1 0 ([]), .own p2 50 3 ((pmR to.length to).length) (ints (flSW (pmR to.length to))), .own p1 50 3 ((pmR to.length to).length) (ints (flSW (pmR to.length to))), .own (.slice A_ut1 (to.length) c_ut1) 3 1 (to.length) (ints to), .own a2 3 1 ((elR rs.length rs).length) (ints (elR rs.length rs)), .own (.slice A_b21 ((elG rs.length rs).length) c_b21) 50 3 ((elG rs.length rs).length) (ints (flCX (elG rs.length rs)))] (.own a1 3 1 ((elR rs.length rs).length) (ints (elR rs.length rs))) [])).trans (Weak.front [.own a1 3 1 ((elR rs.length rs).length) (ints (elR rs.length rs)), .own (.slice A_b11 ((elG rs.length rs).length) c_b11) 50 3 ((elG rs.length rs).length) (ints (flCX (elG rs.length rs))), .own ur 3 1 (rs.length) (ints rs), .own (.slice (some ⟨b3, 0, none⟩) 0 0) 3 1 0 ([]), .own p2 50 3 ((pmR to.length to).length) (ints (flSW (pmR to.length to))), .own p1 50 3 ((pmR to.length to).length) (ints (flSW (pmR to.length to))), .own (.slice A_ut1 (to.length) c_ut1) 3 1 (to.length) (ints to), .own a2 3 1 ((elR rs.length rs).length) (ints (elR rs.length rs))] (.own (.slice A_b21 ((elG rs.length rs).length) c_b21) 50 3 ((elG rs.length rs).length) (ints (flCX (elG rs.length rs)))) [])).trans (Weak.front [.own (.slice A_b21 ((elG rs.length rs).length) c_b21) 50 3 ((elG rs.length rs).length) (ints (flCX (elG rs.length rs))), .own a1 3 1 ((elR rs.length rs).length) (ints (elR rs.length rs)), .own (.slice A_b11 ((elG rs.length rs).length) c_b11) 50 3 ((elG rs.length rs).length) (ints (flCX (elG rs.length rs))), .own ur 3 1 (rs.length) (ints rs), .own (.slice (some ⟨b3, 0, none⟩) 0 0) 3 1 0 ([]), .own p2 50 3 ((pmR to.length to).length) (ints (flSW (pmR to.length to))), .own p1 50 3 ((pmR to.length to).length) (ints (flSW (pmR to.length to))), .own (.slice A_ut1 (to.length) c_ut1) 3 1 (to.length) (ints to)] (.own a2 3 1 ((elR rs.length rs).length) (ints (elR rs.length rs))) [])).trans (Weak.front [.own a2 3 1 ((elR rs.length rs).length) (ints (elR rs.length rs)), .own (.slice A_b21 ((elG rs.length rs).length) c_b21) 50 3 ((elG rs.length rs).length) (ints (flCX (elG rs.length rs))), .own a1 3 1 ((elR rs.length rs).length) (ints (elR rs.length rs)), .own (.slice A_b11 ((elG rs.length rs).length) c_b11) 50 3 ((elG rs.length rs).length) (ints (flCX (elG rs.length rs))), .own ur 3 1 (rs.length) (ints rs), .own (.slice (some ⟨b3, 0, none⟩) 0 0) 3 1 0 ([]), .own p2 50 3 ((pmR to.length to).length) (ints (flSW (pmR to.length to))), .own p1 50 3 ((pmR to.length to).length) (ints (flSW (pmR to.length to)))] (.own (.slice A_ut1 (to.length) c_ut1) 3 1 (to.length) (ints to)) [])).trans (Weak.front [.own (.slice A_ut1 (to.length) c_ut1) 3 1 (to.length) (ints to), .own a2 3 1 ((elR rs.length rs).length) (ints (elR rs.length rs)), .own (.slice A_b21 ((elG rs.length rs).length) c_b21) 50 3 ((elG rs.length rs).length) (ints (flCX (elG rs.length rs))), .own a1 3 1 ((elR rs.length rs).length) (ints (elR rs.length rs)), .own (.slice A_b11 ((elG rs.length rs).length) c_b11) 50 3 ((elG rs.length rs).length) (ints (flCX (elG rs.length rs))), .own ur 3 1 (rs.length) (ints rs), .own (.slice (some ⟨b3, 0, none⟩) 0 0) 3 1 0 ([]), .own p2 50 3 ((pmR to.length to).length) (ints (flSW (pmR to.length to)))] (.own p1 50 3 ((pmR to.length to).length) (ints (flSW (pmR to.length to)))) [])).trans (Weak.front [.own p1 50 3 ((pmR to.length to).length) (ints (flSW (pmR to.length to))), .own (.slice A_ut1 (to.length) c_ut1) 3 1 (to.length) (ints to), .own a2 3 1 ((elR rs.length rs).length) (ints (elR rs.length rs)), .own (.slice A_b21 ((elG rs.length rs).length) c_b21) 50 3 ((elG rs.length rs).length) (ints (flCX (elG rs.length rs))), .own a1 3 1 ((elR rs.length rs).length) (ints (elR rs.length rs)), .own (.slice A_b11 ((elG rs.length rs).length) c_b11) 50 3 ((elG rs.length rs).length) (ints (flCX (elG rs.length rs))), .own ur 3 1 (rs.length) (ints rs), .own (.slice (some ⟨b3, 0, none⟩) 0 0) 3 1 0 ([])] (.own p2 50 3 ((pmR to.length to).length) (ints (flSW (pmR to.length to)))) [])).trans (Weak.front [.own p2 50 3 ((pmR to.length to).length) (ints (flSW (pmR to.length to))), .own p1 50 3 ((pmR to.length to).length) (ints (flSW (pmR to.length to))), .own (.slice A_ut1 (to.length) c_ut1) 3 1 (to.length) (ints to), .own a2 3 1 ((elR rs.length rs).length) (ints (elR rs.length rs)), .own (.slice A_b21 ((elG rs.length rs).length) c_b21) 50 3 ((elG rs.length rs).length) (ints (flCX (elG rs.length rs))), .own a1 3 1 ((elR rs.length rs).length) (ints (elR rs.length rs)), .own (.slice A_b11 ((elG rs.length rs).length) c_b11) 50 3 ((elG rs.length rs).length) (ints (flCX (elG rs.length rs))), .own ur 3 1 (rs.length) (ints rs)] (.own (.slice (some ⟨b3, 0, none⟩) 0 0) 3 1 0 ([])) [])).trans (Some'.weak (.takeEq (by first | rfl | simp [ints, mks]) (.take (.take (.take (.take (.take (.take (.take (.take (.nil _))))))))))))
        · rintro ⟨k, vn⟩ fr hinv
          show Run _ _ (over _ _ [(20, vn), (133, .int .i64 (((k : Nat) : Int)))] fr) [.own vn 3 1 k (ints (mks 0 k)), .own p2 50 3 ((pmR to.length to).length) (ints (flSW (pmR to.length to))), .own p1 50 3 ((pmR to.length to).length) (ints (flSW (pmR to.length to))), .own (.slice A_ut1 (to.length) c_ut1) 3 1 (to.length) (ints to), .own a2 3 1 ((elR rs.length rs).length) (ints (elR rs.length rs)), .own (.slice A_b21 ((elG rs.length rs).length) c_b21) 50 3 ((elG rs.length rs).length) (ints (flCX (elG rs.length rs))), .own a1 3 1 ((elR rs.length rs).length) (ints (elR rs.length rs)), .own (.slice A_b11 ((elG rs.length rs).length) c_b11) 50 3 ((elG rs.length rs).length) (ints (flCX (elG rs.length rs))), .own ur 3 1 (rs.length) (ints rs)]
          try dsimp only at hinv
          refine Run.seq ?_
          refine Run.region ?_
          refine Run.q (v := .bool (decide ((((k : Nat) : Int)) < (((to.length : Nat) : Int))))) rfl (OpQ.y (OpY.pure rfl)) ?_
          refine Run.done ?_
          refine Run.seq ?_
          refine Run.cond (b := decide ((((k : Nat) : Int)) < (((to.length : Nat) : Int)))) rfl (fun h134 => ?_) (fun h134 => ?_)
          · have p134 := h134; try simp only [decide_eq_true_eq, decide_eq_false_iff_not, beq_iff_eq, bne_iff_ne, beq_eq_false_iff_ne, ne_eq, gt_iff_lt, ge_iff_le, Int.not_lt, Int.not_le, bne_eq_false_iff_eq, Bool.not_eq_true', Bool.not_eq_false', Bool.and_eq_true, Bool.and_eq_false_iff, Bool.or_eq_true, Bool.or_eq_false_iff, Decidable.not_not, List.cons.injEq, and_true] at p134
            have hltk : k < to.length := by omega
            refine Run.skip ?_
            refine Run.seq ?_
            refine Run.block ?_
            refine Run.seq ?_
            refine Run.region ?_
            refine Run.q (v := .int .i64 (((k : Nat) : Int))) rfl (OpQ.y (OpY.pure rfl)) ?_
            refine Run.q (v := .int .i64 (((k : Nat) : Int))) rfl (OpQ.y (OpY.pure rfl)) ?_
            refine Run.done ?_
            refine Run.region ?_
            refine Run.q (v := vn) rfl (OpQ.y (OpY.pure rfl)) ?_
            refine Run.q (v := .int .i64 (((k : Nat) : Int))) rfl (OpQ.y (OpY.pure rfl)) ?_
            refine Run.step rfl (OpStep.buildSlice (us := [.int .i64 (((k : Nat) : Int))]) Tsl_34 (by decide) (by decide) ⟨rfl, [.int .i64 (((k : Nat) : Int))], _, rfl, rfl, rfl, rfl⟩ rfl fun b4 => ?_)
            refine Run.step rfl (OpStep.append (H1 := [.own (.slice (some ⟨b4, 0, none⟩) 1 1) 3 1 1 ([.int .i64 (((k : Nat) : Int))])]) (H2 := [.own p2 50 3 ((pmR to.length to).length) (ints (flSW (pmR to.length to))), .own p1 50 3 ((pmR to.length to).length) (ints (flSW (pmR to.length to))), .own (.slice A_ut1 (to.length) c_ut1) 3 1 (to.length) (ints to), .own a2 3 1 ((elR rs.length rs).length) (ints (elR rs.length rs)), .own (.slice A_b21 ((elG rs.length rs).length) c_b21) 50 3 ((elG rs.length rs).length) (ints (flCX (elG rs.length rs))), .own a1 3 1 ((elR rs.length rs).length) (ints (elR rs.length rs)), .own (.slice A_b11 ((elG rs.length rs).length) c_b11) 50 3 ((elG rs.length rs).length) (ints (flCX (elG rs.length rs))), .own ur 3 1 (rs.length) (ints rs)]) (v := vn) (u := .slice (some ⟨b4, 0, none⟩) 1 1) (n := k) (m := 1) (xs := ints (mks 0 k)) (ys := [.int .i64 (((k : Nat) : Int))]) Tsl_34 (by decide) rfl rfl rfl rfl (fun w hs => hs.slOwn (.head _)) (by simp [Value.oneCell']) (by omega) (by simp only [maxLen]; omega) fun av2 hnav2 => ?_)
            refine Run.weak (H' := [.own (.slice (some ⟨b4, 0, none⟩) 1 1) 3 1 1 ([.int .i64 (((k : Nat) : Int))]), .own av2 3 1 (k + 1) (ints (mks 0 (k + 1))), .own p2 50 3 ((pmR to.length to).length) (ints (flSW (pmR to.length to))), .own p1 50 3 ((pmR to.length to).length) (ints (flSW (pmR to.length to))), .own (.slice A_ut1 (to.length) c_ut1) 3 1 (to.length) (ints to), .own a2 3 1 ((elR rs.length rs).length) (ints (elR rs.length rs)), .own (.slice A_b21 ((elG rs.length rs).length) c_b21) 50 3 ((elG rs.length rs).length) (ints (flCX (elG rs.length rs))), .own a1 3 1 ((elR rs.length rs).length) (ints (elR rs.length rs)), .own (.slice A_b11 ((elG rs.length rs).length) c_b11) 50 3 ((elG rs.length rs).length) (ints (flCX (elG rs.length rs))), .own ur 3 1 (rs.length) (ints rs)]) (Some'.weak (.take (.takeEq (by rw [← ints_mks]) (.take (.take (.take (.take (.take (.take (.take (.take (.nil _)))))))))))) ?_ ⟨_, _, rfl, fun _ => nofun, fun _ => nofun⟩
            refine Run.q (v := av2) rfl (OpQ.y (OpY.pure rfl)) ?_
            refine Run.done ?_
            refine Run.blockEnd ?_
            refine Run.region ?_
            refine Run.q (v := .int .i64 ((((k : Nat) : Int)) + 1)) rfl (OpQ.y (OpY.add rfl rfl rfl (by omega) (by omega))) ?_
            refine Run.q (v := .int .i64 ((((k : Nat) : Int)) + 1)) rfl (OpQ.y (OpY.pure rfl)) ?_
            refine Run.done ?_
            refine Run.goal ⟨(by repeat (first | exact Same.refl _ _ | refine Same.put rfl ?_ | refine Same.over rfl rfl ?_)), (k + 1, av2), ?_, ?_, ?_, ?_⟩
            · exact hltk
            · show to.length - (k + 1) < to.length - k; omega
            · exact ⟨(by first | rfl | (congr 1; omega) | simp), (by first | rfl | (congr 1; omega) | simp), trivial⟩
            · exact ((((((((((Weak.front [.own (.slice (some ⟨b4, 0, none⟩) 1 1) 3 1 1 ([.int .i64 (((k : Nat) : Int))]), .own av2 3 1 (k + 1) (ints (mks 0 (k + 1))), .own p2 50 3 ((pmR to.length to).length) (ints (flSW (pmR to.length to))), .own p1 50 3 ((pmR to.length to).length) (ints (flSW (pmR to.length to))), .own (.slice A_ut1 (to.length) c_ut1) 3 1 (to.length) (ints to), .own a2 3 1 ((elR rs.length rs).length) (ints (elR rs.length rs)), .own (.slice A_b21 ((elG rs.length rs).length) c_b21) 50 3 ((elG rs.length rs).length) (ints (flCX (elG rs.length rs))), .own a1 3 1 ((elR rs.length rs).length) (ints (elR rs.length rs)), .own (.slice A_b11 ((elG rs.length rs).length) c_b11) 50 3 ((elG rs.length rs).length) (ints (flCX (elG rs.length rs)))] (.own ur 3 1 (rs.length) (ints rs)) []).trans (Weak.front [.own ur 3 1 (rs.length) (ints rs), .own (.slice (some ⟨b4, 0, none⟩) 1 1) 3 1 1 ([.int .i64 (((k : Nat) : Int))]), .own av2 3 1 (k + 1) (ints (mks 0 (k + 1))), .own p2 50 3 ((pmR to.length to).length) (ints (flSW (pmR to.length to))), .own p1 50 3 ((pmR to.length to).length) (ints (flSW (pmR to.length to))), .own (.slice A_ut1 (to.length) c_ut1) 3 1 (to.length) (ints to), .own a2 3 1 ((elR rs.length rs).length) (ints (elR rs.length rs)), .own (.slice A_b21 ((elG rs.length rs).length) c_b21) 50 3 ((elG rs.length rs).length) (ints (flCX (elG rs.length rs))), .own a1 3 1 ((elR rs.length rs).length) (ints (elR rs.length rs))] (.own (.slice A_b11 ((elG rs.length rs).length) c_b11) 50 3 ((elG rs.length rs).length) (ints (flCX (elG rs.length rs)))) [])).trans (Weak.front [.own (.slice A_b11 ((elG rs.length rs).length) c_b11) 50 3 ((elG rs.length rs).length) (ints (flCX (elG rs.length rs))), .own ur 3 1 (rs.length) (ints rs), .own (.slice (some ⟨b4, 0, none⟩) 1 1) 3 1 1 ([.int .i64 (((k : Nat) : Int))]), .own av2 3 1 (k + 1) (ints (mks 0 (k + 1))), .own p2 50 3 ((pmR to.length to).length) (ints (flSW (pmR to.length to))), .own p1 50 3 ((pmR to.length to).length) (ints (flSW (pmR to.length to))), .own (.slice A_ut1 (to.length) c_ut1) 3 1 (to.length) (ints to), .own a2 3 1 ((elR rs.length rs).length) (ints (elR rs.length rs)), .own (.slice A_b21 ((elG rs.length rs).length) c_b21) 50 3 ((elG rs.length rs).length) (ints (flCX (elG rs.length rs)))] (.own a1 3 1 ((elR rs.length rs).length) (ints (elR rs.length rs))) [])).trans (Weak.front [.own a1 3 1 ((elR rs.length rs).length) (ints (elR rs.length rs)), .own (.slice A_b11 ((elG rs.length rs).length) c_b11) 50 3 ((elG rs.length rs).length) (ints (flCX (elG rs.length rs))), .own ur 3 1 (rs.length) (ints rs), .own (.slice (some ⟨b4, 0, none⟩) 1 1) 3 1 1 ([.int .i64 (((k : Nat) : Int))]), .own av2 3 1 (k + 1) (ints (mks 0 (k + 1))), .own p2 50 3 ((pmR to.length to).length) (ints (flSW (pmR to.length to))), .own p1 50 3 ((pmR to.length to).length) (ints (flSW (pmR to.length to))), .own (.slice A_ut1 (to.length) c_ut1) 3 1 (to.length) (ints to), .own a2 3 1 ((elR rs.length rs).length) (ints (elR rs.length rs))] (.own (.slice A_b21 ((elG rs.length rs).length) c_b21) 50 3 ((elG rs.length rs).length) (ints (flCX (elG rs.length rs)))) [])).trans (Weak.front [.own (.slice A_b21 ((elG rs.length rs).length) c_b21) 50 3 ((elG rs.length rs).length) (ints (flCX (elG rs.length rs))), .own a1 3 1 ((elR rs.length rs).length) (ints (elR rs.length rs)), .own (.slice A_b11 ((elG rs.length rs).length) c_b11) 50 3 ((elG rs.length rs).length) (ints (flCX (elG rs.length rs))), .own ur 3 1 (rs.length) (ints rs), .own (.slice (some ⟨b4, 0, none⟩) 1 1) 3 1 1 ([.int .i64 (((k : Nat) : Int))]), .own av2 3 1 (k + 1) (ints (mks 0 (k + 1))), .own p2 50 3 ((pmR to.length to).length) (ints (flSW (pmR to.length to))), .own p1 50 3 ((pmR to.length to).length) (ints (flSW (pmR to.length to))), .own (.slice A_ut1 (to.length) c_ut1) 3 1 (to.length) (ints to)] (.own a2 3 1 ((elR rs.length rs).length) (ints (elR rs.length rs))) [])).trans (Weak.front [.own a2 3 1 ((elR rs.length rs).length) (ints (elR rs.length rs)), .own (.slice A_b21 ((elG rs.length rs).length) c_b21) 50 3 ((elG rs.length rs).length) (ints (flCX (elG rs.length rs))), .own a1 3 1 ((elR rs.length rs).length) (ints (elR rs.length rs)), .own (.slice A_b11 ((elG rs.length rs).length) c_b11) 50 3 ((elG rs.length rs).length) (ints (flCX (elG rs.length rs))), .own ur 3 1 (rs.length) (ints rs), .own (.slice (some ⟨b4, 0, none⟩) 1 1) 3 1 1 ([.int .i64 (((k : Nat) : Int))]), .own av2 3 1 (k + 1) (ints (mks 0 (k + 1))), .own p2 50 3 ((pmR to.length to).length) (ints (flSW (pmR to.length to))), .own p1 50 3 ((pmR to.length to).length) (ints (flSW (pmR to.length to)))] (.own (.slice A_ut1 (to.length) c_ut1) 3 1 (to.length) (ints to)) [])).trans (Weak.front [.own (.slice A_ut1 (to.length) c_ut1) 3 1 (to.length) (ints to), .own a2 3 1 ((elR rs.length rs).length) (ints (elR rs.length rs)), .own (.slice A_b21 ((elG rs.length rs).length) c_b21) 50 3 ((elG rs.length rs).length) (ints (flCX (elG rs.length rs))), .own a1 3 1 ((elR rs.length rs).length) (ints (elR rs.length rs)), .own (.slice A_b11 ((elG rs.length rs).length) c_b11) 50 3 ((elG rs.length rs).length) (ints (flCX (elG rs.length rs))), .own ur 3 1 (rs.length) (ints rs), .own (.slice (some ⟨b4, 0, none⟩) 1 1) 3 1 1 ([.int .i64 (((k : Nat) : Int))]), .own av2 3 1 (k + 1) (ints (mks 0 (k + 1))), .own p2 50 3 ((pmR to.length to).length) (ints (flSW (pmR to.length to)))] (.own p1 50 3 ((pmR to.length to).length) (ints (flSW (pmR to.length to)))) [])).trans (Weak.front [.own p1 50 3 ((pmR to.length to).length) (ints (flSW (pmR to.length to))), .own (.slice A_ut1 (to.length) c_ut1) 3 1 (to.length) (ints to), .own a2 3 1 ((elR rs.length rs).length) (ints (elR rs.length rs)), .own (.slice A_b21 ((elG rs.length rs).length) c_b21) 50 3 ((elG rs.length rs).length) (ints (flCX (elG rs.length rs))), .own a1 3 1 ((elR rs.length rs).length) (ints (elR rs.length rs)), .own (.slice A_b11 ((elG rs.length rs).length) c_b11) 50 3 ((elG rs.length rs).length) (ints (flCX (elG rs.length rs))), .own ur 3 1 (rs.length) (ints rs), .own (.slice (some ⟨b4, 0, none⟩) 1 1) 3 1 1 ([.int .i64 (((k : Nat) : Int))]), .own av2 3 1 (k + 1) (ints (mks 0 (k + 1)))] (.own p2 50 3 ((pmR to.length to).length) (ints (flSW (pmR to.length to)))) [])).trans (Weak.front [.own p2 50 3 ((pmR to.length to).length) (ints (flSW (pmR to.length to))), .own p1 50 3 ((pmR to.length to).length) (ints (flSW (pmR to.length to))), .own (.slice A_ut1 (to.length) c_ut1) 3 1 (to.length) (ints to), .own a2 3 1 ((elR rs.length rs).length) (ints (elR rs.length rs)), .own (.slice A_b21 ((elG rs.length rs).length) c_b21) 50 3 ((elG rs.length rs).length) (ints (flCX (elG rs.length rs))), .own a1 3 1 ((elR rs.length rs).length) (ints (elR rs.length rs)), .own (.slice A_b11 ((elG rs.length rs).length) c_b11) 50 3 ((elG rs.length rs).length) (ints (flCX (elG rs.length rs))), .own ur 3 1 (rs.length) (ints rs), .own (.slice (some ⟨b4, 0, none⟩) 1 1) 3 1 1 ([.int .i64 (((k : Nat) : Int))])] (.own av2 3 1 (k + 1) (ints (mks 0 (k + 1)))) [])).trans (Some'.weak (.takeEq (by first | rfl | simp [ints, mks]) (.takeEq (by first | rfl | simp [ints, mks]) (.takeEq (by first | rfl | simp [ints, mks]) (.takeEq (by first | rfl | simp [ints, mks]) (.takeEq (by first | rfl | simp [ints, mks]) (.takeEq (by first | rfl | simp [ints, mks]) (.takeEq (by first | rfl | simp [ints, mks]) (.takeEq (by first | rfl | simp [ints, mks]) (.takeEq (by first | rfl | simp [ints, mks]) (.nil _))))))))))))
          · have p134 := h134; try simp only [decide_eq_true_eq, decide_eq_false_iff_not, beq_iff_eq, bne_iff_ne, beq_eq_false_iff_ne, ne_eq, gt_iff_lt, ge_iff_le, Int.not_lt, Int.not_le, bne_eq_false_iff_eq, Bool.not_eq_true', Bool.not_eq_false', Bool.and_eq_true, Bool.and_eq_false_iff, Bool.or_eq_true, Bool.or_eq_false_iff, Decidable.not_not, List.cons.injEq, and_true] at p134
            have hkt : k = to.length := by omega
            subst hkt
            refine Run.exit rfl ?_
            refine Run.seq ?_
            refine Run.seq ?_
            refine Run.region ?_
            refine Run.q (v := p1) rfl (OpQ.y (OpY.pure rfl)) ?_
            refine Run.formOwn (.tail _ (.tail _ (List.Mem.head _))) (fun A_p11 c_p11 hv hcapc_p11 hmaxc_p11 => ?_) (fun _ _ _ => ⟨nofun, nofun, nofun⟩)
            subst hv
            refine Run.q (v := .int .i64 ((((pmR to.length to).length : Nat) : Int))) rfl (OpQ.y (OpY.len Tsl_46 rfl)) ?_
            refine Run.q (v := .int .i64 0) rfl (OpQ.y (OpY.pure rfl)) ?_
            refine Run.done ?_
            refine Run.block ?_
            refine Run.loop (ι := Nat) ([4, 23, 24, 143, 144, 145, 146, 147, 148, 149, 150, 151, 152, 153, 154, 155, 156, 157, 158, 159, 160, 161, 162, 163, 164, 165, 166, 167, 168, 169, 170, 171, 172, 173, 174, 175, 176, 177, 178, 179, 180, 181, 182, 183, 184, 185, 186, 187, 188, 189] ++ [190, 191, 192, 193]) (fun k => [(143, .int .i64 (((k : Nat) : Int)))]) (fun k => [.own vn 3 1 (to.length) (ints (rpS (mks 0 to.length) ((pmR to.length to).take k))), .own p2 50 3 ((pmR to.length to).length) (ints (flSW (pmR to.length to))), .own (.slice A_p11 ((pmR to.length to).length) c_p11) 50 3 ((pmR to.length to).length) (ints (flSW (pmR to.length to))), .own (.slice A_ut1 (to.length) c_ut1) 3 1 (to.length) (ints to), .own a2 3 1 ((elR rs.length rs).length) (ints (elR rs.length rs)), .own (.slice A_b21 ((elG rs.length rs).length) c_b21) 50 3 ((elG rs.length rs).length) (ints (flCX (elG rs.length rs))), .own a1 3 1 ((elR rs.length rs).length) (ints (elR rs.length rs)), .own (.slice A_b11 ((elG rs.length rs).length) c_b11) 50 3 ((elG rs.length rs).length) (ints (flCX (elG rs.length rs))), .own ur 3 1 (rs.length) (ints rs)]) (fun k => k ≤ (pmR to.length to).length) (fun k => (pmR to.length to).length - k) 0 ?_ ?_ ?_ ?_
            · exact Nat.zero_le _
            · exact ⟨rfl, trivial⟩
            · exact (Some'.weak (.takeEq (by first | rfl | (rw [take_gx hlt, rpS_snoc']) | simp [rpS]) (.take (.take (.take (.take (.take (.take (.take (.take (.nil _)))))))))))
            · rintro k fr hinv
              show Run _ _ (over _ _ [(143, .int .i64 (((k : Nat) : Int)))] fr) [.own vn 3 1 (to.length) (ints (rpS (mks 0 to.length) ((pmR to.length to).take k))), .own p2 50 3 ((pmR to.length to).length) (ints (flSW (pmR to.length to))), .own (.slice A_p11 ((pmR to.length to).length) c_p11) 50 3 ((pmR to.length to).length) (ints (flSW (pmR to.length to))), .own (.slice A_ut1 (to.length) c_ut1) 3 1 (to.length) (ints to), .own a2 3 1 ((elR rs.length rs).length) (ints (elR rs.length rs)), .own (.slice A_b21 ((elG rs.length rs).length) c_b21) 50 3 ((elG rs.length rs).length) (ints (flCX (elG rs.length rs))), .own a1 3 1 ((elR rs.length rs).length) (ints (elR rs.length rs)), .own (.slice A_b11 ((elG rs.length rs).length) c_b11) 50 3 ((elG rs.length rs).length) (ints (flCX (elG rs.length rs))), .own ur 3 1 (rs.length) (ints rs)]
              try dsimp only at hinv
              refine Run.seq ?_
              refine Run.region ?_
              refine Run.q (v := .bool (decide ((((k : Nat) : Int)) < ((((pmR to.length to).length : Nat) : Int))))) rfl (OpQ.y (OpY.pure rfl)) ?_
              refine Run.done ?_
              refine Run.seq ?_
              refine Run.cond (b := decide ((((k : Nat) : Int)) < ((((pmR to.length to).length : Nat) : Int)))) rfl (fun h144 => ?_) (fun h144 => ?_)
              · have p144 := h144; try simp only [decide_eq_true_eq, decide_eq_false_iff_not, beq_iff_eq, bne_iff_ne, beq_eq_false_iff_ne, ne_eq, gt_iff_lt, ge_iff_le, Int.not_lt, Int.not_le, bne_eq_false_iff_eq, Bool.not_eq_true', Bool.not_eq_false', Bool.and_eq_true, Bool.and_eq_false_iff, Bool.or_eq_true, Bool.or_eq_false_iff, Decidable.not_not, List.cons.injEq, and_true] at p144
                have hlt : k < (pmR to.length to).length := by omega
                have hgi := flSW_ix hlt
                have hfl := flSW_length (pmR to.length to)
                have hgm := hpr.2 _ (gx_mem hlt)
                have hxl : (rpS (mks 0 to.length) ((pmR to.length to).take k)).length = to.length := by simp
                refine Run.openOwn (.tail _ (.tail _ (List.Mem.head _))) (by omega) (fun gg cg hvgg hcapgg _ => ?_) (fun _ _ _ => ⟨nofun, nofun, nofun⟩)
                injection hvgg with hAgg _ hcgg; subst hAgg; subst hcgg
                refine Run.openOwn (.head _) (by omega) (fun gr cr hvgr hcapgr _ => ?_) (fun _ _ _ => ⟨nofun, nofun, nofun⟩)
                subst hvgr
                refine Run.skip ?_
                refine Run.seq ?_
                refine Run.block ?_
                refine Run.seq ?_
                refine Run.region ?_
                refine Run.q (v := .pointer (some ⟨gg, k * 3, none⟩)) rfl (OpQ.y (OpY.index (kk := k) Tsl_46 rfl rfl (by omega) (by omega) (by first | rfl | omega))) ?_
                refine Run.q (v := .agg #[.int .i64 (ix (flSW (pmR to.length to)) (k * 3)), .int .i64 (ix (flSW (pmR to.length to)) (k * 3 + 1)), .int .i64 (ix (flSW (pmR to.length to)) (k * 3 + 2))]) rfl (OpQ.y (OpY.loadN (cs := [.int .i64 (ix (flSW (pmR to.length to)) (k * 3)), .int .i64 (ix (flSW (pmR to.length to)) (k * 3 + 1)), .int .i64 (ix (flSW (pmR to.length to)) (k * 3 + 2))]) Tagg_50 rfl (Cells.own0 (.tail _ (.tail _ (List.Mem.head _))) (pre3 (by omega))))) ?_
                refine Run.step rfl (OpStep.alloc (zs := [.int .i64 0, .int .i64 0, .int .i64 0]) Tzero_50 fun b5 => ?_)
                refine Run.step rfl (OpStep.storeAll (us := [.int .i64 (ix (flSW (pmR to.length to)) (k * 3)), .int .i64 (ix (flSW (pmR to.length to)) (k * 3 + 1)), .int .i64 (ix (flSW (pmR to.length to)) (k * 3 + 2))]) Tsize_50 rfl rfl rfl (.here _) rfl ?_)
                refine Run.done ?_
                refine Run.seq ?_
                refine Run.seq ?_
                refine Run.region ?_
                refine Run.q (v := .pointer (some ⟨b5, 0, none⟩)) rfl (OpQ.y (OpY.fieldAddr Tfo_50_0 rfl rfl)) ?_
                refine Run.q (v := .int .i64 (ix (flSW (pmR to.length to)) (k * 3))) rfl (OpQ.y (OpY.load1 Tone_3 rfl (Cells.blk (.head _) ⟨rfl, trivial⟩))) ?_
                refine Run.q (v := .bool ((ix (flSW (pmR to.length to)) (k * 3)) != 11)) rfl (OpQ.y (OpY.pure rfl)) ?_
                rcases Bool.eq_false_or_eq_true ((ix (flSW (pmR to.length to)) (k * 3)) != 11) with h150 | h150
                · refine Run.q (v := .bool true) rfl (OpQ.y (OpY.moveB rfl h150)) ?_
                  have p150 := h150; try simp only [decide_eq_true_eq, decide_eq_false_iff_not, beq_iff_eq, bne_iff_ne, beq_eq_false_iff_ne, ne_eq, gt_iff_lt, ge_iff_le, Int.not_lt, Int.not_le, bne_eq_false_iff_eq, Bool.not_eq_true', Bool.not_eq_false', Bool.and_eq_true, Bool.and_eq_false_iff, Bool.or_eq_true, Bool.or_eq_false_iff, Decidable.not_not, List.cons.injEq, and_true] at p150
                  exact absurd h150 (by simp <;> omega) --DONE
                · refine Run.q (v := .bool false) rfl (OpQ.y (OpY.moveB rfl h150)) ?_
                  have p150 := h150; try simp only [decide_eq_true_eq, decide_eq_false_iff_not, beq_iff_eq, bne_iff_ne, beq_eq_false_iff_ne, ne_eq, gt_iff_lt, ge_iff_le, Int.not_lt, Int.not_le, bne_eq_false_iff_eq, Bool.not_eq_true', Bool.not_eq_false', Bool.and_eq_true, Bool.and_eq_false_iff, Bool.or_eq_true, Bool.or_eq_false_iff, Decidable.not_not, List.cons.injEq, and_true] at p150
                  refine Run.q (v := .pointer (some ⟨b5, 1, none⟩)) rfl (OpQ.y (OpY.fieldAddr Tfo_50_1 rfl rfl)) ?_
                  refine Run.q (v := .int .i64 (ix (flSW (pmR to.length to)) (k * 3 + 1))) rfl (OpQ.y (OpY.load1 Tone_3 rfl (Cells.blk (.head _) ⟨rfl, trivial⟩))) ?_
                  refine Run.q (v := .bool (decide ((ix (flSW (pmR to.length to)) (k * 3 + 1)) < 0))) rfl (OpQ.y (OpY.pure rfl)) ?_
                  refine Run.q (v := .bool (decide ((ix (flSW (pmR to.length to)) (k * 3 + 1)) < 0))) rfl (OpQ.y (OpY.pure rfl)) ?_
                  rcases Bool.eq_false_or_eq_true (decide ((ix (flSW (pmR to.length to)) (k * 3 + 1)) < 0)) with h155 | h155
                  · refine Run.q (v := .bool true) rfl (OpQ.y (OpY.moveB rfl h155)) ?_
                    have p155 := h155; try simp only [decide_eq_true_eq, decide_eq_false_iff_not, beq_iff_eq, bne_iff_ne, beq_eq_false_iff_ne, ne_eq, gt_iff_lt, ge_iff_le, Int.not_lt, Int.not_le, bne_eq_false_iff_eq, Bool.not_eq_true', Bool.not_eq_false', Bool.and_eq_true, Bool.and_eq_false_iff, Bool.or_eq_true, Bool.or_eq_false_iff, Decidable.not_not, List.cons.injEq, and_true] at p155
                    exact absurd h155 (by simp <;> omega) --DONE
                  · refine Run.q (v := .bool false) rfl (OpQ.y (OpY.moveB rfl h155)) ?_
                    have p155 := h155; try simp only [decide_eq_true_eq, decide_eq_false_iff_not, beq_iff_eq, bne_iff_ne, beq_eq_false_iff_ne, ne_eq, gt_iff_lt, ge_iff_le, Int.not_lt, Int.not_le, bne_eq_false_iff_eq, Bool.not_eq_true', Bool.not_eq_false', Bool.and_eq_true, Bool.and_eq_false_iff, Bool.or_eq_true, Bool.or_eq_false_iff, Decidable.not_not, List.cons.injEq, and_true] at p155
                    refine Run.q (v := .pointer (some ⟨b5, 2, none⟩)) rfl (OpQ.y (OpY.fieldAddr Tfo_50_2 rfl rfl)) ?_
                    refine Run.q (v := .int .i64 (ix (flSW (pmR to.length to)) (k * 3 + 2))) rfl (OpQ.y (OpY.load1 Tone_3 rfl (Cells.blk (.head _) ⟨rfl, trivial⟩))) ?_
                    refine Run.q (v := .bool (decide ((ix (flSW (pmR to.length to)) (k * 3 + 2)) < 0))) rfl (OpQ.y (OpY.pure rfl)) ?_
                    refine Run.q (v := .bool (decide ((ix (flSW (pmR to.length to)) (k * 3 + 2)) < 0))) rfl (OpQ.y (OpY.pure rfl)) ?_
                    rcases Bool.eq_false_or_eq_true (decide ((ix (flSW (pmR to.length to)) (k * 3 + 2)) < 0)) with h160 | h160
                    · refine Run.q (v := .bool true) rfl (OpQ.y (OpY.moveB rfl h160)) ?_
                      have p160 := h160; try simp only [decide_eq_true_eq, decide_eq_false_iff_not, beq_iff_eq, bne_iff_ne, beq_eq_false_iff_ne, ne_eq, gt_iff_lt, ge_iff_le, Int.not_lt, Int.not_le, bne_eq_false_iff_eq, Bool.not_eq_true', Bool.not_eq_false', Bool.and_eq_true, Bool.and_eq_false_iff, Bool.or_eq_true, Bool.or_eq_false_iff, Decidable.not_not, List.cons.injEq, and_true] at p160
                      exact absurd h160 (by simp <;> omega) --DONE
                    · refine Run.q (v := .bool false) rfl (OpQ.y (OpY.moveB rfl h160)) ?_
                      have p160 := h160; try simp only [decide_eq_true_eq, decide_eq_false_iff_not, beq_iff_eq, bne_iff_ne, beq_eq_false_iff_ne, ne_eq, gt_iff_lt, ge_iff_le, Int.not_lt, Int.not_le, bne_eq_false_iff_eq, Bool.not_eq_true', Bool.not_eq_false', Bool.and_eq_true, Bool.and_eq_false_iff, Bool.or_eq_true, Bool.or_eq_false_iff, Decidable.not_not, List.cons.injEq, and_true] at p160
                      refine Run.q (v := .pointer (some ⟨b5, 1, none⟩)) rfl (OpQ.y (OpY.fieldAddr Tfo_50_1 rfl rfl)) ?_
                      refine Run.q (v := .int .i64 (ix (flSW (pmR to.length to)) (k * 3 + 1))) rfl (OpQ.y (OpY.load1 Tone_3 rfl (Cells.blk (.head _) ⟨rfl, trivial⟩))) ?_
                      refine Run.q (v := .slice (some ⟨gr, 0, none⟩) (to.length) cr) rfl (OpQ.y (OpY.pure rfl)) ?_
                      refine Run.q (v := .int .i64 (((to.length : Nat) : Int))) rfl (OpQ.y (OpY.len Tsl_34 rfl)) ?_
                      refine Run.q (v := .bool (decide ((ix (flSW (pmR to.length to)) (k * 3 + 1)) ≥ (((to.length : Nat) : Int))))) rfl (OpQ.y (OpY.pure rfl)) ?_
                      refine Run.q (v := .bool (decide ((ix (flSW (pmR to.length to)) (k * 3 + 1)) ≥ (((to.length : Nat) : Int))))) rfl (OpQ.y (OpY.pure rfl)) ?_
                      rcases Bool.eq_false_or_eq_true (decide ((ix (flSW (pmR to.length to)) (k * 3 + 1)) ≥ (((to.length : Nat) : Int)))) with h167 | h167
                      · refine Run.q (v := .bool true) rfl (OpQ.y (OpY.moveB rfl h167)) ?_
                        have p167 := h167; try simp only [decide_eq_true_eq, decide_eq_false_iff_not, beq_iff_eq, bne_iff_ne, beq_eq_false_iff_ne, ne_eq, gt_iff_lt, ge_iff_le, Int.not_lt, Int.not_le, bne_eq_false_iff_eq, Bool.not_eq_true', Bool.not_eq_false', Bool.and_eq_true, Bool.and_eq_false_iff, Bool.or_eq_true, Bool.or_eq_false_iff, Decidable.not_not, List.cons.injEq, and_true] at p167
                        exact absurd h167 (by simp <;> omega) --DONE
                      · refine Run.q (v := .bool false) rfl (OpQ.y (OpY.moveB rfl h167)) ?_
                        have p167 := h167; try simp only [decide_eq_true_eq, decide_eq_false_iff_not, beq_iff_eq, bne_iff_ne, beq_eq_false_iff_ne, ne_eq, gt_iff_lt, ge_iff_le, Int.not_lt, Int.not_le, bne_eq_false_iff_eq, Bool.not_eq_true', Bool.not_eq_false', Bool.and_eq_true, Bool.and_eq_false_iff, Bool.or_eq_true, Bool.or_eq_false_iff, Decidable.not_not, List.cons.injEq, and_true] at p167
                        refine Run.q (v := .pointer (some ⟨b5, 2, none⟩)) rfl (OpQ.y (OpY.fieldAddr Tfo_50_2 rfl rfl)) ?_
                        refine Run.q (v := .int .i64 (ix (flSW (pmR to.length to)) (k * 3 + 2))) rfl (OpQ.y (OpY.load1 Tone_3 rfl (Cells.blk (.head _) ⟨rfl, trivial⟩))) ?_
                        refine Run.q (v := .slice (some ⟨gr, 0, none⟩) (to.length) cr) rfl (OpQ.y (OpY.pure rfl)) ?_
                        refine Run.q (v := .int .i64 (((to.length : Nat) : Int))) rfl (OpQ.y (OpY.len Tsl_34 rfl)) ?_
                        refine Run.q (v := .bool (decide ((ix (flSW (pmR to.length to)) (k * 3 + 2)) ≥ (((to.length : Nat) : Int))))) rfl (OpQ.y (OpY.pure rfl)) ?_
                        refine Run.q (v := .bool (decide ((ix (flSW (pmR to.length to)) (k * 3 + 2)) ≥ (((to.length : Nat) : Int))))) rfl (OpQ.y (OpY.pure rfl)) ?_
                        refine Run.done ?_
                        refine Run.cond (b := decide ((ix (flSW (pmR to.length to)) (k * 3 + 2)) ≥ (((to.length : Nat) : Int)))) rfl (fun h173 => ?_) (fun h173 => ?_)
                        · exact absurd h173 (by simp <;> omega) --DONE
                        · have p173 := h173; try simp only [decide_eq_true_eq, decide_eq_false_iff_not, beq_iff_eq, bne_iff_ne, beq_eq_false_iff_ne, ne_eq, gt_iff_lt, ge_iff_le, Int.not_lt, Int.not_le, bne_eq_false_iff_eq, Bool.not_eq_true', Bool.not_eq_false', Bool.and_eq_true, Bool.and_eq_false_iff, Bool.or_eq_true, Bool.or_eq_false_iff, Decidable.not_not, List.cons.injEq, and_true] at p173
                          refine Run.skip ?_
                          refine Run.seq ?_
                          refine Run.region ?_
                          refine Run.q (v := .slice (some ⟨gr, 0, none⟩) (to.length) cr) rfl (OpQ.y (OpY.pure rfl)) ?_
                          refine Run.q (v := .pointer (some ⟨b5, 1, none⟩)) rfl (OpQ.y (OpY.fieldAddr Tfo_50_1 rfl rfl)) ?_
                          refine Run.q (v := .int .i64 (ix (flSW (pmR to.length to)) (k * 3 + 1))) rfl (OpQ.y (OpY.load1 Tone_3 rfl (Cells.blk (.head _) ⟨rfl, trivial⟩))) ?_
                          refine Run.q (v := .pointer (some ⟨gr, (gx (pmR to.length to) k).1, none⟩)) rfl (OpQ.y (OpY.index (kk := (gx (pmR to.length to) k).1) Tsl_34 rfl rfl (by omega) (by omega) (by first | rfl | omega))) ?_
                          refine Run.q (v := .int .i64 (ix (rpS (mks 0 to.length) ((pmR to.length to).take k)) ((gx (pmR to.length to) k).1))) rfl (OpQ.y (OpY.load1 Tone_3 rfl (Cells.own0 (.tail _ (List.Mem.head _)) (pre1 (by omega))))) ?_
                          refine Run.q (v := .int .i64 (ix (rpS (mks 0 to.length) ((pmR to.length to).take k)) ((gx (pmR to.length to) k).1))) rfl (OpQ.y (OpY.pure rfl)) ?_
                          refine Run.done ?_
                          refine Run.seq ?_
                          refine Run.lastly [9] (by kernel_rfl) ?_
                          refine DL.takeP (i := 0) (v := .slice (some ⟨gr, 0, none⟩) (to.length) cr) rfl (by kernel_rfl) (by kernel_rfl) (by kernel_rfl) (fun _ _ _ h => h) rfl (fun _ => OpY.pure rfl) ?_
                          refine DL.takeP (i := 1) (v := .pointer (some ⟨b5, 1, none⟩)) rfl (by kernel_rfl) (by kernel_rfl) (by kernel_rfl) (fun _ _ _ h => h) rfl (fun _ => OpY.fieldAddr Tfo_50_1 rfl rfl) ?_
                          refine DL.take (i := 2) (v := .int .i64 (ix (flSW (pmR to.length to)) (k * 3 + 1))) rfl (by kernel_rfl) (by kernel_rfl) (by kernel_rfl) (by kernel_rfl) (fun _ _ _ h => h) (Some'.weak (.take (.take (.take (.take (.take (.take (.take (.take (.take (.take (.nil _)))))))))))) rfl (OpY.load1 Tone_3 rfl (Cells.blk (.head _) ⟨rfl, trivial⟩)) ?_
                          refine DL.takeP (i := 3) (v := .slice (some ⟨gr, 0, none⟩) (to.length) cr) rfl (by kernel_rfl) (by kernel_rfl) (by kernel_rfl) (fun _ _ _ h => h) rfl (fun _ => OpY.pure rfl) ?_
                          refine DL.takeP (i := 4) (v := .pointer (some ⟨b5, 2, none⟩)) rfl (by kernel_rfl) (by kernel_rfl) (by kernel_rfl) (fun _ _ _ h => h) rfl (fun _ => OpY.fieldAddr Tfo_50_2 rfl rfl) ?_
                          refine DL.take (i := 5) (v := .int .i64 (ix (flSW (pmR to.length to)) (k * 3 + 2))) rfl (by kernel_rfl) (by kernel_rfl) (by kernel_rfl) (by kernel_rfl) (fun _ _ _ h => h) (Some'.weak (.take (.take (.take (.take (.take (.take (.take (.take (.take (.take (.nil _)))))))))))) rfl (OpY.load1 Tone_3 rfl (Cells.blk (.head _) ⟨rfl, trivial⟩)) ?_
                          refine DL.takeP (i := 6) (v := .pointer (some ⟨gr, (gx (pmR to.length to) k).2, none⟩)) rfl (by kernel_rfl) (by kernel_rfl) (by kernel_rfl) (fun _ _ _ h => h) rfl (fun _ => OpY.index (kk := (gx (pmR to.length to) k).2) Tsl_34 rfl rfl (by omega) (by omega) (by first | rfl | omega)) ?_
                          refine DL.take (i := 7) (v := .int .i64 (ix (rpS (mks 0 to.length) ((pmR to.length to).take k)) ((gx (pmR to.length to) k).2))) rfl (by kernel_rfl) (by kernel_rfl) (by kernel_rfl) (by kernel_rfl) (fun _ _ _ h => h) (Some'.weak (.take (.take (.take (.take (.take (.take (.take (.take (.take (.take (.nil _)))))))))))) rfl (OpY.load1 Tone_3 rfl (Cells.own0 (.tail _ (List.Mem.head _)) (pre1 (by omega)))) ?_
                          refine DL.takeP (i := 8) (v := .pointer (some ⟨gr, (gx (pmR to.length to) k).1, none⟩)) rfl (by kernel_rfl) (by kernel_rfl) (by kernel_rfl) (fun _ _ _ h => h) rfl (fun _ => OpY.index (kk := (gx (pmR to.length to) k).1) Tsl_34 rfl rfl (by omega) (by omega) (by first | rfl | omega)) ?_
                          refine DL.step (i := 9) (by kernel_rfl) (by kernel_rfl) rfl rfl (OpStep.storeOwnInt (o := (gx (pmR to.length to) k).1) (a := ix (rpS (mks 0 to.length) ((pmR to.length to).take k)) ((gx (pmR to.length to) k).2)) Tsize_3 rfl rfl (.there _ (.here _)) (by omega) ?_)
                          refine DL.done (by kernel_rfl) ?_
                          refine Run.region ?_
                          refine Run.q (v := .slice (some ⟨gr, 0, none⟩) (to.length) cr) rfl (OpQ.y (OpY.pure rfl)) ?_
                          refine Run.q (v := .pointer (some ⟨b5, 2, none⟩)) rfl (OpQ.y (OpY.fieldAddr Tfo_50_2 rfl rfl)) ?_
                          refine Run.q (v := .int .i64 (ix (flSW (pmR to.length to)) (k * 3 + 2))) rfl (OpQ.y (OpY.load1 Tone_3 rfl (Cells.blk (.head _) ⟨rfl, trivial⟩))) ?_
                          refine Run.q (v := .int .i64 (ix (rpS (mks 0 to.length) ((pmR to.length to).take k)) ((gx (pmR to.length to) k).1))) rfl (OpQ.y (OpY.pure rfl)) ?_
                          refine Run.q (v := .pointer (some ⟨gr, (gx (pmR to.length to) k).2, none⟩)) rfl (OpQ.y (OpY.index (kk := (gx (pmR to.length to) k).2) Tsl_34 rfl rfl (by omega) (by omega) (by first | rfl | omega))) ?_
                          refine Run.step rfl (OpStep.storeOwnInt (o := (gx (pmR to.length to) k).2) (a := ix (rpS (mks 0 to.length) ((pmR to.length to).take k)) ((gx (pmR to.length to) k).1)) Tsize_3 rfl rfl (.there _ (.here _)) (by omega) ?_)
                          refine Run.done ?_
                          refine Run.blockEnd ?_
                          refine Run.region ?_
                          refine Run.q (v := .int .i64 ((((k : Nat) : Int)) + 1)) rfl (OpQ.y (OpY.add rfl rfl rfl (by omega) (by omega))) ?_
                          refine Run.q (v := .int .i64 ((((k : Nat) : Int)) + 1)) rfl (OpQ.y (OpY.pure rfl)) ?_
                          refine Run.done ?_
                          refine Run.goal ⟨(by repeat (first | exact Same.refl _ _ | refine Same.put rfl ?_ | refine Same.over rfl rfl ?_)), k + 1, ?_, ?_, ?_, ?_⟩
                          · omega
                          · omega
                          · exact ⟨(by first | rfl | (congr 1; omega) | simp), trivial⟩
                          · exact (Some'.weak (.skip (.takeEq (by first | rfl | (rw [take_gx hlt, rpS_snoc']) | simp [rpS]) (.takeEq (by first | rfl | (rw [take_gx hlt, rpS_snoc']) | simp [rpS]) (.takeEq (by first | rfl | (rw [take_gx hlt, rpS_snoc']) | simp [rpS]) (.takeEq (by first | rfl | (rw [take_gx hlt, rpS_snoc']) | simp [rpS]) (.takeEq (by first | rfl | (rw [take_gx hlt, rpS_snoc']) | simp [rpS]) (.takeEq (by first | rfl | (rw [take_gx hlt, rpS_snoc']) | simp [rpS]) (.takeEq (by first | rfl | (rw [take_gx hlt, rpS_snoc']) | simp [rpS]) (.takeEq (by first | rfl | (rw [take_gx hlt, rpS_snoc']) | simp [rpS]) (.takeEq (by first | rfl | (rw [take_gx hlt, rpS_snoc']) | simp [rpS]) (.nil _))))))))))))
              · have p144 := h144; try simp only [decide_eq_true_eq, decide_eq_false_iff_not, beq_iff_eq, bne_iff_ne, beq_eq_false_iff_ne, ne_eq, gt_iff_lt, ge_iff_le, Int.not_lt, Int.not_le, bne_eq_false_iff_eq, Bool.not_eq_true', Bool.not_eq_false', Bool.and_eq_true, Bool.and_eq_false_iff, Bool.or_eq_true, Bool.or_eq_false_iff, Decidable.not_not, List.cons.injEq, and_true] at p144
                have hkG : k = (pmR to.length to).length := by omega
                have heq2 : rpS (mks 0 to.length) ((pmR to.length to).take k) = to := by rw [hkG, List.take_length]; exact hpr.1
                refine Run.exit rfl ?_
                refine Run.seq ?_
                refine Run.region ?_
                refine Run.q (v := vn) rfl (OpQ.y (OpY.pure rfl)) ?_
                refine Run.q (v := .slice A_ut1 (to.length) c_ut1) rfl (OpQ.y (OpY.pure rfl)) ?_
                refine Run.q (v := .bool true) rfl (OpQ.call (vs := [vn, .slice A_ut1 (to.length) c_ut1]) (caps := []) Tcall_28 rfl rfl (fun w hs => (by have h := sameInts_spec (xs := (rpS (mks 0 to.length) ((pmR to.length to).take k))) (ys := to) (hs.slOwn (.head _)) (hs.slOwn (.tail _ (.tail _ (.tail _ (List.Mem.head _))))); rw [decide_eq_true heq2] at h; exact h))) ?_
                refine Run.q (v := .bool true) rfl (OpQ.y (OpY.pure rfl)) ?_
                refine Run.done ?_
                refine Run.ret ?_
                refine ⟨.bool true, [], Out.one rfl rfl, (Some'.weak (.nil _)), ?_⟩
                rfl
      · have p129 := h129; try simp only [decide_eq_true_eq, decide_eq_false_iff_not, beq_iff_eq, bne_iff_ne, beq_eq_false_iff_ne, ne_eq, gt_iff_lt, ge_iff_le, Int.not_lt, Int.not_le, bne_eq_false_iff_eq, Bool.not_eq_true', Bool.not_eq_false', Bool.and_eq_true, Bool.and_eq_false_iff, Bool.or_eq_true, Bool.or_eq_false_iff, Decidable.not_not, List.cons.injEq, and_true] at p129
        refine Run.skip ?_
        refine Run.seq ?_
        refine Run.region ?_
        refine Run.q (v := .bool true) rfl (OpQ.y (OpY.pure rfl)) ?_
        refine Run.done ?_
        refine Run.ret ?_
        refine ⟨.bool true, [], Out.one rfl rfl, (Some'.weak (.nil _)), ?_⟩
        rfl

end Go.Proofs.Ytgghmjijjdboeaa
