/- Walks: GridGraph, LineGraph, the program and the reference. -/
import Derived.Test.YtgghmjijjdboeaaCg
import Derived.Test.YtgghmjijjdboeaaProg
set_option linter.unusedSimpArgs false
set_option linter.unusedVariables false
namespace Go.Proofs.Ytgghmjijjdboeaa
open Go Go.RowKit
namespace GrT
theorem Tagg_25 : aggOf Try.prog 25 = some 2 := by kernel_rfl
theorem Tcall_39 : callable Try.prog 39 = true := by kernel_rfl
theorem Tcall_40 : callable Try.prog 40 = true := by kernel_rfl
theorem Tcall_41 : callable Try.prog 41 = true := by kernel_rfl
theorem Tfo_25_0 : fieldOff Try.prog 25 0 = some 0 := by kernel_rfl
theorem Tfo_25_1 : fieldOff Try.prog 25 1 = some 1 := by kernel_rfl
theorem Tone_23 : oneOf Try.prog 23 = true := by kernel_rfl
theorem Tone_3 : oneOf Try.prog 3 = true := by kernel_rfl
theorem Tsize_23 : (Try.prog.info? 23).map (·.size) = some 1 := by kernel_rfl
theorem Tsize_25 : (Try.prog.info? 25).map (·.size) = some 2 := by kernel_rfl
theorem Tsl_23 : sliceOf Try.prog 23 = some (64, 2, 16, [.int .i64 0, .int .i64 0]) := by kernel_rfl
theorem Tzero_25 : zeroOf Try.prog 25 = some [.int .i64 0, .slice none 0 0] := by kernel_rfl
end GrT
open GrT

/-- Pairs as a flat list. -/
def fl2 : List (Int × Int) → List Int
  | [] => []
  | (a, b) :: l => a :: b :: fl2 l
@[simp] theorem fl2_length : ∀ l : List (Int × Int), (fl2 l).length = l.length * 2
  | [] => rfl
  | (_, _) :: l => by simp only [fl2, List.length_cons, fl2_length l]; omega
theorem fl2_append : ∀ l m : List (Int × Int), fl2 (l ++ m) = fl2 l ++ fl2 m
  | [], _ => rfl
  | (a, b) :: l, m => by simp only [List.cons_append, fl2, fl2_append l m]
/-- The edges that the program makes for the first k nodes. -/
def gE (C N : Int) : Nat → List (Int × Int)
  | 0 => []
  | k + 1 => gE C N k ++ (if (k : Int) % C + 1 < C then [((k : Int), (k : Int) + 1)] else []) ++ (if (k : Int) + C < N then [((k : Int), (k : Int) + C)] else [])
theorem gE_le (C N : Int) : ∀ k, (gE C N k).length ≤ 2 * k
  | 0 => by simp [gE]
  | k + 1 => by
    have := gE_le C N k
    simp only [gE, List.length_append]
    split <;> split <;> simp only [List.length_cons, List.length_nil] <;> omega
/-- The reference's: the pairs (a, b) for the b below a bound; for all a below one. -/
def gI (C a : Int) (b0 : Int) : Nat → List (Int × Int)
  | 0 => []
  | m + 1 => gI C a b0 m ++ (if b0 + m = a + C ∨ (b0 + m = a + 1 ∧ 0 < (b0 + m) % C) then [(a, b0 + m)] else [])
theorem gI_le (C a b0 : Int) : ∀ m, (gI C a b0 m).length ≤ m
  | 0 => by simp [gI]
  | m + 1 => by
    have := gI_le C a b0 m
    simp only [gI, List.length_append]
    split <;> simp only [List.length_cons, List.length_nil] <;> omega
def gS (C : Int) (N : Nat) : Nat → List (Int × Int)
  | 0 => []
  | k + 1 => gS C N k ++ gI C k (k + 1) (N - (k + 1))
theorem gS_le (C : Int) (N : Nat) : ∀ k, (gS C N k).length ≤ k * N
  | 0 => by simp [gS]
  | k + 1 => by
    have := gS_le C N k
    have := gI_le C k (k + 1) (N - (k + 1))
    simp only [gS, List.length_append]
    rw [Nat.add_mul]; omega
def gridOk (R C : Int) : Bool := within R 1 8 && within C 1 8 && decide (R * C ≤ 8)
theorem gridOk_iff {R C : Int} : gridOk R C = true ↔ (1 ≤ R ∧ R ≤ 8) ∧ (1 ≤ C ∧ C ≤ 8) ∧ R * C ≤ 8 := by simp [gridOk, within, and_assoc]
theorem small {x : Int} (h : 1 ≤ x ∧ x ≤ 8) : x = 1 ∨ x = 2 ∨ x = 3 ∨ x = 4 ∨ x = 5 ∨ x = 6 ∨ x = 7 ∨ x = 8 := by omega
/-- The two are one. -/
theorem grid_same {R C : Int} (h : gridOk R C = true) : gS C (R * C).toNat (R * C).toNat = gE C (R * C) (R * C).toNat := by
  obtain ⟨h1, h2, h3⟩ := gridOk_iff.1 h
  rcases small h1 with rfl | rfl | rfl | rfl | rfl | rfl | rfl | rfl <;> rcases small h2 with rfl | rfl | rfl | rfl | rfl | rfl | rfl | rfl <;> first | (exact absurd h3 (by decide)) | decide
def gridN (R C : Int) : Int := if gridOk R C then R * C else 0
def gridE (R C : Int) : List (Int × Int) := if gridOk R C then gE C (R * C) (R * C).toNat else []
theorem mul_range {R C : Int} (h1 : 1 ≤ R ∧ R ≤ 8) (h2 : 1 ≤ C ∧ C ≤ 8) : 1 ≤ R * C ∧ R * C ≤ 64 := by
  rcases small h1 with rfl | rfl | rfl | rfl | rfl | rfl | rfl | rfl <;> omega

set_option maxHeartbeats 1000000 in
set_option maxRecDepth 20000 in
theorem GridGraph_spec (R C : Int) (w : World) : Calls Try.prog 40 #[.int .i64 R, .int .i64 C] w (Post No w fun v H => ∃ u, v = .tuple #[.agg #[.int .i64 (gridN R C), u], .bool (gridOk R C)] ∧ H = [.own u 64 2 (gridE R C).length (ints (fl2 (gridE R C)))]) := by
  refine enter (n := 65) (args := [.int .i64 R, .int .i64 C]) Try.func40 rfl rfl (St.empty _ _) ?_
  refine Run.seq ?_
  refine Run.region ?_
  refine Run.step rfl (OpStep.alloc (zs := [.int .i64 0, .slice none 0 0]) Tzero_25 fun b1 => ?_)
  refine Run.q (v := .bool false) rfl (OpQ.y (OpY.pure rfl)) ?_
  refine Run.done ?_
  refine Run.seq ?_
  refine Run.seq ?_
  refine Run.region ?_
  refine Run.q (v := .int .i64 R) rfl (OpQ.y (OpY.pure rfl)) ?_
  refine Run.q (v := .bool (within R 1 8)) rfl (OpQ.call (vs := [.int .i64 R, .int .i64 1, .int .i64 8]) (caps := []) Tcall_39 rfl rfl (fun w hs => within_spec _ _ _ w)) ?_
  refine Run.q (v := .bool (!(within R 1 8))) rfl (OpQ.y (OpY.pure rfl)) ?_
  rcases Bool.eq_false_or_eq_true (!(within R 1 8)) with h11 | h11
  · refine Run.q (v := .bool true) rfl (OpQ.y (OpY.moveB rfl h11)) ?_
    have p11 := h11; try simp only [decide_eq_true_eq, decide_eq_false_iff_not, beq_iff_eq, bne_iff_ne, beq_eq_false_iff_ne, ne_eq, gt_iff_lt, ge_iff_le, Int.not_lt, Int.not_le, bne_eq_false_iff_eq, Bool.not_eq_true', Bool.not_eq_false', Bool.and_eq_true, Bool.and_eq_false_iff, Bool.or_eq_true, Bool.or_eq_false_iff, Decidable.not_not, List.cons.injEq, and_true] at p11
    refine Run.pass rfl ?_
    refine Run.pass rfl ?_
    refine Run.pass rfl ?_
    refine Run.q (v := .bool true) rfl (OpQ.y (OpY.pure rfl)) ?_
    refine Run.q (v := .bool true) rfl (OpQ.y (OpY.pure rfl)) ?_
    refine Run.pass rfl ?_
    refine Run.pass rfl ?_
    refine Run.pass rfl ?_
    refine Run.pass rfl ?_
    refine Run.q (v := .bool true) rfl (OpQ.y (OpY.pure rfl)) ?_
    refine Run.done ?_
    refine Run.cond (b := true) rfl (fun _ => ?_) (fun h => nomatch h)
    refine Run.seq ?_
    refine Run.region ?_
    refine Run.q (v := .agg #[.int .i64 0, .slice none 0 0]) rfl (OpQ.y (OpY.build (cs := [.int .i64 0, .slice none 0 0]) (by kernel_rfl))) ?_
    refine Run.step rfl (OpStep.storeAll (us := [.int .i64 0, .slice none 0 0]) Tsize_25 rfl rfl rfl (.here _) rfl ?_)
    refine Run.q (v := .bool false) rfl (OpQ.y (OpY.pure rfl)) ?_
    refine Run.done ?_
    refine Run.ret ?_
    refine ⟨.tuple #[.agg #[.int .i64 0, .slice none 0 0], .bool false], [.own (.slice none 0 0) 64 2 0 ([])], Out.cell2 (cs := [.int .i64 0, .slice none 0 0]) rfl Tagg_25 rfl (Cells.blk (.head _) ⟨rfl, rfl, trivial⟩) rfl, ((Weak.nilOwn 64 2).trans (Some'.weak (.take (.nil _)))), ?_⟩
    have hok : gridOk R C = false := by
      rcases Bool.eq_false_or_eq_true (gridOk R C) with h | h
      · have h' := gridOk_iff.1 h; simp_all [within] <;> omega
      · exact h
    exact ⟨_, by rw [hok, gridN, if_neg (by rw [hok]; decide)], by simp [gridE, hok, fl2, ints]⟩
  · refine Run.q (v := .bool false) rfl (OpQ.y (OpY.moveB rfl h11)) ?_
    have p11 := h11; try simp only [decide_eq_true_eq, decide_eq_false_iff_not, beq_iff_eq, bne_iff_ne, beq_eq_false_iff_ne, ne_eq, gt_iff_lt, ge_iff_le, Int.not_lt, Int.not_le, bne_eq_false_iff_eq, Bool.not_eq_true', Bool.not_eq_false', Bool.and_eq_true, Bool.and_eq_false_iff, Bool.or_eq_true, Bool.or_eq_false_iff, Decidable.not_not, List.cons.injEq, and_true] at p11
    refine Run.q (v := .int .i64 C) rfl (OpQ.y (OpY.pure rfl)) ?_
    refine Run.q (v := .bool (within C 1 8)) rfl (OpQ.call (vs := [.int .i64 C, .int .i64 1, .int .i64 8]) (caps := []) Tcall_39 rfl rfl (fun w hs => within_spec _ _ _ w)) ?_
    refine Run.q (v := .bool (!(within C 1 8))) rfl (OpQ.y (OpY.pure rfl)) ?_
    refine Run.q (v := .bool (!(within C 1 8))) rfl (OpQ.y (OpY.pure rfl)) ?_
    rcases Bool.eq_false_or_eq_true (!(within C 1 8)) with h16 | h16
    · refine Run.q (v := .bool true) rfl (OpQ.y (OpY.moveB rfl h16)) ?_
      have p16 := h16; try simp only [decide_eq_true_eq, decide_eq_false_iff_not, beq_iff_eq, bne_iff_ne, beq_eq_false_iff_ne, ne_eq, gt_iff_lt, ge_iff_le, Int.not_lt, Int.not_le, bne_eq_false_iff_eq, Bool.not_eq_true', Bool.not_eq_false', Bool.and_eq_true, Bool.and_eq_false_iff, Bool.or_eq_true, Bool.or_eq_false_iff, Decidable.not_not, List.cons.injEq, and_true] at p16
      refine Run.pass rfl ?_
      refine Run.pass rfl ?_
      refine Run.pass rfl ?_
      refine Run.pass rfl ?_
      refine Run.q (v := .bool true) rfl (OpQ.y (OpY.pure rfl)) ?_
      refine Run.done ?_
      refine Run.cond (b := true) rfl (fun _ => ?_) (fun h => nomatch h)
      refine Run.seq ?_
      refine Run.region ?_
      refine Run.q (v := .agg #[.int .i64 0, .slice none 0 0]) rfl (OpQ.y (OpY.build (cs := [.int .i64 0, .slice none 0 0]) (by kernel_rfl))) ?_
      refine Run.step rfl (OpStep.storeAll (us := [.int .i64 0, .slice none 0 0]) Tsize_25 rfl rfl rfl (.here _) rfl ?_)
      refine Run.q (v := .bool false) rfl (OpQ.y (OpY.pure rfl)) ?_
      refine Run.done ?_
      refine Run.ret ?_
      refine ⟨.tuple #[.agg #[.int .i64 0, .slice none 0 0], .bool false], [.own (.slice none 0 0) 64 2 0 ([])], Out.cell2 (cs := [.int .i64 0, .slice none 0 0]) rfl Tagg_25 rfl (Cells.blk (.head _) ⟨rfl, rfl, trivial⟩) rfl, ((Weak.nilOwn 64 2).trans (Some'.weak (.take (.nil _)))), ?_⟩
      have hok : gridOk R C = false := by
        rcases Bool.eq_false_or_eq_true (gridOk R C) with h | h
        · have h' := gridOk_iff.1 h; simp_all [within] <;> omega
        · exact h
      exact ⟨_, by rw [hok, gridN, if_neg (by rw [hok]; decide)], by simp [gridE, hok, fl2, ints]⟩
    · refine Run.q (v := .bool false) rfl (OpQ.y (OpY.moveB rfl h16)) ?_
      have p16 := h16; try simp only [decide_eq_true_eq, decide_eq_false_iff_not, beq_iff_eq, bne_iff_ne, beq_eq_false_iff_ne, ne_eq, gt_iff_lt, ge_iff_le, Int.not_lt, Int.not_le, bne_eq_false_iff_eq, Bool.not_eq_true', Bool.not_eq_false', Bool.and_eq_true, Bool.and_eq_false_iff, Bool.or_eq_true, Bool.or_eq_false_iff, Decidable.not_not, List.cons.injEq, and_true] at p16
      have hq : within R 1 8 = true := by simpa using p11
      have hp : within C 1 8 = true := by simpa using p16
      have hq2 := within_iff.1 hq
      have hp2 := within_iff.1 hp
      have hm := mul_range hq2 hp2
      refine Run.q (v := .int .i64 R) rfl (OpQ.y (OpY.pure rfl)) ?_
      refine Run.q (v := .int .i64 C) rfl (OpQ.y (OpY.pure rfl)) ?_
      refine Run.q (v := .int .i64 (R * C)) rfl (OpQ.y (OpY.mul rfl rfl (by first | rfl | grind) (by omega) (by omega))) ?_
      refine Run.q (v := .bool (decide ((R * C) > 8))) rfl (OpQ.y (OpY.pure rfl)) ?_
      refine Run.q (v := .bool (decide ((R * C) > 8))) rfl (OpQ.y (OpY.pure rfl)) ?_
      refine Run.done ?_
      refine Run.cond (b := decide ((R * C) > 8)) rfl (fun h21 => ?_) (fun h21 => ?_)
      · have p21 := h21; try simp only [decide_eq_true_eq, decide_eq_false_iff_not, beq_iff_eq, bne_iff_ne, beq_eq_false_iff_ne, ne_eq, gt_iff_lt, ge_iff_le, Int.not_lt, Int.not_le, bne_eq_false_iff_eq, Bool.not_eq_true', Bool.not_eq_false', Bool.and_eq_true, Bool.and_eq_false_iff, Bool.or_eq_true, Bool.or_eq_false_iff, Decidable.not_not, List.cons.injEq, and_true] at p21
        refine Run.seq ?_
        refine Run.region ?_
        refine Run.q (v := .agg #[.int .i64 0, .slice none 0 0]) rfl (OpQ.y (OpY.build (cs := [.int .i64 0, .slice none 0 0]) (by kernel_rfl))) ?_
        refine Run.step rfl (OpStep.storeAll (us := [.int .i64 0, .slice none 0 0]) Tsize_25 rfl rfl rfl (.here _) rfl ?_)
        refine Run.q (v := .bool false) rfl (OpQ.y (OpY.pure rfl)) ?_
        refine Run.done ?_
        refine Run.ret ?_
        refine ⟨.tuple #[.agg #[.int .i64 0, .slice none 0 0], .bool false], [.own (.slice none 0 0) 64 2 0 ([])], Out.cell2 (cs := [.int .i64 0, .slice none 0 0]) rfl Tagg_25 rfl (Cells.blk (.head _) ⟨rfl, rfl, trivial⟩) rfl, ((Weak.nilOwn 64 2).trans (Some'.weak (.take (.nil _)))), ?_⟩
        have hok : gridOk R C = false := by
          rcases Bool.eq_false_or_eq_true (gridOk R C) with h | h
          · have h' := gridOk_iff.1 h; simp_all [within] <;> omega
          · exact h
        exact ⟨_, by rw [hok, gridN, if_neg (by rw [hok]; decide)], by simp [gridE, hok, fl2, ints]⟩
      · have p21 := h21; try simp only [decide_eq_true_eq, decide_eq_false_iff_not, beq_iff_eq, bne_iff_ne, beq_eq_false_iff_ne, ne_eq, gt_iff_lt, ge_iff_le, Int.not_lt, Int.not_le, bne_eq_false_iff_eq, Bool.not_eq_true', Bool.not_eq_false', Bool.and_eq_true, Bool.and_eq_false_iff, Bool.or_eq_true, Bool.or_eq_false_iff, Decidable.not_not, List.cons.injEq, and_true] at p21
        refine Run.skip ?_
        refine Run.seq ?_
        refine Run.region ?_
        refine Run.q (v := .int .i64 R) rfl (OpQ.y (OpY.pure rfl)) ?_
        refine Run.q (v := .int .i64 C) rfl (OpQ.y (OpY.pure rfl)) ?_
        refine Run.q (v := .int .i64 (R * C)) rfl (OpQ.y (OpY.mul rfl rfl (by first | rfl | grind) (by omega) (by omega))) ?_
        refine Run.q (v := .agg #[.int .i64 (R * C), .slice none 0 0]) rfl (OpQ.y (OpY.build (cs := [.int .i64 (R * C), .slice none 0 0]) (by kernel_rfl))) ?_
        refine Run.step rfl (OpStep.alloc (zs := [.int .i64 0, .slice none 0 0]) Tzero_25 fun b2 => ?_)
        refine Run.step rfl (OpStep.storeAll (us := [.int .i64 (R * C), .slice none 0 0]) Tsize_25 rfl rfl rfl (.here _) rfl ?_)
        refine Run.done ?_
        refine Run.seq ?_
        refine Run.seq ?_
        refine Run.region ?_
        refine Run.q (v := .pointer (some ⟨b2, 0, none⟩)) rfl (OpQ.y (OpY.fieldAddr Tfo_25_0 rfl rfl)) ?_
        refine Run.q (v := .int .i64 (R * C)) rfl (OpQ.y (OpY.load1 Tone_3 rfl (Cells.blk (.head _) ⟨rfl, trivial⟩))) ?_
        refine Run.q (v := .int .i64 0) rfl (OpQ.y (OpY.pure rfl)) ?_
        refine Run.done ?_
        refine Run.block ?_
        refine Run.loop (ι := Nat × Value) [7, 29, 30, 31, 32, 33, 34, 35, 36, 37, 38, 39, 40, 41, 42, 43, 44, 45, 46, 47, 48, 49, 50, 51, 52, 53, 54, 55, 56, 57, 58, 59, 60, 61, 62, 63] (fun ⟨k, v⟩ => [(29, .int .i64 (((k : Nat) : Int)))]) (fun ⟨k, v⟩ => [.own v 64 2 ((gE C (R * C) k).length) (ints (fl2 (gE C (R * C) k))), .blk b2 25 [.int .i64 (R * C), v], .blk b1 25 [.int .i64 0, .slice none 0 0]]) (fun ⟨k, v⟩ => (k : Int) ≤ R * C) (fun ⟨k, v⟩ => (R * C).toNat - k) (0, .slice none 0 0) ?_ ?_ ?_ ?_
        · show ((0 : Nat) : Int) ≤ _; omega
        · exact ⟨rfl, trivial⟩
        · exact ((Weak.nilOwn 64 2).trans (Some'.weak (.takeEq rfl (.takeEq rfl (.take (.nil _))))))
        · rintro ⟨k, v⟩ fr hinv
          show Run _ _ (over _ _ [(29, .int .i64 (((k : Nat) : Int)))] fr) [.own v 64 2 ((gE C (R * C) k).length) (ints (fl2 (gE C (R * C) k))), .blk b2 25 [.int .i64 (R * C), v], .blk b1 25 [.int .i64 0, .slice none 0 0]]
          try dsimp only at hinv
          refine Run.seq ?_
          refine Run.region ?_
          refine Run.q (v := .bool (decide ((((k : Nat) : Int)) < (R * C)))) rfl (OpQ.y (OpY.pure rfl)) ?_
          refine Run.done ?_
          refine Run.seq ?_
          refine Run.cond (b := decide ((((k : Nat) : Int)) < (R * C))) rfl (fun h30 => ?_) (fun h30 => ?_)
          · have p30 := h30; try simp only [decide_eq_true_eq, decide_eq_false_iff_not, beq_iff_eq, bne_iff_ne, beq_eq_false_iff_ne, ne_eq, gt_iff_lt, ge_iff_le, Int.not_lt, Int.not_le, bne_eq_false_iff_eq, Bool.not_eq_true', Bool.not_eq_false', Bool.and_eq_true, Bool.and_eq_false_iff, Bool.or_eq_true, Bool.or_eq_false_iff, Decidable.not_not, List.cons.injEq, and_true] at p30
            have hr := Int.emod_nonneg (k : Int) (by omega : C ≠ 0)
            have hr2 := Int.emod_lt_of_pos (k : Int) (by omega : 0 < C)
            have hle := gE_le C (R * C) k
            refine Run.skip ?_
            refine Run.seq ?_
            refine Run.block ?_
            refine Run.seq ?_
            refine Run.region ?_
            refine Run.q (v := .int .i64 (((k : Nat) : Int))) rfl (OpQ.y (OpY.pure rfl)) ?_
            refine Run.q (v := .int .i64 (((k : Nat) : Int))) rfl (OpQ.y (OpY.pure rfl)) ?_
            refine Run.done ?_
            refine Run.seq ?_
            refine Run.seq ?_
            refine Run.region ?_
            refine Run.q (v := .int .i64 (((k : Nat) : Int))) rfl (OpQ.y (OpY.pure rfl)) ?_
            refine Run.q (v := .int .i64 C) rfl (OpQ.y (OpY.pure rfl)) ?_
            refine Run.q (v := .int .i64 ((((k : Nat) : Int)) % C)) rfl (OpQ.y (OpY.rem rfl rfl (by omega) (by omega))) ?_
            refine Run.q (v := .int .i64 (((((k : Nat) : Int)) % C) + 1)) rfl (OpQ.y (OpY.add rfl rfl rfl (by omega) (by omega))) ?_
            refine Run.q (v := .int .i64 C) rfl (OpQ.y (OpY.pure rfl)) ?_
            refine Run.q (v := .bool (decide ((((((k : Nat) : Int)) % C) + 1) < C))) rfl (OpQ.y (OpY.pure rfl)) ?_
            refine Run.done ?_
            refine Run.cond (b := decide ((((((k : Nat) : Int)) % C) + 1) < C)) rfl (fun h37 => ?_) (fun h37 => ?_)
            · have p37 := h37; try simp only [decide_eq_true_eq, decide_eq_false_iff_not, beq_iff_eq, bne_iff_ne, beq_eq_false_iff_ne, ne_eq, gt_iff_lt, ge_iff_le, Int.not_lt, Int.not_le, bne_eq_false_iff_eq, Bool.not_eq_true', Bool.not_eq_false', Bool.and_eq_true, Bool.and_eq_false_iff, Bool.or_eq_true, Bool.or_eq_false_iff, Decidable.not_not, List.cons.injEq, and_true] at p37
              refine Run.region ?_
              refine Run.q (v := .pointer (some ⟨b2, 1, none⟩)) rfl (OpQ.y (OpY.fieldAddr Tfo_25_1 rfl rfl)) ?_
              refine Run.q (v := v) rfl (OpQ.y (OpY.load1 Tone_23 rfl (Cells.blk (.tail _ (List.Mem.head _)) ⟨rfl, trivial⟩))) ?_
              refine Run.q (v := .int .i64 (((k : Nat) : Int))) rfl (OpQ.y (OpY.pure rfl)) ?_
              refine Run.q (v := .int .i64 (((k : Nat) : Int))) rfl (OpQ.y (OpY.pure rfl)) ?_
              refine Run.q (v := .int .i64 ((((k : Nat) : Int)) + 1)) rfl (OpQ.y (OpY.add rfl rfl rfl (by omega) (by omega))) ?_
              refine Run.q (v := .agg #[.int .i64 (((k : Nat) : Int)), .int .i64 ((((k : Nat) : Int)) + 1)]) rfl (OpQ.y (OpY.build (cs := [.int .i64 (((k : Nat) : Int)), .int .i64 ((((k : Nat) : Int)) + 1)]) (by kernel_rfl))) ?_
              refine Run.step rfl (OpStep.buildSlice (us := [.int .i64 (((k : Nat) : Int)), .int .i64 ((((k : Nat) : Int)) + 1)]) Tsl_23 (by decide) (by decide) ⟨rfl, [.int .i64 (((k : Nat) : Int)), .int .i64 ((((k : Nat) : Int)) + 1)], _, rfl, rfl, rfl, rfl⟩ rfl fun b3 => ?_)
              refine Run.step rfl (OpStep.append (H1 := [.own (.slice (some ⟨b3, 0, none⟩) 1 1) 64 2 1 ([.int .i64 (((k : Nat) : Int)), .int .i64 ((((k : Nat) : Int)) + 1)])]) (H2 := [.blk b2 25 [.int .i64 (R * C), v], .blk b1 25 [.int .i64 0, .slice none 0 0]]) (v := v) (u := .slice (some ⟨b3, 0, none⟩) 1 1) (n := (gE C (R * C) k).length) (m := 1) (xs := ints (fl2 (gE C (R * C) k))) (ys := [.int .i64 (((k : Nat) : Int)), .int .i64 ((((k : Nat) : Int)) + 1)]) Tsl_23 (by decide) rfl rfl rfl rfl (fun w hs => hs.slOwn (.head _)) (by simp [Value.oneCell']) (by first | omega | (simp only [List.length_append, List.length_cons, List.length_nil]; omega)) (by simp only [maxLen]; first | omega | (simp only [List.length_append, List.length_cons, List.length_nil]; omega)) fun av1 hnav1 => ?_)
              refine Run.weak (H' := [.own (.slice (some ⟨b3, 0, none⟩) 1 1) 64 2 1 ([.int .i64 (((k : Nat) : Int)), .int .i64 ((((k : Nat) : Int)) + 1)]), .own av1 64 2 ((gE C (R * C) k ++ [((k : Int), (k : Int) + 1)]).length) (ints (fl2 (gE C (R * C) k ++ [((k : Int), (k : Int) + 1)]))), .blk b2 25 [.int .i64 (R * C), v], .blk b1 25 [.int .i64 0, .slice none 0 0]]) (Some'.weak (.take (.takeEq (by simp [fl2_append, fl2, ints, List.append_assoc, Nat.add_assoc]) (.take (.take (.nil _)))))) ?_ ⟨_, _, rfl, fun _ => nofun, fun _ => nofun⟩
              refine Run.q (v := .pointer (some ⟨b2, 1, none⟩)) rfl (OpQ.y (OpY.fieldAddr Tfo_25_1 rfl rfl)) ?_
              refine Run.formOwn (.tail _ (List.Mem.head _)) (fun A_av11 c_av11 hv hcapc_av11 hmaxc_av11 => ?_) (fun _ _ _ => ⟨nofun, nofun, nofun⟩)
              subst hv
              refine Run.step rfl (OpStep.store (us := [.slice A_av11 ((gE C (R * C) k ++ [((k : Int), (k : Int) + 1)]).length) c_av11]) Tsize_23 rfl rfl rfl (.there _ (.there _ (.here _))) (by simp only [List.length_cons, List.length_nil]; omega) ?_)
              show Run _ _ _ [.own (.slice (some ⟨b3, 0, none⟩) 1 1) 64 2 1 ([.int .i64 (((k : Nat) : Int)), .int .i64 ((((k : Nat) : Int)) + 1)]), .own (.slice A_av11 ((gE C (R * C) k ++ [((k : Int), (k : Int) + 1)]).length) c_av11) 64 2 ((gE C (R * C) k ++ [((k : Int), (k : Int) + 1)]).length) (ints (fl2 (gE C (R * C) k ++ [((k : Int), (k : Int) + 1)]))), .blk b2 25 [.int .i64 (R * C), .slice A_av11 ((gE C (R * C) k ++ [((k : Int), (k : Int) + 1)]).length) c_av11], .blk b1 25 [.int .i64 0, .slice none 0 0]]
              refine Run.done ?_
              refine Run.seq ?_
              refine Run.region ?_
              refine Run.q (v := .int .i64 (((k : Nat) : Int))) rfl (OpQ.y (OpY.pure rfl)) ?_
              refine Run.q (v := .int .i64 C) rfl (OpQ.y (OpY.pure rfl)) ?_
              refine Run.q (v := .int .i64 ((((k : Nat) : Int)) + C)) rfl (OpQ.y (OpY.add rfl rfl rfl (by omega) (by omega))) ?_
              refine Run.q (v := .pointer (some ⟨b2, 0, none⟩)) rfl (OpQ.y (OpY.fieldAddr Tfo_25_0 rfl rfl)) ?_
              refine Run.q (v := .int .i64 (R * C)) rfl (OpQ.y (OpY.load1 Tone_3 rfl (Cells.blk (.tail _ (.tail _ (List.Mem.head _))) ⟨rfl, trivial⟩))) ?_
              refine Run.q (v := .bool (decide (((((k : Nat) : Int)) + C) < (R * C)))) rfl (OpQ.y (OpY.pure rfl)) ?_
              refine Run.done ?_
              refine Run.cond (b := decide (((((k : Nat) : Int)) + C) < (R * C))) rfl (fun h52 => ?_) (fun h52 => ?_)
              · have p52 := h52; try simp only [decide_eq_true_eq, decide_eq_false_iff_not, beq_iff_eq, bne_iff_ne, beq_eq_false_iff_ne, ne_eq, gt_iff_lt, ge_iff_le, Int.not_lt, Int.not_le, bne_eq_false_iff_eq, Bool.not_eq_true', Bool.not_eq_false', Bool.and_eq_true, Bool.and_eq_false_iff, Bool.or_eq_true, Bool.or_eq_false_iff, Decidable.not_not, List.cons.injEq, and_true] at p52
                refine Run.region ?_
                refine Run.q (v := .pointer (some ⟨b2, 1, none⟩)) rfl (OpQ.y (OpY.fieldAddr Tfo_25_1 rfl rfl)) ?_
                refine Run.q (v := .slice A_av11 ((gE C (R * C) k ++ [((k : Int), (k : Int) + 1)]).length) c_av11) rfl (OpQ.y (OpY.load1 Tone_23 rfl (Cells.blk (.tail _ (.tail _ (List.Mem.head _))) ⟨rfl, trivial⟩))) ?_
                refine Run.q (v := .int .i64 (((k : Nat) : Int))) rfl (OpQ.y (OpY.pure rfl)) ?_
                refine Run.q (v := .int .i64 (((k : Nat) : Int))) rfl (OpQ.y (OpY.pure rfl)) ?_
                refine Run.q (v := .int .i64 C) rfl (OpQ.y (OpY.pure rfl)) ?_
                refine Run.q (v := .int .i64 ((((k : Nat) : Int)) + C)) rfl (OpQ.y (OpY.add rfl rfl rfl (by omega) (by omega))) ?_
                refine Run.q (v := .agg #[.int .i64 (((k : Nat) : Int)), .int .i64 ((((k : Nat) : Int)) + C)]) rfl (OpQ.y (OpY.build (cs := [.int .i64 (((k : Nat) : Int)), .int .i64 ((((k : Nat) : Int)) + C)]) (by kernel_rfl))) ?_
                refine Run.step rfl (OpStep.buildSlice (us := [.int .i64 (((k : Nat) : Int)), .int .i64 ((((k : Nat) : Int)) + C)]) Tsl_23 (by decide) (by decide) ⟨rfl, [.int .i64 (((k : Nat) : Int)), .int .i64 ((((k : Nat) : Int)) + C)], _, rfl, rfl, rfl, rfl⟩ rfl fun b4 => ?_)
                refine Run.step rfl (OpStep.append (H1 := [.own (.slice (some ⟨b4, 0, none⟩) 1 1) 64 2 1 ([.int .i64 (((k : Nat) : Int)), .int .i64 ((((k : Nat) : Int)) + C)]), .own (.slice (some ⟨b3, 0, none⟩) 1 1) 64 2 1 ([.int .i64 (((k : Nat) : Int)), .int .i64 ((((k : Nat) : Int)) + 1)])]) (H2 := [.blk b2 25 [.int .i64 (R * C), .slice A_av11 ((gE C (R * C) k ++ [((k : Int), (k : Int) + 1)]).length) c_av11], .blk b1 25 [.int .i64 0, .slice none 0 0]]) (v := .slice A_av11 ((gE C (R * C) k ++ [((k : Int), (k : Int) + 1)]).length) c_av11) (u := .slice (some ⟨b4, 0, none⟩) 1 1) (n := (gE C (R * C) k ++ [((k : Int), (k : Int) + 1)]).length) (m := 1) (xs := ints (fl2 (gE C (R * C) k ++ [((k : Int), (k : Int) + 1)]))) (ys := [.int .i64 (((k : Nat) : Int)), .int .i64 ((((k : Nat) : Int)) + C)]) Tsl_23 (by decide) rfl rfl rfl rfl (fun w hs => hs.slOwn (.head _)) (by simp [Value.oneCell']) (by first | omega | (simp only [List.length_append, List.length_cons, List.length_nil]; omega)) (by simp only [maxLen]; first | omega | (simp only [List.length_append, List.length_cons, List.length_nil]; omega)) fun av2 hnav2 => ?_)
                refine Run.weak (H' := [.own (.slice (some ⟨b4, 0, none⟩) 1 1) 64 2 1 ([.int .i64 (((k : Nat) : Int)), .int .i64 ((((k : Nat) : Int)) + C)]), .own (.slice (some ⟨b3, 0, none⟩) 1 1) 64 2 1 ([.int .i64 (((k : Nat) : Int)), .int .i64 ((((k : Nat) : Int)) + 1)]), .own av2 64 2 ((gE C (R * C) k ++ [((k : Int), (k : Int) + 1)] ++ [((k : Int), (k : Int) + C)]).length) (ints (fl2 (gE C (R * C) k ++ [((k : Int), (k : Int) + 1)] ++ [((k : Int), (k : Int) + C)]))), .blk b2 25 [.int .i64 (R * C), .slice A_av11 ((gE C (R * C) k ++ [((k : Int), (k : Int) + 1)]).length) c_av11], .blk b1 25 [.int .i64 0, .slice none 0 0]]) (Some'.weak (.take (.take (.takeEq (by simp [fl2_append, fl2, ints, List.append_assoc, Nat.add_assoc]) (.take (.take (.nil _))))))) ?_ ⟨_, _, rfl, fun _ => nofun, fun _ => nofun⟩
                refine Run.q (v := .pointer (some ⟨b2, 1, none⟩)) rfl (OpQ.y (OpY.fieldAddr Tfo_25_1 rfl rfl)) ?_
                refine Run.formOwn (.tail _ (.tail _ (List.Mem.head _))) (fun A_av21 c_av21 hv hcapc_av21 hmaxc_av21 => ?_) (fun _ _ _ => ⟨nofun, nofun, nofun⟩)
                subst hv
                refine Run.step rfl (OpStep.store (us := [.slice A_av21 ((gE C (R * C) k ++ [((k : Int), (k : Int) + 1)] ++ [((k : Int), (k : Int) + C)]).length) c_av21]) Tsize_23 rfl rfl rfl (.there _ (.there _ (.there _ (.here _)))) (by simp only [List.length_cons, List.length_nil]; omega) ?_)
                show Run _ _ _ [.own (.slice (some ⟨b4, 0, none⟩) 1 1) 64 2 1 ([.int .i64 (((k : Nat) : Int)), .int .i64 ((((k : Nat) : Int)) + C)]), .own (.slice (some ⟨b3, 0, none⟩) 1 1) 64 2 1 ([.int .i64 (((k : Nat) : Int)), .int .i64 ((((k : Nat) : Int)) + 1)]), .own (.slice A_av21 ((gE C (R * C) k ++ [((k : Int), (k : Int) + 1)] ++ [((k : Int), (k : Int) + C)]).length) c_av21) 64 2 ((gE C (R * C) k ++ [((k : Int), (k : Int) + 1)] ++ [((k : Int), (k : Int) + C)]).length) (ints (fl2 (gE C (R * C) k ++ [((k : Int), (k : Int) + 1)] ++ [((k : Int), (k : Int) + C)]))), .blk b2 25 [.int .i64 (R * C), .slice A_av21 ((gE C (R * C) k ++ [((k : Int), (k : Int) + 1)] ++ [((k : Int), (k : Int) + C)]).length) c_av21], .blk b1 25 [.int .i64 0, .slice none 0 0]]
                refine Run.done ?_
                refine Run.blockEnd ?_
                refine Run.region ?_
                refine Run.q (v := .int .i64 ((((k : Nat) : Int)) + 1)) rfl (OpQ.y (OpY.add rfl rfl rfl (by omega) (by omega))) ?_
                refine Run.q (v := .int .i64 ((((k : Nat) : Int)) + 1)) rfl (OpQ.y (OpY.pure rfl)) ?_
                refine Run.done ?_
                have hX : gE C (R * C) (k + 1) = gE C (R * C) k ++ [((k : Int), (k : Int) + 1)] ++ [((k : Int), (k : Int) + C)] := by
                  simp only [gE]
                  first | rw [if_pos p37, if_pos p52] | rw [if_pos p37, if_neg (by omega), List.append_nil] | rw [if_neg (by omega), if_pos p52, List.append_nil] | rw [if_neg (by omega), if_neg (by omega), List.append_nil, List.append_nil]
                refine Run.goal ⟨(by repeat (first | exact Same.refl _ _ | refine Same.put rfl ?_ | refine Same.over rfl rfl ?_)), (k + 1, .slice A_av21 ((gE C (R * C) k ++ [((k : Int), (k : Int) + 1)] ++ [((k : Int), (k : Int) + C)]).length) c_av21), ?_, ?_, ?_, ?_⟩
                · show ((k + 1 : Nat) : Int) ≤ _; omega
                · show (R * C).toNat - (k + 1) < (R * C).toNat - k; omega
                · exact ⟨(by first | rfl | (congr 1; omega) | simp), trivial⟩
                · exact (Some'.weak (.skip (.skip (.takeEq (by first | rw [hX] | rfl) (.takeEq (by first | rw [hX] | rfl) (.take (.nil _)))))))
              · have p52 := h52; try simp only [decide_eq_true_eq, decide_eq_false_iff_not, beq_iff_eq, bne_iff_ne, beq_eq_false_iff_ne, ne_eq, gt_iff_lt, ge_iff_le, Int.not_lt, Int.not_le, bne_eq_false_iff_eq, Bool.not_eq_true', Bool.not_eq_false', Bool.and_eq_true, Bool.and_eq_false_iff, Bool.or_eq_true, Bool.or_eq_false_iff, Decidable.not_not, List.cons.injEq, and_true] at p52
                refine Run.skip ?_
                refine Run.blockEnd ?_
                refine Run.region ?_
                refine Run.q (v := .int .i64 ((((k : Nat) : Int)) + 1)) rfl (OpQ.y (OpY.add rfl rfl rfl (by omega) (by omega))) ?_
                refine Run.q (v := .int .i64 ((((k : Nat) : Int)) + 1)) rfl (OpQ.y (OpY.pure rfl)) ?_
                refine Run.done ?_
                have hX : gE C (R * C) (k + 1) = gE C (R * C) k ++ [((k : Int), (k : Int) + 1)] := by
                  simp only [gE]
                  first | rw [if_pos p37, if_pos p52] | rw [if_pos p37, if_neg (by omega), List.append_nil] | rw [if_neg (by omega), if_pos p52, List.append_nil] | rw [if_neg (by omega), if_neg (by omega), List.append_nil, List.append_nil]
                refine Run.goal ⟨(by repeat (first | exact Same.refl _ _ | refine Same.put rfl ?_ | refine Same.over rfl rfl ?_)), (k + 1, .slice A_av11 ((gE C (R * C) k ++ [((k : Int), (k : Int) + 1)]).length) c_av11), ?_, ?_, ?_, ?_⟩
                · show ((k + 1 : Nat) : Int) ≤ _; omega
                · show (R * C).toNat - (k + 1) < (R * C).toNat - k; omega
                · exact ⟨(by first | rfl | (congr 1; omega) | simp), trivial⟩
                · exact (Some'.weak (.skip (.takeEq (by first | rw [hX] | rfl) (.takeEq (by first | rw [hX] | rfl) (.take (.nil _))))))
            · have p37 := h37; try simp only [decide_eq_true_eq, decide_eq_false_iff_not, beq_iff_eq, bne_iff_ne, beq_eq_false_iff_ne, ne_eq, gt_iff_lt, ge_iff_le, Int.not_lt, Int.not_le, bne_eq_false_iff_eq, Bool.not_eq_true', Bool.not_eq_false', Bool.and_eq_true, Bool.and_eq_false_iff, Bool.or_eq_true, Bool.or_eq_false_iff, Decidable.not_not, List.cons.injEq, and_true] at p37
              refine Run.skip ?_
              refine Run.seq ?_
              refine Run.region ?_
              refine Run.q (v := .int .i64 (((k : Nat) : Int))) rfl (OpQ.y (OpY.pure rfl)) ?_
              refine Run.q (v := .int .i64 C) rfl (OpQ.y (OpY.pure rfl)) ?_
              refine Run.q (v := .int .i64 ((((k : Nat) : Int)) + C)) rfl (OpQ.y (OpY.add rfl rfl rfl (by omega) (by omega))) ?_
              refine Run.q (v := .pointer (some ⟨b2, 0, none⟩)) rfl (OpQ.y (OpY.fieldAddr Tfo_25_0 rfl rfl)) ?_
              refine Run.q (v := .int .i64 (R * C)) rfl (OpQ.y (OpY.load1 Tone_3 rfl (Cells.blk (.tail _ (List.Mem.head _)) ⟨rfl, trivial⟩))) ?_
              refine Run.q (v := .bool (decide (((((k : Nat) : Int)) + C) < (R * C)))) rfl (OpQ.y (OpY.pure rfl)) ?_
              refine Run.done ?_
              refine Run.cond (b := decide (((((k : Nat) : Int)) + C) < (R * C))) rfl (fun h52 => ?_) (fun h52 => ?_)
              · have p52 := h52; try simp only [decide_eq_true_eq, decide_eq_false_iff_not, beq_iff_eq, bne_iff_ne, beq_eq_false_iff_ne, ne_eq, gt_iff_lt, ge_iff_le, Int.not_lt, Int.not_le, bne_eq_false_iff_eq, Bool.not_eq_true', Bool.not_eq_false', Bool.and_eq_true, Bool.and_eq_false_iff, Bool.or_eq_true, Bool.or_eq_false_iff, Decidable.not_not, List.cons.injEq, and_true] at p52
                refine Run.region ?_
                refine Run.q (v := .pointer (some ⟨b2, 1, none⟩)) rfl (OpQ.y (OpY.fieldAddr Tfo_25_1 rfl rfl)) ?_
                refine Run.q (v := v) rfl (OpQ.y (OpY.load1 Tone_23 rfl (Cells.blk (.tail _ (List.Mem.head _)) ⟨rfl, trivial⟩))) ?_
                refine Run.q (v := .int .i64 (((k : Nat) : Int))) rfl (OpQ.y (OpY.pure rfl)) ?_
                refine Run.q (v := .int .i64 (((k : Nat) : Int))) rfl (OpQ.y (OpY.pure rfl)) ?_
                refine Run.q (v := .int .i64 C) rfl (OpQ.y (OpY.pure rfl)) ?_
                refine Run.q (v := .int .i64 ((((k : Nat) : Int)) + C)) rfl (OpQ.y (OpY.add rfl rfl rfl (by omega) (by omega))) ?_
                refine Run.q (v := .agg #[.int .i64 (((k : Nat) : Int)), .int .i64 ((((k : Nat) : Int)) + C)]) rfl (OpQ.y (OpY.build (cs := [.int .i64 (((k : Nat) : Int)), .int .i64 ((((k : Nat) : Int)) + C)]) (by kernel_rfl))) ?_
                refine Run.step rfl (OpStep.buildSlice (us := [.int .i64 (((k : Nat) : Int)), .int .i64 ((((k : Nat) : Int)) + C)]) Tsl_23 (by decide) (by decide) ⟨rfl, [.int .i64 (((k : Nat) : Int)), .int .i64 ((((k : Nat) : Int)) + C)], _, rfl, rfl, rfl, rfl⟩ rfl fun b5 => ?_)
                refine Run.step rfl (OpStep.append (H1 := [.own (.slice (some ⟨b5, 0, none⟩) 1 1) 64 2 1 ([.int .i64 (((k : Nat) : Int)), .int .i64 ((((k : Nat) : Int)) + C)])]) (H2 := [.blk b2 25 [.int .i64 (R * C), v], .blk b1 25 [.int .i64 0, .slice none 0 0]]) (v := v) (u := .slice (some ⟨b5, 0, none⟩) 1 1) (n := (gE C (R * C) k).length) (m := 1) (xs := ints (fl2 (gE C (R * C) k))) (ys := [.int .i64 (((k : Nat) : Int)), .int .i64 ((((k : Nat) : Int)) + C)]) Tsl_23 (by decide) rfl rfl rfl rfl (fun w hs => hs.slOwn (.head _)) (by simp [Value.oneCell']) (by first | omega | (simp only [List.length_append, List.length_cons, List.length_nil]; omega)) (by simp only [maxLen]; first | omega | (simp only [List.length_append, List.length_cons, List.length_nil]; omega)) fun av3 hnav3 => ?_)
                refine Run.weak (H' := [.own (.slice (some ⟨b5, 0, none⟩) 1 1) 64 2 1 ([.int .i64 (((k : Nat) : Int)), .int .i64 ((((k : Nat) : Int)) + C)]), .own av3 64 2 ((gE C (R * C) k ++ [((k : Int), (k : Int) + C)]).length) (ints (fl2 (gE C (R * C) k ++ [((k : Int), (k : Int) + C)]))), .blk b2 25 [.int .i64 (R * C), v], .blk b1 25 [.int .i64 0, .slice none 0 0]]) (Some'.weak (.take (.takeEq (by simp [fl2_append, fl2, ints, List.append_assoc, Nat.add_assoc]) (.take (.take (.nil _)))))) ?_ ⟨_, _, rfl, fun _ => nofun, fun _ => nofun⟩
                refine Run.q (v := .pointer (some ⟨b2, 1, none⟩)) rfl (OpQ.y (OpY.fieldAddr Tfo_25_1 rfl rfl)) ?_
                refine Run.formOwn (.tail _ (List.Mem.head _)) (fun A_av31 c_av31 hv hcapc_av31 hmaxc_av31 => ?_) (fun _ _ _ => ⟨nofun, nofun, nofun⟩)
                subst hv
                refine Run.step rfl (OpStep.store (us := [.slice A_av31 ((gE C (R * C) k ++ [((k : Int), (k : Int) + C)]).length) c_av31]) Tsize_23 rfl rfl rfl (.there _ (.there _ (.here _))) (by simp only [List.length_cons, List.length_nil]; omega) ?_)
                show Run _ _ _ [.own (.slice (some ⟨b5, 0, none⟩) 1 1) 64 2 1 ([.int .i64 (((k : Nat) : Int)), .int .i64 ((((k : Nat) : Int)) + C)]), .own (.slice A_av31 ((gE C (R * C) k ++ [((k : Int), (k : Int) + C)]).length) c_av31) 64 2 ((gE C (R * C) k ++ [((k : Int), (k : Int) + C)]).length) (ints (fl2 (gE C (R * C) k ++ [((k : Int), (k : Int) + C)]))), .blk b2 25 [.int .i64 (R * C), .slice A_av31 ((gE C (R * C) k ++ [((k : Int), (k : Int) + C)]).length) c_av31], .blk b1 25 [.int .i64 0, .slice none 0 0]]
                refine Run.done ?_
                refine Run.blockEnd ?_
                refine Run.region ?_
                refine Run.q (v := .int .i64 ((((k : Nat) : Int)) + 1)) rfl (OpQ.y (OpY.add rfl rfl rfl (by omega) (by omega))) ?_
                refine Run.q (v := .int .i64 ((((k : Nat) : Int)) + 1)) rfl (OpQ.y (OpY.pure rfl)) ?_
                refine Run.done ?_
                have hX : gE C (R * C) (k + 1) = gE C (R * C) k ++ [((k : Int), (k : Int) + C)] := by
                  simp only [gE]
                  first | rw [if_pos p37, if_pos p52] | rw [if_pos p37, if_neg (by omega), List.append_nil] | rw [if_neg (by omega), if_pos p52, List.append_nil] | rw [if_neg (by omega), if_neg (by omega), List.append_nil, List.append_nil]
                refine Run.goal ⟨(by repeat (first | exact Same.refl _ _ | refine Same.put rfl ?_ | refine Same.over rfl rfl ?_)), (k + 1, .slice A_av31 ((gE C (R * C) k ++ [((k : Int), (k : Int) + C)]).length) c_av31), ?_, ?_, ?_, ?_⟩
                · show ((k + 1 : Nat) : Int) ≤ _; omega
                · show (R * C).toNat - (k + 1) < (R * C).toNat - k; omega
                · exact ⟨(by first | rfl | (congr 1; omega) | simp), trivial⟩
                · exact (Some'.weak (.skip (.takeEq (by first | rw [hX] | rfl) (.takeEq (by first | rw [hX] | rfl) (.take (.nil _))))))
              · have p52 := h52; try simp only [decide_eq_true_eq, decide_eq_false_iff_not, beq_iff_eq, bne_iff_ne, beq_eq_false_iff_ne, ne_eq, gt_iff_lt, ge_iff_le, Int.not_lt, Int.not_le, bne_eq_false_iff_eq, Bool.not_eq_true', Bool.not_eq_false', Bool.and_eq_true, Bool.and_eq_false_iff, Bool.or_eq_true, Bool.or_eq_false_iff, Decidable.not_not, List.cons.injEq, and_true] at p52
                refine Run.skip ?_
                refine Run.blockEnd ?_
                refine Run.region ?_
                refine Run.q (v := .int .i64 ((((k : Nat) : Int)) + 1)) rfl (OpQ.y (OpY.add rfl rfl rfl (by omega) (by omega))) ?_
                refine Run.q (v := .int .i64 ((((k : Nat) : Int)) + 1)) rfl (OpQ.y (OpY.pure rfl)) ?_
                refine Run.done ?_
                have hX : gE C (R * C) (k + 1) = gE C (R * C) k := by
                  simp only [gE]
                  first | rw [if_pos p37, if_pos p52] | rw [if_pos p37, if_neg (by omega), List.append_nil] | rw [if_neg (by omega), if_pos p52, List.append_nil] | rw [if_neg (by omega), if_neg (by omega), List.append_nil, List.append_nil]
                refine Run.goal ⟨(by repeat (first | exact Same.refl _ _ | refine Same.put rfl ?_ | refine Same.over rfl rfl ?_)), (k + 1, v), ?_, ?_, ?_, ?_⟩
                · show ((k + 1 : Nat) : Int) ≤ _; omega
                · show (R * C).toNat - (k + 1) < (R * C).toNat - k; omega
                · exact ⟨(by first | rfl | (congr 1; omega) | simp), trivial⟩
                · exact (Some'.weak (.takeEq (by first | rw [hX] | rfl) (.take (.take (.nil _)))))
          · have p30 := h30; try simp only [decide_eq_true_eq, decide_eq_false_iff_not, beq_iff_eq, bne_iff_ne, beq_eq_false_iff_ne, ne_eq, gt_iff_lt, ge_iff_le, Int.not_lt, Int.not_le, bne_eq_false_iff_eq, Bool.not_eq_true', Bool.not_eq_false', Bool.and_eq_true, Bool.and_eq_false_iff, Bool.or_eq_true, Bool.or_eq_false_iff, Decidable.not_not, List.cons.injEq, and_true] at p30
            have hkn : k = (R * C).toNat := by omega
            refine Run.exit rfl ?_
            refine Run.seq ?_
            refine Run.region ?_
            refine Run.q (v := .agg #[.int .i64 (R * C), v]) rfl (OpQ.y (OpY.loadN (cs := [.int .i64 (R * C), v]) Tagg_25 rfl (Cells.blk (.tail _ (List.Mem.head _)) ⟨rfl, rfl, trivial⟩))) ?_
            refine Run.formOwn (.head _) (fun A_v1 c_v1 hv hcapc_v1 hmaxc_v1 => ?_) (fun _ _ _ => ⟨nofun, nofun, nofun⟩)
            subst hv
            refine Run.step rfl (OpStep.storeAll (us := [.int .i64 (R * C), .slice A_v1 ((gE C (R * C) k).length) c_v1]) Tsize_25 rfl rfl rfl (.there _ (.there _ (.here _))) rfl ?_)
            refine Run.q (v := .bool true) rfl (OpQ.y (OpY.pure rfl)) ?_
            refine Run.done ?_
            refine Run.ret ?_
            refine ⟨.tuple #[.agg #[.int .i64 (R * C), .slice A_v1 ((gE C (R * C) k).length) c_v1], .bool true], [.own (.slice A_v1 ((gE C (R * C) k).length) c_v1) 64 2 ((gE C (R * C) k).length) (ints (fl2 (gE C (R * C) k)))], Out.cell2 (cs := [.int .i64 (R * C), .slice A_v1 ((gE C (R * C) k).length) c_v1]) rfl Tagg_25 rfl (Cells.blk (.tail _ (.tail _ (List.Mem.head _))) ⟨rfl, rfl, trivial⟩) rfl, (Some'.weak (.take (.nil _))), ?_⟩
            have hok : gridOk R C = true := gridOk_iff.2 ⟨hq2, hp2, by omega⟩
            have e : gridE R C = gE C (R * C) k := by rw [gridE, if_pos hok]; rw [hkn]
            exact ⟨_, by rw [hok, gridN, if_pos hok], by rw [e]⟩

set_option maxHeartbeats 1000000 in
set_option maxRecDepth 20000 in
theorem sGridGraph_spec (R C : Int) (w : World) : Calls Try.prog 82 #[.int .i64 R, .int .i64 C] w (Post No w fun v H => ∃ u, v = .tuple #[.agg #[.int .i64 (gridN R C), u], .bool (gridOk R C)] ∧ H = [.own u 64 2 (gridE R C).length (ints (fl2 (gridE R C)))]) := by
  refine enter (n := 68) (args := [.int .i64 R, .int .i64 C]) Try.func82 rfl rfl (St.empty _ _) ?_
  refine Run.seq ?_
  refine Run.region ?_
  refine Run.step rfl (OpStep.alloc (zs := [.int .i64 0, .slice none 0 0]) Tzero_25 fun b1 => ?_)
  refine Run.q (v := .bool false) rfl (OpQ.y (OpY.pure rfl)) ?_
  refine Run.done ?_
  refine Run.seq ?_
  refine Run.seq ?_
  refine Run.region ?_
  refine Run.q (v := .int .i64 R) rfl (OpQ.y (OpY.pure rfl)) ?_
  refine Run.q (v := .bool (within R 1 8)) rfl (OpQ.call (vs := [.int .i64 R, .int .i64 1, .int .i64 8]) (caps := []) Tcall_41 rfl rfl (fun w hs => l1In_spec _ _ _ w)) ?_
  refine Run.q (v := .bool (!(within R 1 8))) rfl (OpQ.y (OpY.pure rfl)) ?_
  rcases Bool.eq_false_or_eq_true (!(within R 1 8)) with h12 | h12
  · refine Run.q (v := .bool true) rfl (OpQ.y (OpY.moveB rfl h12)) ?_
    have p12 := h12; try simp only [decide_eq_true_eq, decide_eq_false_iff_not, beq_iff_eq, bne_iff_ne, beq_eq_false_iff_ne, ne_eq, gt_iff_lt, ge_iff_le, Int.not_lt, Int.not_le, bne_eq_false_iff_eq, Bool.not_eq_true', Bool.not_eq_false', Bool.and_eq_true, Bool.and_eq_false_iff, Bool.or_eq_true, Bool.or_eq_false_iff, Decidable.not_not, List.cons.injEq, and_true] at p12
    refine Run.pass rfl ?_
    refine Run.pass rfl ?_
    refine Run.pass rfl ?_
    refine Run.q (v := .bool true) rfl (OpQ.y (OpY.pure rfl)) ?_
    refine Run.q (v := .bool true) rfl (OpQ.y (OpY.pure rfl)) ?_
    refine Run.pass rfl ?_
    refine Run.pass rfl ?_
    refine Run.pass rfl ?_
    refine Run.pass rfl ?_
    refine Run.q (v := .bool true) rfl (OpQ.y (OpY.pure rfl)) ?_
    refine Run.done ?_
    refine Run.cond (b := true) rfl (fun _ => ?_) (fun h => nomatch h)
    refine Run.seq ?_
    refine Run.region ?_
    refine Run.q (v := .agg #[.int .i64 0, .slice none 0 0]) rfl (OpQ.y (OpY.build (cs := [.int .i64 0, .slice none 0 0]) (by kernel_rfl))) ?_
    refine Run.step rfl (OpStep.storeAll (us := [.int .i64 0, .slice none 0 0]) Tsize_25 rfl rfl rfl (.here _) rfl ?_)
    refine Run.q (v := .bool false) rfl (OpQ.y (OpY.pure rfl)) ?_
    refine Run.done ?_
    refine Run.ret ?_
    refine ⟨.tuple #[.agg #[.int .i64 0, .slice none 0 0], .bool false], [.own (.slice none 0 0) 64 2 0 ([])], Out.cell2 (cs := [.int .i64 0, .slice none 0 0]) rfl Tagg_25 rfl (Cells.blk (.head _) ⟨rfl, rfl, trivial⟩) rfl, ((Weak.nilOwn 64 2).trans (Some'.weak (.take (.nil _)))), ?_⟩
    have hok : gridOk R C = false := by
      rcases Bool.eq_false_or_eq_true (gridOk R C) with h | h
      · have h' := gridOk_iff.1 h; simp_all [within] <;> omega
      · exact h
    exact ⟨_, by rw [hok, gridN, if_neg (by rw [hok]; decide)], by simp [gridE, hok, fl2, ints]⟩
  · refine Run.q (v := .bool false) rfl (OpQ.y (OpY.moveB rfl h12)) ?_
    have p12 := h12; try simp only [decide_eq_true_eq, decide_eq_false_iff_not, beq_iff_eq, bne_iff_ne, beq_eq_false_iff_ne, ne_eq, gt_iff_lt, ge_iff_le, Int.not_lt, Int.not_le, bne_eq_false_iff_eq, Bool.not_eq_true', Bool.not_eq_false', Bool.and_eq_true, Bool.and_eq_false_iff, Bool.or_eq_true, Bool.or_eq_false_iff, Decidable.not_not, List.cons.injEq, and_true] at p12
    refine Run.q (v := .int .i64 C) rfl (OpQ.y (OpY.pure rfl)) ?_
    refine Run.q (v := .bool (within C 1 8)) rfl (OpQ.call (vs := [.int .i64 C, .int .i64 1, .int .i64 8]) (caps := []) Tcall_41 rfl rfl (fun w hs => l1In_spec _ _ _ w)) ?_
    refine Run.q (v := .bool (!(within C 1 8))) rfl (OpQ.y (OpY.pure rfl)) ?_
    refine Run.q (v := .bool (!(within C 1 8))) rfl (OpQ.y (OpY.pure rfl)) ?_
    rcases Bool.eq_false_or_eq_true (!(within C 1 8)) with h17 | h17
    · refine Run.q (v := .bool true) rfl (OpQ.y (OpY.moveB rfl h17)) ?_
      have p17 := h17; try simp only [decide_eq_true_eq, decide_eq_false_iff_not, beq_iff_eq, bne_iff_ne, beq_eq_false_iff_ne, ne_eq, gt_iff_lt, ge_iff_le, Int.not_lt, Int.not_le, bne_eq_false_iff_eq, Bool.not_eq_true', Bool.not_eq_false', Bool.and_eq_true, Bool.and_eq_false_iff, Bool.or_eq_true, Bool.or_eq_false_iff, Decidable.not_not, List.cons.injEq, and_true] at p17
      refine Run.pass rfl ?_
      refine Run.pass rfl ?_
      refine Run.pass rfl ?_
      refine Run.pass rfl ?_
      refine Run.q (v := .bool true) rfl (OpQ.y (OpY.pure rfl)) ?_
      refine Run.done ?_
      refine Run.cond (b := true) rfl (fun _ => ?_) (fun h => nomatch h)
      refine Run.seq ?_
      refine Run.region ?_
      refine Run.q (v := .agg #[.int .i64 0, .slice none 0 0]) rfl (OpQ.y (OpY.build (cs := [.int .i64 0, .slice none 0 0]) (by kernel_rfl))) ?_
      refine Run.step rfl (OpStep.storeAll (us := [.int .i64 0, .slice none 0 0]) Tsize_25 rfl rfl rfl (.here _) rfl ?_)
      refine Run.q (v := .bool false) rfl (OpQ.y (OpY.pure rfl)) ?_
      refine Run.done ?_
      refine Run.ret ?_
      refine ⟨.tuple #[.agg #[.int .i64 0, .slice none 0 0], .bool false], [.own (.slice none 0 0) 64 2 0 ([])], Out.cell2 (cs := [.int .i64 0, .slice none 0 0]) rfl Tagg_25 rfl (Cells.blk (.head _) ⟨rfl, rfl, trivial⟩) rfl, ((Weak.nilOwn 64 2).trans (Some'.weak (.take (.nil _)))), ?_⟩
      have hok : gridOk R C = false := by
        rcases Bool.eq_false_or_eq_true (gridOk R C) with h | h
        · have h' := gridOk_iff.1 h; simp_all [within] <;> omega
        · exact h
      exact ⟨_, by rw [hok, gridN, if_neg (by rw [hok]; decide)], by simp [gridE, hok, fl2, ints]⟩
    · refine Run.q (v := .bool false) rfl (OpQ.y (OpY.moveB rfl h17)) ?_
      have p17 := h17; try simp only [decide_eq_true_eq, decide_eq_false_iff_not, beq_iff_eq, bne_iff_ne, beq_eq_false_iff_ne, ne_eq, gt_iff_lt, ge_iff_le, Int.not_lt, Int.not_le, bne_eq_false_iff_eq, Bool.not_eq_true', Bool.not_eq_false', Bool.and_eq_true, Bool.and_eq_false_iff, Bool.or_eq_true, Bool.or_eq_false_iff, Decidable.not_not, List.cons.injEq, and_true] at p17
      have hq : within R 1 8 = true := by simpa using p12
      have hp : within C 1 8 = true := by simpa using p17
      have hq2 := within_iff.1 hq
      have hp2 := within_iff.1 hp
      have hm := mul_range hq2 hp2
      refine Run.q (v := .int .i64 R) rfl (OpQ.y (OpY.pure rfl)) ?_
      refine Run.q (v := .int .i64 C) rfl (OpQ.y (OpY.pure rfl)) ?_
      refine Run.q (v := .int .i64 (R * C)) rfl (OpQ.y (OpY.mul rfl rfl (by first | rfl | grind) (by omega) (by omega))) ?_
      refine Run.q (v := .bool (decide ((R * C) > 8))) rfl (OpQ.y (OpY.pure rfl)) ?_
      refine Run.q (v := .bool (decide ((R * C) > 8))) rfl (OpQ.y (OpY.pure rfl)) ?_
      refine Run.done ?_
      refine Run.cond (b := decide ((R * C) > 8)) rfl (fun h22 => ?_) (fun h22 => ?_)
      · have p22 := h22; try simp only [decide_eq_true_eq, decide_eq_false_iff_not, beq_iff_eq, bne_iff_ne, beq_eq_false_iff_ne, ne_eq, gt_iff_lt, ge_iff_le, Int.not_lt, Int.not_le, bne_eq_false_iff_eq, Bool.not_eq_true', Bool.not_eq_false', Bool.and_eq_true, Bool.and_eq_false_iff, Bool.or_eq_true, Bool.or_eq_false_iff, Decidable.not_not, List.cons.injEq, and_true] at p22
        refine Run.seq ?_
        refine Run.region ?_
        refine Run.q (v := .agg #[.int .i64 0, .slice none 0 0]) rfl (OpQ.y (OpY.build (cs := [.int .i64 0, .slice none 0 0]) (by kernel_rfl))) ?_
        refine Run.step rfl (OpStep.storeAll (us := [.int .i64 0, .slice none 0 0]) Tsize_25 rfl rfl rfl (.here _) rfl ?_)
        refine Run.q (v := .bool false) rfl (OpQ.y (OpY.pure rfl)) ?_
        refine Run.done ?_
        refine Run.ret ?_
        refine ⟨.tuple #[.agg #[.int .i64 0, .slice none 0 0], .bool false], [.own (.slice none 0 0) 64 2 0 ([])], Out.cell2 (cs := [.int .i64 0, .slice none 0 0]) rfl Tagg_25 rfl (Cells.blk (.head _) ⟨rfl, rfl, trivial⟩) rfl, ((Weak.nilOwn 64 2).trans (Some'.weak (.take (.nil _)))), ?_⟩
        have hok : gridOk R C = false := by
          rcases Bool.eq_false_or_eq_true (gridOk R C) with h | h
          · have h' := gridOk_iff.1 h; simp_all [within] <;> omega
          · exact h
        exact ⟨_, by rw [hok, gridN, if_neg (by rw [hok]; decide)], by simp [gridE, hok, fl2, ints]⟩
      · have p22 := h22; try simp only [decide_eq_true_eq, decide_eq_false_iff_not, beq_iff_eq, bne_iff_ne, beq_eq_false_iff_ne, ne_eq, gt_iff_lt, ge_iff_le, Int.not_lt, Int.not_le, bne_eq_false_iff_eq, Bool.not_eq_true', Bool.not_eq_false', Bool.and_eq_true, Bool.and_eq_false_iff, Bool.or_eq_true, Bool.or_eq_false_iff, Decidable.not_not, List.cons.injEq, and_true] at p22
        refine Run.skip ?_
        refine Run.seq ?_
        refine Run.region ?_
        refine Run.q (v := .int .i64 R) rfl (OpQ.y (OpY.pure rfl)) ?_
        refine Run.q (v := .int .i64 C) rfl (OpQ.y (OpY.pure rfl)) ?_
        refine Run.q (v := .int .i64 (R * C)) rfl (OpQ.y (OpY.mul rfl rfl (by first | rfl | grind) (by omega) (by omega))) ?_
        refine Run.q (v := .agg #[.int .i64 (R * C), .slice none 0 0]) rfl (OpQ.y (OpY.build (cs := [.int .i64 (R * C), .slice none 0 0]) (by kernel_rfl))) ?_
        refine Run.step rfl (OpStep.alloc (zs := [.int .i64 0, .slice none 0 0]) Tzero_25 fun b2 => ?_)
        refine Run.step rfl (OpStep.storeAll (us := [.int .i64 (R * C), .slice none 0 0]) Tsize_25 rfl rfl rfl (.here _) rfl ?_)
        refine Run.done ?_
        refine Run.seq ?_
        refine Run.seq ?_
        refine Run.region ?_
        refine Run.q (v := .int .i64 0) rfl (OpQ.y (OpY.pure rfl)) ?_
        refine Run.done ?_
        refine Run.block ?_
        refine Run.loop (ι := Nat × Value) [7, 8, 28, 29, 30, 31, 32, 33, 34, 35, 36, 37, 38, 39, 40, 41, 42, 43, 44, 45, 46, 47, 48, 49, 50, 51, 52, 53, 54, 55, 56, 57, 58, 59, 60, 61, 62, 63, 64, 65, 66] (fun ⟨k, v⟩ => [(7, .int .i64 (((k : Nat) : Int)))]) (fun ⟨k, v⟩ => [.own v 64 2 ((gS C (R * C).toNat k).length) (ints (fl2 (gS C (R * C).toNat k))), .blk b2 25 [.int .i64 (R * C), v], .blk b1 25 [.int .i64 0, .slice none 0 0]]) (fun ⟨k, v⟩ => (k : Int) ≤ R * C) (fun ⟨k, v⟩ => (R * C).toNat - k) (0, .slice none 0 0) ?_ ?_ ?_ ?_
        · show ((0 : Nat) : Int) ≤ _; omega
        · exact ⟨rfl, trivial⟩
        · exact ((Weak.nilOwn 64 2).trans (Some'.weak (.takeEq rfl (.takeEq rfl (.take (.nil _))))))
        · rintro ⟨k, v⟩ fr hinv
          show Run _ _ (over _ _ [(7, .int .i64 (((k : Nat) : Int)))] fr) [.own v 64 2 ((gS C (R * C).toNat k).length) (ints (fl2 (gS C (R * C).toNat k))), .blk b2 25 [.int .i64 (R * C), v], .blk b1 25 [.int .i64 0, .slice none 0 0]]
          try dsimp only at hinv
          refine Run.seq ?_
          refine Run.seq ?_
          refine Run.region ?_
          refine Run.q (v := .int .i64 (((k : Nat) : Int))) rfl (OpQ.y (OpY.pure rfl)) ?_
          refine Run.q (v := .pointer (some ⟨b2, 0, none⟩)) rfl (OpQ.y (OpY.fieldAddr Tfo_25_0 rfl rfl)) ?_
          refine Run.q (v := .int .i64 (R * C)) rfl (OpQ.y (OpY.load1 Tone_3 rfl (Cells.blk (.tail _ (List.Mem.head _)) ⟨rfl, trivial⟩))) ?_
          refine Run.q (v := .bool (decide ((((k : Nat) : Int)) < (R * C)))) rfl (OpQ.y (OpY.pure rfl)) ?_
          refine Run.done ?_
          refine Run.cond (b := decide ((((k : Nat) : Int)) < (R * C))) rfl (fun h31 => ?_) (fun h31 => ?_)
          · have p31 := h31; try simp only [decide_eq_true_eq, decide_eq_false_iff_not, beq_iff_eq, bne_iff_ne, beq_eq_false_iff_ne, ne_eq, gt_iff_lt, ge_iff_le, Int.not_lt, Int.not_le, bne_eq_false_iff_eq, Bool.not_eq_true', Bool.not_eq_false', Bool.and_eq_true, Bool.and_eq_false_iff, Bool.or_eq_true, Bool.or_eq_false_iff, Decidable.not_not, List.cons.injEq, and_true] at p31
            have hle := gS_le C (R * C).toNat k
            have hle2 : (gS C (R * C).toNat k).length ≤ 4096 := Nat.le_trans hle (Nat.mul_le_mul (show k ≤ 64 by omega) (show (R * C).toNat ≤ 64 by omega))
            refine Run.skip ?_
            refine Run.seq ?_
            refine Run.block ?_
            refine Run.seq ?_
            refine Run.region ?_
            refine Run.q (v := .int .i64 (((k : Nat) : Int))) rfl (OpQ.y (OpY.pure rfl)) ?_
            refine Run.q (v := .int .i64 ((((k : Nat) : Int)) + 1)) rfl (OpQ.y (OpY.add rfl rfl rfl (by omega) (by omega))) ?_
            refine Run.q (v := .int .i64 ((((k : Nat) : Int)) + 1)) rfl (OpQ.y (OpY.pure rfl)) ?_
            refine Run.done ?_
            refine Run.block ?_
            refine Run.loop (ι := Nat × Value) [8, 36, 37, 38, 39, 40, 41, 42, 43, 44, 45, 46, 47, 48, 49, 50, 51, 52, 53, 54, 55, 56, 57, 58, 59, 60, 61, 62, 63, 64, 65, 66] (fun ⟨m, v2⟩ => [(8, .int .i64 ((k : Int) + 1 + (m : Int)))]) (fun ⟨m, v2⟩ => [.own v2 64 2 ((gS C (R * C).toNat k ++ gI C k (k + 1) m).length) (ints (fl2 (gS C (R * C).toNat k ++ gI C k (k + 1) m))), .blk b2 25 [.int .i64 (R * C), v2], .blk b1 25 [.int .i64 0, .slice none 0 0]]) (fun ⟨m, v2⟩ => (k : Int) + 1 + (m : Int) ≤ R * C) (fun ⟨m, v2⟩ => (R * C).toNat - m) (0, v) ?_ ?_ ?_ ?_
            · show (k : Int) + 1 + ((0 : Nat) : Int) ≤ _; omega
            · exact ⟨(by show Value.int _ _ = Value.int _ _; congr 1 <;> omega), trivial⟩
            · exact (Some'.weak (.takeEq (by simp [gI]) (.take (.take (.nil _)))))
            · rintro ⟨m, v2⟩ fr hinv
              show Run _ _ (over _ _ [(8, .int .i64 ((k : Int) + 1 + (m : Int)))] fr) [.own v2 64 2 ((gS C (R * C).toNat k ++ gI C k (k + 1) m).length) (ints (fl2 (gS C (R * C).toNat k ++ gI C k (k + 1) m))), .blk b2 25 [.int .i64 (R * C), v2], .blk b1 25 [.int .i64 0, .slice none 0 0]]
              try dsimp only at hinv
              refine Run.seq ?_
              refine Run.seq ?_
              refine Run.region ?_
              refine Run.q (v := .int .i64 ((k : Int) + 1 + (m : Int))) rfl (OpQ.y (OpY.pure rfl)) ?_
              refine Run.q (v := .pointer (some ⟨b2, 0, none⟩)) rfl (OpQ.y (OpY.fieldAddr Tfo_25_0 rfl rfl)) ?_
              refine Run.q (v := .int .i64 (R * C)) rfl (OpQ.y (OpY.load1 Tone_3 rfl (Cells.blk (.tail _ (List.Mem.head _)) ⟨rfl, trivial⟩))) ?_
              refine Run.q (v := .bool (decide (((k : Int) + 1 + (m : Int)) < (R * C)))) rfl (OpQ.y (OpY.pure rfl)) ?_
              refine Run.done ?_
              refine Run.cond (b := decide (((k : Int) + 1 + (m : Int)) < (R * C))) rfl (fun h39 => ?_) (fun h39 => ?_)
              · have p39 := h39; try simp only [decide_eq_true_eq, decide_eq_false_iff_not, beq_iff_eq, bne_iff_ne, beq_eq_false_iff_ne, ne_eq, gt_iff_lt, ge_iff_le, Int.not_lt, Int.not_le, bne_eq_false_iff_eq, Bool.not_eq_true', Bool.not_eq_false', Bool.and_eq_true, Bool.and_eq_false_iff, Bool.or_eq_true, Bool.or_eq_false_iff, Decidable.not_not, List.cons.injEq, and_true] at p39
                have hle3 := gI_le C k (k + 1) m
                have hr := Int.emod_nonneg ((k : Int) + 1 + (m : Int)) (by omega : C ≠ 0)
                refine Run.skip ?_
                refine Run.seq ?_
                refine Run.block ?_
                refine Run.seq ?_
                refine Run.region ?_
                refine Run.q (v := .int .i64 ((k : Int) + 1 + (m : Int))) rfl (OpQ.y (OpY.pure rfl)) ?_
                refine Run.q (v := .int .i64 (((k : Nat) : Int))) rfl (OpQ.y (OpY.pure rfl)) ?_
                refine Run.q (v := .int .i64 C) rfl (OpQ.y (OpY.pure rfl)) ?_
                refine Run.q (v := .int .i64 ((((k : Nat) : Int)) + C)) rfl (OpQ.y (OpY.add rfl rfl rfl (by omega) (by omega))) ?_
                refine Run.q (v := .bool (((k : Int) + 1 + (m : Int)) == ((((k : Nat) : Int)) + C))) rfl (OpQ.y (OpY.pure rfl)) ?_
                rcases Bool.eq_false_or_eq_true (((k : Int) + 1 + (m : Int)) == ((((k : Nat) : Int)) + C)) with h47 | h47
                · refine Run.q (v := .bool true) rfl (OpQ.y (OpY.moveB rfl h47)) ?_
                  have p47 := h47; try simp only [decide_eq_true_eq, decide_eq_false_iff_not, beq_iff_eq, bne_iff_ne, beq_eq_false_iff_ne, ne_eq, gt_iff_lt, ge_iff_le, Int.not_lt, Int.not_le, bne_eq_false_iff_eq, Bool.not_eq_true', Bool.not_eq_false', Bool.and_eq_true, Bool.and_eq_false_iff, Bool.or_eq_true, Bool.or_eq_false_iff, Decidable.not_not, List.cons.injEq, and_true] at p47
                  refine Run.pass rfl ?_
                  refine Run.pass rfl ?_
                  refine Run.pass rfl ?_
                  refine Run.pass rfl ?_
                  refine Run.pass rfl ?_
                  refine Run.pass rfl ?_
                  refine Run.pass rfl ?_
                  refine Run.pass rfl ?_
                  refine Run.pass rfl ?_
                  refine Run.pass rfl ?_
                  refine Run.q (v := .bool true) rfl (OpQ.y (OpY.pure rfl)) ?_
                  refine Run.done ?_
                  refine Run.cond (b := true) rfl (fun _ => ?_) (fun h => nomatch h)
                  refine Run.region ?_
                  refine Run.q (v := .pointer (some ⟨b2, 1, none⟩)) rfl (OpQ.y (OpY.fieldAddr Tfo_25_1 rfl rfl)) ?_
                  refine Run.q (v := v2) rfl (OpQ.y (OpY.load1 Tone_23 rfl (Cells.blk (.tail _ (List.Mem.head _)) ⟨rfl, trivial⟩))) ?_
                  refine Run.q (v := .int .i64 (((k : Nat) : Int))) rfl (OpQ.y (OpY.pure rfl)) ?_
                  refine Run.q (v := .int .i64 ((k : Int) + 1 + (m : Int))) rfl (OpQ.y (OpY.pure rfl)) ?_
                  refine Run.q (v := .agg #[.int .i64 (((k : Nat) : Int)), .int .i64 ((k : Int) + 1 + (m : Int))]) rfl (OpQ.y (OpY.build (cs := [.int .i64 (((k : Nat) : Int)), .int .i64 ((k : Int) + 1 + (m : Int))]) (by kernel_rfl))) ?_
                  refine Run.step rfl (OpStep.buildSlice (us := [.int .i64 (((k : Nat) : Int)), .int .i64 ((k : Int) + 1 + (m : Int))]) Tsl_23 (by decide) (by decide) ⟨rfl, [.int .i64 (((k : Nat) : Int)), .int .i64 ((k : Int) + 1 + (m : Int))], _, rfl, rfl, rfl, rfl⟩ rfl fun b3 => ?_)
                  refine Run.step rfl (OpStep.append (H1 := [.own (.slice (some ⟨b3, 0, none⟩) 1 1) 64 2 1 ([.int .i64 (((k : Nat) : Int)), .int .i64 ((k : Int) + 1 + (m : Int))])]) (H2 := [.blk b2 25 [.int .i64 (R * C), v2], .blk b1 25 [.int .i64 0, .slice none 0 0]]) (v := v2) (u := .slice (some ⟨b3, 0, none⟩) 1 1) (n := (gS C (R * C).toNat k ++ gI C k (k + 1) m).length) (m := 1) (xs := ints (fl2 (gS C (R * C).toNat k ++ gI C k (k + 1) m))) (ys := [.int .i64 (((k : Nat) : Int)), .int .i64 ((k : Int) + 1 + (m : Int))]) Tsl_23 (by decide) rfl rfl rfl rfl (fun w hs => hs.slOwn (.head _)) (by simp [Value.oneCell']) (by first | omega | (simp only [List.length_append, List.length_cons, List.length_nil]; omega)) (by simp only [maxLen]; first | omega | (simp only [List.length_append, List.length_cons, List.length_nil]; omega)) fun av1 hnav1 => ?_)
                  refine Run.weak (H' := [.own (.slice (some ⟨b3, 0, none⟩) 1 1) 64 2 1 ([.int .i64 (((k : Nat) : Int)), .int .i64 ((k : Int) + 1 + (m : Int))]), .own av1 64 2 ((gS C (R * C).toNat k ++ gI C k (k + 1) m ++ [((k : Int), (k : Int) + 1 + (m : Int))]).length) (ints (fl2 (gS C (R * C).toNat k ++ gI C k (k + 1) m ++ [((k : Int), (k : Int) + 1 + (m : Int))]))), .blk b2 25 [.int .i64 (R * C), v2], .blk b1 25 [.int .i64 0, .slice none 0 0]]) (Some'.weak (.take (.takeEq (by simp [fl2_append, fl2, ints, List.append_assoc, Nat.add_assoc]) (.take (.take (.nil _)))))) ?_ ⟨_, _, rfl, fun _ => nofun, fun _ => nofun⟩
                  refine Run.q (v := .pointer (some ⟨b2, 1, none⟩)) rfl (OpQ.y (OpY.fieldAddr Tfo_25_1 rfl rfl)) ?_
                  refine Run.formOwn (.tail _ (List.Mem.head _)) (fun A_av11 c_av11 hv hcapc_av11 hmaxc_av11 => ?_) (fun _ _ _ => ⟨nofun, nofun, nofun⟩)
                  subst hv
                  refine Run.step rfl (OpStep.store (us := [.slice A_av11 ((gS C (R * C).toNat k ++ gI C k (k + 1) m ++ [((k : Int), (k : Int) + 1 + (m : Int))]).length) c_av11]) Tsize_23 rfl rfl rfl (.there _ (.there _ (.here _))) (by simp only [List.length_cons, List.length_nil]; omega) ?_)
                  show Run _ _ _ [.own (.slice (some ⟨b3, 0, none⟩) 1 1) 64 2 1 ([.int .i64 (((k : Nat) : Int)), .int .i64 ((k : Int) + 1 + (m : Int))]), .own (.slice A_av11 ((gS C (R * C).toNat k ++ gI C k (k + 1) m ++ [((k : Int), (k : Int) + 1 + (m : Int))]).length) c_av11) 64 2 ((gS C (R * C).toNat k ++ gI C k (k + 1) m ++ [((k : Int), (k : Int) + 1 + (m : Int))]).length) (ints (fl2 (gS C (R * C).toNat k ++ gI C k (k + 1) m ++ [((k : Int), (k : Int) + 1 + (m : Int))]))), .blk b2 25 [.int .i64 (R * C), .slice A_av11 ((gS C (R * C).toNat k ++ gI C k (k + 1) m ++ [((k : Int), (k : Int) + 1 + (m : Int))]).length) c_av11], .blk b1 25 [.int .i64 0, .slice none 0 0]]
                  refine Run.done ?_
                  refine Run.blockEnd ?_
                  refine Run.region ?_
                  refine Run.q (v := .int .i64 ((k : Int) + 1 + (m : Int))) rfl (OpQ.y (OpY.pure rfl)) ?_
                  refine Run.q (v := .int .i64 (((k : Int) + 1 + (m : Int)) + 1)) rfl (OpQ.y (OpY.add rfl rfl rfl (by omega) (by omega))) ?_
                  refine Run.q (v := .int .i64 (((k : Int) + 1 + (m : Int)) + 1)) rfl (OpQ.y (OpY.pure rfl)) ?_
                  refine Run.done ?_
                  have hX : gS C (R * C).toNat k ++ gI C k (k + 1) (m + 1) = gS C (R * C).toNat k ++ gI C k (k + 1) m ++ [((k : Int), (k : Int) + 1 + (m : Int))] := by
                    rw [gI]
                    rw [if_pos (by first | exact .inl (by omega) | exact .inr ⟨by omega, by omega⟩), List.append_assoc]
                  refine Run.goal ⟨(by repeat (first | exact Same.refl _ _ | refine Same.put rfl ?_ | refine Same.over rfl rfl ?_)), (m + 1, .slice A_av11 ((gS C (R * C).toNat k ++ gI C k (k + 1) m ++ [((k : Int), (k : Int) + 1 + (m : Int))]).length) c_av11), ?_, ?_, ?_, ?_⟩
                  · show (k : Int) + 1 + ((m + 1 : Nat) : Int) ≤ _; omega
                  · show (R * C).toNat - (m + 1) < (R * C).toNat - m; omega
                  · exact ⟨(by show Value.int _ _ = Value.int _ _; congr 1 <;> omega), trivial⟩
                  · exact (Some'.weak (.skip (.takeEq (by first | rw [hX] | rfl) (.takeEq (by first | rw [hX] | rfl) (.take (.nil _))))))
                · refine Run.q (v := .bool false) rfl (OpQ.y (OpY.moveB rfl h47)) ?_
                  have p47 := h47; try simp only [decide_eq_true_eq, decide_eq_false_iff_not, beq_iff_eq, bne_iff_ne, beq_eq_false_iff_ne, ne_eq, gt_iff_lt, ge_iff_le, Int.not_lt, Int.not_le, bne_eq_false_iff_eq, Bool.not_eq_true', Bool.not_eq_false', Bool.and_eq_true, Bool.and_eq_false_iff, Bool.or_eq_true, Bool.or_eq_false_iff, Decidable.not_not, List.cons.injEq, and_true] at p47
                  refine Run.q (v := .int .i64 ((k : Int) + 1 + (m : Int))) rfl (OpQ.y (OpY.pure rfl)) ?_
                  refine Run.q (v := .int .i64 (((k : Nat) : Int))) rfl (OpQ.y (OpY.pure rfl)) ?_
                  refine Run.q (v := .int .i64 ((((k : Nat) : Int)) + 1)) rfl (OpQ.y (OpY.add rfl rfl rfl (by omega) (by omega))) ?_
                  refine Run.q (v := .bool (((k : Int) + 1 + (m : Int)) == ((((k : Nat) : Int)) + 1))) rfl (OpQ.y (OpY.pure rfl)) ?_
                  rcases Bool.eq_false_or_eq_true (((k : Int) + 1 + (m : Int)) == ((((k : Nat) : Int)) + 1)) with h52 | h52
                  · refine Run.q (v := .bool true) rfl (OpQ.y (OpY.moveB rfl h52)) ?_
                    have p52 := h52; try simp only [decide_eq_true_eq, decide_eq_false_iff_not, beq_iff_eq, bne_iff_ne, beq_eq_false_iff_ne, ne_eq, gt_iff_lt, ge_iff_le, Int.not_lt, Int.not_le, bne_eq_false_iff_eq, Bool.not_eq_true', Bool.not_eq_false', Bool.and_eq_true, Bool.and_eq_false_iff, Bool.or_eq_true, Bool.or_eq_false_iff, Decidable.not_not, List.cons.injEq, and_true] at p52
                    refine Run.q (v := .int .i64 ((k : Int) + 1 + (m : Int))) rfl (OpQ.y (OpY.pure rfl)) ?_
                    refine Run.q (v := .int .i64 C) rfl (OpQ.y (OpY.pure rfl)) ?_
                    refine Run.q (v := .int .i64 (((k : Int) + 1 + (m : Int)) % C)) rfl (OpQ.y (OpY.rem rfl rfl (by omega) (by omega))) ?_
                    refine Run.q (v := .bool (decide ((((k : Int) + 1 + (m : Int)) % C) > 0))) rfl (OpQ.y (OpY.pure rfl)) ?_
                    refine Run.q (v := .bool (decide ((((k : Int) + 1 + (m : Int)) % C) > 0))) rfl (OpQ.y (OpY.pure rfl)) ?_
                    refine Run.q (v := .bool (decide ((((k : Int) + 1 + (m : Int)) % C) > 0))) rfl (OpQ.y (OpY.pure rfl)) ?_
                    refine Run.done ?_
                    refine Run.cond (b := decide ((((k : Int) + 1 + (m : Int)) % C) > 0)) rfl (fun h58 => ?_) (fun h58 => ?_)
                    · have p58 := h58; try simp only [decide_eq_true_eq, decide_eq_false_iff_not, beq_iff_eq, bne_iff_ne, beq_eq_false_iff_ne, ne_eq, gt_iff_lt, ge_iff_le, Int.not_lt, Int.not_le, bne_eq_false_iff_eq, Bool.not_eq_true', Bool.not_eq_false', Bool.and_eq_true, Bool.and_eq_false_iff, Bool.or_eq_true, Bool.or_eq_false_iff, Decidable.not_not, List.cons.injEq, and_true] at p58
                      refine Run.region ?_
                      refine Run.q (v := .pointer (some ⟨b2, 1, none⟩)) rfl (OpQ.y (OpY.fieldAddr Tfo_25_1 rfl rfl)) ?_
                      refine Run.q (v := v2) rfl (OpQ.y (OpY.load1 Tone_23 rfl (Cells.blk (.tail _ (List.Mem.head _)) ⟨rfl, trivial⟩))) ?_
                      refine Run.q (v := .int .i64 (((k : Nat) : Int))) rfl (OpQ.y (OpY.pure rfl)) ?_
                      refine Run.q (v := .int .i64 ((k : Int) + 1 + (m : Int))) rfl (OpQ.y (OpY.pure rfl)) ?_
                      refine Run.q (v := .agg #[.int .i64 (((k : Nat) : Int)), .int .i64 ((k : Int) + 1 + (m : Int))]) rfl (OpQ.y (OpY.build (cs := [.int .i64 (((k : Nat) : Int)), .int .i64 ((k : Int) + 1 + (m : Int))]) (by kernel_rfl))) ?_
                      refine Run.step rfl (OpStep.buildSlice (us := [.int .i64 (((k : Nat) : Int)), .int .i64 ((k : Int) + 1 + (m : Int))]) Tsl_23 (by decide) (by decide) ⟨rfl, [.int .i64 (((k : Nat) : Int)), .int .i64 ((k : Int) + 1 + (m : Int))], _, rfl, rfl, rfl, rfl⟩ rfl fun b4 => ?_)
                      refine Run.step rfl (OpStep.append (H1 := [.own (.slice (some ⟨b4, 0, none⟩) 1 1) 64 2 1 ([.int .i64 (((k : Nat) : Int)), .int .i64 ((k : Int) + 1 + (m : Int))])]) (H2 := [.blk b2 25 [.int .i64 (R * C), v2], .blk b1 25 [.int .i64 0, .slice none 0 0]]) (v := v2) (u := .slice (some ⟨b4, 0, none⟩) 1 1) (n := (gS C (R * C).toNat k ++ gI C k (k + 1) m).length) (m := 1) (xs := ints (fl2 (gS C (R * C).toNat k ++ gI C k (k + 1) m))) (ys := [.int .i64 (((k : Nat) : Int)), .int .i64 ((k : Int) + 1 + (m : Int))]) Tsl_23 (by decide) rfl rfl rfl rfl (fun w hs => hs.slOwn (.head _)) (by simp [Value.oneCell']) (by first | omega | (simp only [List.length_append, List.length_cons, List.length_nil]; omega)) (by simp only [maxLen]; first | omega | (simp only [List.length_append, List.length_cons, List.length_nil]; omega)) fun av2 hnav2 => ?_)
                      refine Run.weak (H' := [.own (.slice (some ⟨b4, 0, none⟩) 1 1) 64 2 1 ([.int .i64 (((k : Nat) : Int)), .int .i64 ((k : Int) + 1 + (m : Int))]), .own av2 64 2 ((gS C (R * C).toNat k ++ gI C k (k + 1) m ++ [((k : Int), (k : Int) + 1 + (m : Int))]).length) (ints (fl2 (gS C (R * C).toNat k ++ gI C k (k + 1) m ++ [((k : Int), (k : Int) + 1 + (m : Int))]))), .blk b2 25 [.int .i64 (R * C), v2], .blk b1 25 [.int .i64 0, .slice none 0 0]]) (Some'.weak (.take (.takeEq (by simp [fl2_append, fl2, ints, List.append_assoc, Nat.add_assoc]) (.take (.take (.nil _)))))) ?_ ⟨_, _, rfl, fun _ => nofun, fun _ => nofun⟩
                      refine Run.q (v := .pointer (some ⟨b2, 1, none⟩)) rfl (OpQ.y (OpY.fieldAddr Tfo_25_1 rfl rfl)) ?_
                      refine Run.formOwn (.tail _ (List.Mem.head _)) (fun A_av21 c_av21 hv hcapc_av21 hmaxc_av21 => ?_) (fun _ _ _ => ⟨nofun, nofun, nofun⟩)
                      subst hv
                      refine Run.step rfl (OpStep.store (us := [.slice A_av21 ((gS C (R * C).toNat k ++ gI C k (k + 1) m ++ [((k : Int), (k : Int) + 1 + (m : Int))]).length) c_av21]) Tsize_23 rfl rfl rfl (.there _ (.there _ (.here _))) (by simp only [List.length_cons, List.length_nil]; omega) ?_)
                      show Run _ _ _ [.own (.slice (some ⟨b4, 0, none⟩) 1 1) 64 2 1 ([.int .i64 (((k : Nat) : Int)), .int .i64 ((k : Int) + 1 + (m : Int))]), .own (.slice A_av21 ((gS C (R * C).toNat k ++ gI C k (k + 1) m ++ [((k : Int), (k : Int) + 1 + (m : Int))]).length) c_av21) 64 2 ((gS C (R * C).toNat k ++ gI C k (k + 1) m ++ [((k : Int), (k : Int) + 1 + (m : Int))]).length) (ints (fl2 (gS C (R * C).toNat k ++ gI C k (k + 1) m ++ [((k : Int), (k : Int) + 1 + (m : Int))]))), .blk b2 25 [.int .i64 (R * C), .slice A_av21 ((gS C (R * C).toNat k ++ gI C k (k + 1) m ++ [((k : Int), (k : Int) + 1 + (m : Int))]).length) c_av21], .blk b1 25 [.int .i64 0, .slice none 0 0]]
                      refine Run.done ?_
                      refine Run.blockEnd ?_
                      refine Run.region ?_
                      refine Run.q (v := .int .i64 ((k : Int) + 1 + (m : Int))) rfl (OpQ.y (OpY.pure rfl)) ?_
                      refine Run.q (v := .int .i64 (((k : Int) + 1 + (m : Int)) + 1)) rfl (OpQ.y (OpY.add rfl rfl rfl (by omega) (by omega))) ?_
                      refine Run.q (v := .int .i64 (((k : Int) + 1 + (m : Int)) + 1)) rfl (OpQ.y (OpY.pure rfl)) ?_
                      refine Run.done ?_
                      have hX : gS C (R * C).toNat k ++ gI C k (k + 1) (m + 1) = gS C (R * C).toNat k ++ gI C k (k + 1) m ++ [((k : Int), (k : Int) + 1 + (m : Int))] := by
                        rw [gI]
                        rw [if_pos (by first | exact .inl (by omega) | exact .inr ⟨by omega, by omega⟩), List.append_assoc]
                      refine Run.goal ⟨(by repeat (first | exact Same.refl _ _ | refine Same.put rfl ?_ | refine Same.over rfl rfl ?_)), (m + 1, .slice A_av21 ((gS C (R * C).toNat k ++ gI C k (k + 1) m ++ [((k : Int), (k : Int) + 1 + (m : Int))]).length) c_av21), ?_, ?_, ?_, ?_⟩
                      · show (k : Int) + 1 + ((m + 1 : Nat) : Int) ≤ _; omega
                      · show (R * C).toNat - (m + 1) < (R * C).toNat - m; omega
                      · exact ⟨(by show Value.int _ _ = Value.int _ _; congr 1 <;> omega), trivial⟩
                      · exact (Some'.weak (.skip (.takeEq (by first | rw [hX] | rfl) (.takeEq (by first | rw [hX] | rfl) (.take (.nil _))))))
                    · have p58 := h58; try simp only [decide_eq_true_eq, decide_eq_false_iff_not, beq_iff_eq, bne_iff_ne, beq_eq_false_iff_ne, ne_eq, gt_iff_lt, ge_iff_le, Int.not_lt, Int.not_le, bne_eq_false_iff_eq, Bool.not_eq_true', Bool.not_eq_false', Bool.and_eq_true, Bool.and_eq_false_iff, Bool.or_eq_true, Bool.or_eq_false_iff, Decidable.not_not, List.cons.injEq, and_true] at p58
                      refine Run.skip ?_
                      refine Run.blockEnd ?_
                      refine Run.region ?_
                      refine Run.q (v := .int .i64 ((k : Int) + 1 + (m : Int))) rfl (OpQ.y (OpY.pure rfl)) ?_
                      refine Run.q (v := .int .i64 (((k : Int) + 1 + (m : Int)) + 1)) rfl (OpQ.y (OpY.add rfl rfl rfl (by omega) (by omega))) ?_
                      refine Run.q (v := .int .i64 (((k : Int) + 1 + (m : Int)) + 1)) rfl (OpQ.y (OpY.pure rfl)) ?_
                      refine Run.done ?_
                      have hX : gS C (R * C).toNat k ++ gI C k (k + 1) (m + 1) = gS C (R * C).toNat k ++ gI C k (k + 1) m := by
                        rw [gI]
                        rw [if_neg (by rintro (h | ⟨h1, h2⟩) <;> omega), List.append_nil]
                      refine Run.goal ⟨(by repeat (first | exact Same.refl _ _ | refine Same.put rfl ?_ | refine Same.over rfl rfl ?_)), (m + 1, v2), ?_, ?_, ?_, ?_⟩
                      · show (k : Int) + 1 + ((m + 1 : Nat) : Int) ≤ _; omega
                      · show (R * C).toNat - (m + 1) < (R * C).toNat - m; omega
                      · exact ⟨(by show Value.int _ _ = Value.int _ _; congr 1 <;> omega), trivial⟩
                      · exact (Some'.weak (.takeEq (by first | rw [hX] | rfl) (.take (.take (.nil _)))))
                  · refine Run.q (v := .bool false) rfl (OpQ.y (OpY.moveB rfl h52)) ?_
                    have p52 := h52; try simp only [decide_eq_true_eq, decide_eq_false_iff_not, beq_iff_eq, bne_iff_ne, beq_eq_false_iff_ne, ne_eq, gt_iff_lt, ge_iff_le, Int.not_lt, Int.not_le, bne_eq_false_iff_eq, Bool.not_eq_true', Bool.not_eq_false', Bool.and_eq_true, Bool.and_eq_false_iff, Bool.or_eq_true, Bool.or_eq_false_iff, Decidable.not_not, List.cons.injEq, and_true] at p52
                    refine Run.pass rfl ?_
                    refine Run.pass rfl ?_
                    refine Run.pass rfl ?_
                    refine Run.pass rfl ?_
                    refine Run.q (v := .bool false) rfl (OpQ.y (OpY.pure rfl)) ?_
                    refine Run.q (v := .bool false) rfl (OpQ.y (OpY.pure rfl)) ?_
                    refine Run.done ?_
                    refine Run.cond (b := false) rfl (fun h => nomatch h) (fun _ => ?_)
                    refine Run.skip ?_
                    refine Run.blockEnd ?_
                    refine Run.region ?_
                    refine Run.q (v := .int .i64 ((k : Int) + 1 + (m : Int))) rfl (OpQ.y (OpY.pure rfl)) ?_
                    refine Run.q (v := .int .i64 (((k : Int) + 1 + (m : Int)) + 1)) rfl (OpQ.y (OpY.add rfl rfl rfl (by omega) (by omega))) ?_
                    refine Run.q (v := .int .i64 (((k : Int) + 1 + (m : Int)) + 1)) rfl (OpQ.y (OpY.pure rfl)) ?_
                    refine Run.done ?_
                    have hX : gS C (R * C).toNat k ++ gI C k (k + 1) (m + 1) = gS C (R * C).toNat k ++ gI C k (k + 1) m := by
                      rw [gI]
                      rw [if_neg (by rintro (h | ⟨h1, h2⟩) <;> omega), List.append_nil]
                    refine Run.goal ⟨(by repeat (first | exact Same.refl _ _ | refine Same.put rfl ?_ | refine Same.over rfl rfl ?_)), (m + 1, v2), ?_, ?_, ?_, ?_⟩
                    · show (k : Int) + 1 + ((m + 1 : Nat) : Int) ≤ _; omega
                    · show (R * C).toNat - (m + 1) < (R * C).toNat - m; omega
                    · exact ⟨(by show Value.int _ _ = Value.int _ _; congr 1 <;> omega), trivial⟩
                    · exact (Some'.weak (.takeEq (by first | rw [hX] | rfl) (.take (.take (.nil _)))))
              · have p39 := h39; try simp only [decide_eq_true_eq, decide_eq_false_iff_not, beq_iff_eq, bne_iff_ne, beq_eq_false_iff_ne, ne_eq, gt_iff_lt, ge_iff_le, Int.not_lt, Int.not_le, bne_eq_false_iff_eq, Bool.not_eq_true', Bool.not_eq_false', Bool.and_eq_true, Bool.and_eq_false_iff, Bool.or_eq_true, Bool.or_eq_false_iff, Decidable.not_not, List.cons.injEq, and_true] at p39
                have hmn : m = (R * C).toNat - (k + 1) := by omega
                have hY : gS C (R * C).toNat (k + 1) = gS C (R * C).toNat k ++ gI C k (k + 1) m := by rw [gS, hmn]
                refine Run.exit rfl ?_
                refine Run.blockEnd ?_
                refine Run.region ?_
                refine Run.q (v := .int .i64 (((k : Nat) : Int))) rfl (OpQ.y (OpY.pure rfl)) ?_
                refine Run.q (v := .int .i64 ((((k : Nat) : Int)) + 1)) rfl (OpQ.y (OpY.add rfl rfl rfl (by omega) (by omega))) ?_
                refine Run.q (v := .int .i64 ((((k : Nat) : Int)) + 1)) rfl (OpQ.y (OpY.pure rfl)) ?_
                refine Run.done ?_
                refine Run.goal ⟨(by repeat (first | exact Same.refl _ _ | refine Same.put rfl ?_ | refine Same.over rfl rfl ?_)), (k + 1, v2), ?_, ?_, ?_, ?_⟩
                · show ((k + 1 : Nat) : Int) ≤ _; omega
                · show (R * C).toNat - (k + 1) < (R * C).toNat - k; omega
                · exact ⟨(by first | rfl | (congr 1; omega) | simp), trivial⟩
                · exact (Some'.weak (.takeEq (by first | rw [hY] | rfl) (.takeEq (by first | rw [hY] | rfl) (.take (.nil _)))))
          · have p31 := h31; try simp only [decide_eq_true_eq, decide_eq_false_iff_not, beq_iff_eq, bne_iff_ne, beq_eq_false_iff_ne, ne_eq, gt_iff_lt, ge_iff_le, Int.not_lt, Int.not_le, bne_eq_false_iff_eq, Bool.not_eq_true', Bool.not_eq_false', Bool.and_eq_true, Bool.and_eq_false_iff, Bool.or_eq_true, Bool.or_eq_false_iff, Decidable.not_not, List.cons.injEq, and_true] at p31
            have hkn : k = (R * C).toNat := by omega
            refine Run.exit rfl ?_
            refine Run.seq ?_
            refine Run.region ?_
            refine Run.q (v := .agg #[.int .i64 (R * C), v]) rfl (OpQ.y (OpY.loadN (cs := [.int .i64 (R * C), v]) Tagg_25 rfl (Cells.blk (.tail _ (List.Mem.head _)) ⟨rfl, rfl, trivial⟩))) ?_
            refine Run.formOwn (.head _) (fun A_v1 c_v1 hv hcapc_v1 hmaxc_v1 => ?_) (fun _ _ _ => ⟨nofun, nofun, nofun⟩)
            subst hv
            refine Run.step rfl (OpStep.storeAll (us := [.int .i64 (R * C), .slice A_v1 ((gS C (R * C).toNat k).length) c_v1]) Tsize_25 rfl rfl rfl (.there _ (.there _ (.here _))) rfl ?_)
            refine Run.q (v := .bool true) rfl (OpQ.y (OpY.pure rfl)) ?_
            refine Run.done ?_
            refine Run.ret ?_
            refine ⟨.tuple #[.agg #[.int .i64 (R * C), .slice A_v1 ((gS C (R * C).toNat k).length) c_v1], .bool true], [.own (.slice A_v1 ((gS C (R * C).toNat k).length) c_v1) 64 2 ((gS C (R * C).toNat k).length) (ints (fl2 (gS C (R * C).toNat k)))], Out.cell2 (cs := [.int .i64 (R * C), .slice A_v1 ((gS C (R * C).toNat k).length) c_v1]) rfl Tagg_25 rfl (Cells.blk (.tail _ (.tail _ (List.Mem.head _))) ⟨rfl, rfl, trivial⟩) rfl, (Some'.weak (.take (.nil _))), ?_⟩
            have hok : gridOk R C = true := gridOk_iff.2 ⟨hq2, hp2, by omega⟩
            have e : gridE R C = gS C (R * C).toNat k := by rw [gridE, if_pos hok]; rw [hkn]; exact (grid_same hok).symm
            exact ⟨_, by rw [hok, gridN, if_pos hok], by rw [e]⟩


theorem gridE_le (R C : Int) : (gridE R C).length ≤ 128 := by
  unfold gridE; split
  · rename_i h
    obtain ⟨h1, h2, h3⟩ := gridOk_iff.1 h
    have := gE_le C (R * C) (R * C).toNat
    have := mul_range h1 h2
    omega
  · simp
def lE : Nat → List (Int × Int)
  | 0 => []
  | k + 1 => lE k ++ [((k : Int), (k : Int) + 1)]
theorem lE_length : ∀ k, (lE k).length = k
  | 0 => rfl
  | k + 1 => by simp [lE, lE_length k]
theorem line_same {n : Int} (h : 1 ≤ n ∧ n ≤ 8) : lE (n.toNat - 1) = gridE 1 n := by
  rcases small h with rfl | rfl | rfl | rfl | rfl | rfl | rfl | rfl <;> decide
theorem line_ok {n : Int} : gridOk 1 n = within n 1 8 := by
  rcases Bool.eq_false_or_eq_true (within n 1 8) with h | h
  · have := within_iff.1 h; simp [gridOk, within] at * <;> omega
  · simp [gridOk, h]

set_option maxHeartbeats 1000000 in
set_option maxRecDepth 20000 in
theorem LineGraph_spec (n : Int) (w : World) : Calls Try.prog 10 #[.int .i64 n] w (Post No w fun v H => ∃ u, v = .tuple #[.agg #[.int .i64 (gridN 1 n), u], .bool (gridOk 1 n)] ∧ H = [.own u 64 2 (gridE 1 n).length (ints (fl2 (gridE 1 n)))]) := by
  refine enter (n := 12) (args := [.int .i64 n]) Try.func10 rfl rfl (St.empty _ _) ?_
  refine Run.seq ?_
  refine Run.region ?_
  refine Run.step rfl (OpStep.alloc (zs := [.int .i64 0, .slice none 0 0]) Tzero_25 fun b1 => ?_)
  refine Run.q (v := .bool false) rfl (OpQ.y (OpY.pure rfl)) ?_
  refine Run.done ?_
  refine Run.seq ?_
  refine Run.seq ?_
  refine Run.region ?_
  refine Run.q (v := .int .i64 n) rfl (OpQ.y (OpY.pure rfl)) ?_
  refine Run.q (v := .bool (within n 1 8)) rfl (OpQ.call (vs := [.int .i64 n, .int .i64 1, .int .i64 8]) (caps := []) Tcall_39 rfl rfl (fun w hs => within_spec _ _ _ w)) ?_
  refine Run.q (v := .bool (!(within n 1 8))) rfl (OpQ.y (OpY.pure rfl)) ?_
  refine Run.done ?_
  refine Run.cond (b := !(within n 1 8)) rfl (fun h6 => ?_) (fun h6 => ?_)
  · have p6 := h6; try simp only [decide_eq_true_eq, decide_eq_false_iff_not, beq_iff_eq, bne_iff_ne, beq_eq_false_iff_ne, ne_eq, gt_iff_lt, ge_iff_le, Int.not_lt, Int.not_le, bne_eq_false_iff_eq, Bool.not_eq_true', Bool.not_eq_false', Bool.and_eq_true, Bool.and_eq_false_iff, Bool.or_eq_true, Bool.or_eq_false_iff, Decidable.not_not, List.cons.injEq, and_true] at p6
    refine Run.seq ?_
    refine Run.region ?_
    refine Run.q (v := .agg #[.int .i64 0, .slice none 0 0]) rfl (OpQ.y (OpY.build (cs := [.int .i64 0, .slice none 0 0]) (by kernel_rfl))) ?_
    refine Run.step rfl (OpStep.storeAll (us := [.int .i64 0, .slice none 0 0]) Tsize_25 rfl rfl rfl (.here _) rfl ?_)
    refine Run.q (v := .bool false) rfl (OpQ.y (OpY.pure rfl)) ?_
    refine Run.done ?_
    refine Run.ret ?_
    refine ⟨.tuple #[.agg #[.int .i64 0, .slice none 0 0], .bool false], [.own (.slice none 0 0) 64 2 0 ([])], Out.cell2 (cs := [.int .i64 0, .slice none 0 0]) rfl Tagg_25 rfl (Cells.blk (.head _) ⟨rfl, rfl, trivial⟩) rfl, ((Weak.nilOwn 64 2).trans (Some'.weak (.take (.nil _)))), ?_⟩
    have hok : gridOk 1 n = false := by rw [line_ok]; simp_all
    exact ⟨_, by rw [hok, gridN, if_neg (by rw [hok]; decide)], by simp [gridE, hok, fl2, ints]⟩
  · have p6 := h6; try simp only [decide_eq_true_eq, decide_eq_false_iff_not, beq_iff_eq, bne_iff_ne, beq_eq_false_iff_ne, ne_eq, gt_iff_lt, ge_iff_le, Int.not_lt, Int.not_le, bne_eq_false_iff_eq, Bool.not_eq_true', Bool.not_eq_false', Bool.and_eq_true, Bool.and_eq_false_iff, Bool.or_eq_true, Bool.or_eq_false_iff, Decidable.not_not, List.cons.injEq, and_true] at p6
    refine Run.skip ?_
    refine Run.seq ?_
    refine Run.region ?_
    refine Run.q (v := .int .i64 n) rfl (OpQ.y (OpY.pure rfl)) ?_
    refine Run.step rfl (OpStep.call (vs := [.int .i64 1, .int .i64 n]) (caps := []) Tcall_40 rfl rfl (fun w hs => GridGraph_spec _ _ w) ?_)
    rintro _ _ ⟨u, rfl, rfl⟩
    show Run _ _ (putF _ _ _ (.tuple #[.agg #[.int .i64 (gridN 1 n), u], .bool (gridOk 1 n)])) [.own u 64 2 ((gridE 1 n).length) (ints (fl2 (gridE 1 n))), .blk b1 25 [.int .i64 0, .slice none 0 0]]
    refine Run.q (v := .agg #[.int .i64 (gridN 1 n), u]) rfl (OpQ.y (OpY.pure rfl)) ?_
    refine Run.q (v := .bool (gridOk 1 n)) rfl (OpQ.y (OpY.pure rfl)) ?_
    refine Run.formOwn (.head _) (fun A_u1 c_u1 hv hcapc_u1 hmaxc_u1 => ?_) (fun _ _ _ => ⟨nofun, nofun, nofun⟩)
    subst hv
    refine Run.step rfl (OpStep.storeAll (us := [.int .i64 (gridN 1 n), .slice A_u1 ((gridE 1 n).length) c_u1]) Tsize_25 rfl rfl rfl (.there _ (.here _)) rfl ?_)
    refine Run.q (v := .bool (gridOk 1 n)) rfl (OpQ.y (OpY.pure rfl)) ?_
    refine Run.done ?_
    refine Run.ret ?_
    refine ⟨.tuple #[.agg #[.int .i64 (gridN 1 n), .slice A_u1 ((gridE 1 n).length) c_u1], .bool (gridOk 1 n)], [.own (.slice A_u1 ((gridE 1 n).length) c_u1) 64 2 ((gridE 1 n).length) (ints (fl2 (gridE 1 n)))], Out.cell2 (cs := [.int .i64 (gridN 1 n), .slice A_u1 ((gridE 1 n).length) c_u1]) rfl Tagg_25 rfl (Cells.blk (.tail _ (List.Mem.head _)) ⟨rfl, rfl, trivial⟩) rfl, (Some'.weak (.take (.nil _))), ?_⟩
    exact ⟨_, rfl, rfl⟩

set_option maxHeartbeats 1000000 in
set_option maxRecDepth 20000 in
theorem sLineGraph_spec (n : Int) (w : World) : Calls Try.prog 11 #[.int .i64 n] w (Post No w fun v H => ∃ u, v = .tuple #[.agg #[.int .i64 (gridN 1 n), u], .bool (gridOk 1 n)] ∧ H = [.own u 64 2 (gridE 1 n).length (ints (fl2 (gridE 1 n)))]) := by
  refine enter (n := 28) (args := [.int .i64 n]) Try.func11 rfl rfl (St.empty _ _) ?_
  refine Run.seq ?_
  refine Run.region ?_
  refine Run.step rfl (OpStep.alloc (zs := [.int .i64 0, .slice none 0 0]) Tzero_25 fun b1 => ?_)
  refine Run.q (v := .bool false) rfl (OpQ.y (OpY.pure rfl)) ?_
  refine Run.done ?_
  refine Run.seq ?_
  refine Run.seq ?_
  refine Run.region ?_
  refine Run.q (v := .int .i64 n) rfl (OpQ.y (OpY.pure rfl)) ?_
  refine Run.q (v := .bool (within n 1 8)) rfl (OpQ.call (vs := [.int .i64 n, .int .i64 1, .int .i64 8]) (caps := []) Tcall_41 rfl rfl (fun w hs => l1In_spec _ _ _ w)) ?_
  refine Run.q (v := .bool (!(within n 1 8))) rfl (OpQ.y (OpY.pure rfl)) ?_
  refine Run.done ?_
  refine Run.cond (b := !(within n 1 8)) rfl (fun h8 => ?_) (fun h8 => ?_)
  · have p8 := h8; try simp only [decide_eq_true_eq, decide_eq_false_iff_not, beq_iff_eq, bne_iff_ne, beq_eq_false_iff_ne, ne_eq, gt_iff_lt, ge_iff_le, Int.not_lt, Int.not_le, bne_eq_false_iff_eq, Bool.not_eq_true', Bool.not_eq_false', Bool.and_eq_true, Bool.and_eq_false_iff, Bool.or_eq_true, Bool.or_eq_false_iff, Decidable.not_not, List.cons.injEq, and_true] at p8
    refine Run.seq ?_
    refine Run.region ?_
    refine Run.q (v := .agg #[.int .i64 0, .slice none 0 0]) rfl (OpQ.y (OpY.build (cs := [.int .i64 0, .slice none 0 0]) (by kernel_rfl))) ?_
    refine Run.step rfl (OpStep.storeAll (us := [.int .i64 0, .slice none 0 0]) Tsize_25 rfl rfl rfl (.here _) rfl ?_)
    refine Run.q (v := .bool false) rfl (OpQ.y (OpY.pure rfl)) ?_
    refine Run.done ?_
    refine Run.ret ?_
    refine ⟨.tuple #[.agg #[.int .i64 0, .slice none 0 0], .bool false], [.own (.slice none 0 0) 64 2 0 ([])], Out.cell2 (cs := [.int .i64 0, .slice none 0 0]) rfl Tagg_25 rfl (Cells.blk (.head _) ⟨rfl, rfl, trivial⟩) rfl, ((Weak.nilOwn 64 2).trans (Some'.weak (.take (.nil _)))), ?_⟩
    have hok : gridOk 1 n = false := by rw [line_ok]; simp_all
    exact ⟨_, by rw [hok, gridN, if_neg (by rw [hok]; decide)], by simp [gridE, hok, fl2, ints]⟩
  · have p8 := h8; try simp only [decide_eq_true_eq, decide_eq_false_iff_not, beq_iff_eq, bne_iff_ne, beq_eq_false_iff_ne, ne_eq, gt_iff_lt, ge_iff_le, Int.not_lt, Int.not_le, bne_eq_false_iff_eq, Bool.not_eq_true', Bool.not_eq_false', Bool.and_eq_true, Bool.and_eq_false_iff, Bool.or_eq_true, Bool.or_eq_false_iff, Decidable.not_not, List.cons.injEq, and_true] at p8
    refine Run.skip ?_
    refine Run.seq ?_
    have hq : within n 1 8 = true := by simpa using p8
    have hq2 := within_iff.1 hq
    refine Run.region ?_
    refine Run.q (v := .int .i64 n) rfl (OpQ.y (OpY.pure rfl)) ?_
    refine Run.q (v := .agg #[.int .i64 n, .slice none 0 0]) rfl (OpQ.y (OpY.build (cs := [.int .i64 n, .slice none 0 0]) (by kernel_rfl))) ?_
    refine Run.step rfl (OpStep.alloc (zs := [.int .i64 0, .slice none 0 0]) Tzero_25 fun b2 => ?_)
    refine Run.step rfl (OpStep.storeAll (us := [.int .i64 n, .slice none 0 0]) Tsize_25 rfl rfl rfl (.here _) rfl ?_)
    refine Run.done ?_
    refine Run.seq ?_
    refine Run.seq ?_
    refine Run.region ?_
    refine Run.q (v := .int .i64 0) rfl (OpQ.y (OpY.pure rfl)) ?_
    refine Run.done ?_
    refine Run.block ?_
    refine Run.loop (ι := Nat × Value) [5, 12, 13, 14, 15, 16, 17, 18, 19, 20, 21, 22, 23, 24, 25, 26] (fun ⟨k, v⟩ => [(5, .int .i64 (((k : Nat) : Int)))]) (fun ⟨k, v⟩ => [.own v 64 2 ((lE k).length) (ints (fl2 (lE k))), .blk b2 25 [.int .i64 n, v], .blk b1 25 [.int .i64 0, .slice none 0 0]]) (fun ⟨k, v⟩ => (k : Int) + 1 ≤ n) (fun ⟨k, v⟩ => n.toNat - k) (0, .slice none 0 0) ?_ ?_ ?_ ?_
    · show ((0 : Nat) : Int) + 1 ≤ _; omega
    · exact ⟨rfl, trivial⟩
    · exact ((Weak.nilOwn 64 2).trans (Some'.weak (.takeEq rfl (.takeEq rfl (.take (.nil _))))))
    · rintro ⟨k, v⟩ fr hinv
      show Run _ _ (over _ _ [(5, .int .i64 (((k : Nat) : Int)))] fr) [.own v 64 2 ((lE k).length) (ints (fl2 (lE k))), .blk b2 25 [.int .i64 n, v], .blk b1 25 [.int .i64 0, .slice none 0 0]]
      try dsimp only at hinv
      refine Run.seq ?_
      refine Run.seq ?_
      refine Run.region ?_
      refine Run.q (v := .int .i64 (((k : Nat) : Int))) rfl (OpQ.y (OpY.pure rfl)) ?_
      refine Run.q (v := .int .i64 ((((k : Nat) : Int)) + 1)) rfl (OpQ.y (OpY.add rfl rfl rfl (by omega) (by omega))) ?_
      refine Run.q (v := .int .i64 n) rfl (OpQ.y (OpY.pure rfl)) ?_
      refine Run.q (v := .bool (decide (((((k : Nat) : Int)) + 1) < n))) rfl (OpQ.y (OpY.pure rfl)) ?_
      refine Run.done ?_
      refine Run.cond (b := decide (((((k : Nat) : Int)) + 1) < n)) rfl (fun h15 => ?_) (fun h15 => ?_)
      · have p15 := h15; try simp only [decide_eq_true_eq, decide_eq_false_iff_not, beq_iff_eq, bne_iff_ne, beq_eq_false_iff_ne, ne_eq, gt_iff_lt, ge_iff_le, Int.not_lt, Int.not_le, bne_eq_false_iff_eq, Bool.not_eq_true', Bool.not_eq_false', Bool.and_eq_true, Bool.and_eq_false_iff, Bool.or_eq_true, Bool.or_eq_false_iff, Decidable.not_not, List.cons.injEq, and_true] at p15
        have hle := lE_length k
        refine Run.skip ?_
        refine Run.seq ?_
        refine Run.block ?_
        refine Run.region ?_
        refine Run.q (v := .pointer (some ⟨b2, 1, none⟩)) rfl (OpQ.y (OpY.fieldAddr Tfo_25_1 rfl rfl)) ?_
        refine Run.q (v := v) rfl (OpQ.y (OpY.load1 Tone_23 rfl (Cells.blk (.tail _ (List.Mem.head _)) ⟨rfl, trivial⟩))) ?_
        refine Run.q (v := .int .i64 (((k : Nat) : Int))) rfl (OpQ.y (OpY.pure rfl)) ?_
        refine Run.q (v := .int .i64 (((k : Nat) : Int))) rfl (OpQ.y (OpY.pure rfl)) ?_
        refine Run.q (v := .int .i64 ((((k : Nat) : Int)) + 1)) rfl (OpQ.y (OpY.add rfl rfl rfl (by omega) (by omega))) ?_
        refine Run.q (v := .agg #[.int .i64 (((k : Nat) : Int)), .int .i64 ((((k : Nat) : Int)) + 1)]) rfl (OpQ.y (OpY.build (cs := [.int .i64 (((k : Nat) : Int)), .int .i64 ((((k : Nat) : Int)) + 1)]) (by kernel_rfl))) ?_
        refine Run.step rfl (OpStep.buildSlice (us := [.int .i64 (((k : Nat) : Int)), .int .i64 ((((k : Nat) : Int)) + 1)]) Tsl_23 (by decide) (by decide) ⟨rfl, [.int .i64 (((k : Nat) : Int)), .int .i64 ((((k : Nat) : Int)) + 1)], _, rfl, rfl, rfl, rfl⟩ rfl fun b3 => ?_)
        refine Run.step rfl (OpStep.append (H1 := [.own (.slice (some ⟨b3, 0, none⟩) 1 1) 64 2 1 ([.int .i64 (((k : Nat) : Int)), .int .i64 ((((k : Nat) : Int)) + 1)])]) (H2 := [.blk b2 25 [.int .i64 n, v], .blk b1 25 [.int .i64 0, .slice none 0 0]]) (v := v) (u := .slice (some ⟨b3, 0, none⟩) 1 1) (n := (lE k).length) (m := 1) (xs := ints (fl2 (lE k))) (ys := [.int .i64 (((k : Nat) : Int)), .int .i64 ((((k : Nat) : Int)) + 1)]) Tsl_23 (by decide) rfl rfl rfl rfl (fun w hs => hs.slOwn (.head _)) (by simp [Value.oneCell']) (by first | omega | (simp only [List.length_append, List.length_cons, List.length_nil]; omega)) (by simp only [maxLen]; first | omega | (simp only [List.length_append, List.length_cons, List.length_nil]; omega)) fun av1 hnav1 => ?_)
        refine Run.weak (H' := [.own (.slice (some ⟨b3, 0, none⟩) 1 1) 64 2 1 ([.int .i64 (((k : Nat) : Int)), .int .i64 ((((k : Nat) : Int)) + 1)]), .own av1 64 2 ((lE k ++ [((k : Int), (k : Int) + 1)]).length) (ints (fl2 (lE k ++ [((k : Int), (k : Int) + 1)]))), .blk b2 25 [.int .i64 n, v], .blk b1 25 [.int .i64 0, .slice none 0 0]]) (Some'.weak (.take (.takeEq (by simp [fl2_append, fl2, ints, List.append_assoc, Nat.add_assoc]) (.take (.take (.nil _)))))) ?_ ⟨_, _, rfl, fun _ => nofun, fun _ => nofun⟩
        refine Run.q (v := .pointer (some ⟨b2, 1, none⟩)) rfl (OpQ.y (OpY.fieldAddr Tfo_25_1 rfl rfl)) ?_
        refine Run.formOwn (.tail _ (List.Mem.head _)) (fun A_av11 c_av11 hv hcapc_av11 hmaxc_av11 => ?_) (fun _ _ _ => ⟨nofun, nofun, nofun⟩)
        subst hv
        refine Run.step rfl (OpStep.store (us := [.slice A_av11 ((lE k ++ [((k : Int), (k : Int) + 1)]).length) c_av11]) Tsize_23 rfl rfl rfl (.there _ (.there _ (.here _))) (by simp only [List.length_cons, List.length_nil]; omega) ?_)
        show Run _ _ _ [.own (.slice (some ⟨b3, 0, none⟩) 1 1) 64 2 1 ([.int .i64 (((k : Nat) : Int)), .int .i64 ((((k : Nat) : Int)) + 1)]), .own (.slice A_av11 ((lE k ++ [((k : Int), (k : Int) + 1)]).length) c_av11) 64 2 ((lE k ++ [((k : Int), (k : Int) + 1)]).length) (ints (fl2 (lE k ++ [((k : Int), (k : Int) + 1)]))), .blk b2 25 [.int .i64 n, .slice A_av11 ((lE k ++ [((k : Int), (k : Int) + 1)]).length) c_av11], .blk b1 25 [.int .i64 0, .slice none 0 0]]
        refine Run.done ?_
        refine Run.blockEnd ?_
        refine Run.region ?_
        refine Run.q (v := .int .i64 (((k : Nat) : Int))) rfl (OpQ.y (OpY.pure rfl)) ?_
        refine Run.q (v := .int .i64 ((((k : Nat) : Int)) + 1)) rfl (OpQ.y (OpY.add rfl rfl rfl (by omega) (by omega))) ?_
        refine Run.q (v := .int .i64 ((((k : Nat) : Int)) + 1)) rfl (OpQ.y (OpY.pure rfl)) ?_
        refine Run.done ?_
        have hX : lE (k + 1) = lE k ++ [((k : Int), (k : Int) + 1)] := rfl
        refine Run.goal ⟨(by repeat (first | exact Same.refl _ _ | refine Same.put rfl ?_ | refine Same.over rfl rfl ?_)), (k + 1, .slice A_av11 ((lE k ++ [((k : Int), (k : Int) + 1)]).length) c_av11), ?_, ?_, ?_, ?_⟩
        · show ((k + 1 : Nat) : Int) + 1 ≤ _; omega
        · show n.toNat - (k + 1) < n.toNat - k; omega
        · exact ⟨(by first | rfl | (congr 1; omega) | simp), trivial⟩
        · exact (Some'.weak (.skip (.takeEq (by first | rw [hX] | rfl) (.takeEq (by first | rw [hX] | rfl) (.take (.nil _))))))
      · have p15 := h15; try simp only [decide_eq_true_eq, decide_eq_false_iff_not, beq_iff_eq, bne_iff_ne, beq_eq_false_iff_ne, ne_eq, gt_iff_lt, ge_iff_le, Int.not_lt, Int.not_le, bne_eq_false_iff_eq, Bool.not_eq_true', Bool.not_eq_false', Bool.and_eq_true, Bool.and_eq_false_iff, Bool.or_eq_true, Bool.or_eq_false_iff, Decidable.not_not, List.cons.injEq, and_true] at p15
        have hkn : k = n.toNat - 1 := by omega
        refine Run.exit rfl ?_
        refine Run.seq ?_
        refine Run.region ?_
        refine Run.q (v := .agg #[.int .i64 n, v]) rfl (OpQ.y (OpY.loadN (cs := [.int .i64 n, v]) Tagg_25 rfl (Cells.blk (.tail _ (List.Mem.head _)) ⟨rfl, rfl, trivial⟩))) ?_
        refine Run.formOwn (.head _) (fun A_v1 c_v1 hv hcapc_v1 hmaxc_v1 => ?_) (fun _ _ _ => ⟨nofun, nofun, nofun⟩)
        subst hv
        refine Run.step rfl (OpStep.storeAll (us := [.int .i64 n, .slice A_v1 ((lE k).length) c_v1]) Tsize_25 rfl rfl rfl (.there _ (.there _ (.here _))) rfl ?_)
        refine Run.q (v := .bool true) rfl (OpQ.y (OpY.pure rfl)) ?_
        refine Run.done ?_
        refine Run.ret ?_
        refine ⟨.tuple #[.agg #[.int .i64 n, .slice A_v1 ((lE k).length) c_v1], .bool true], [.own (.slice A_v1 ((lE k).length) c_v1) 64 2 ((lE k).length) (ints (fl2 (lE k)))], Out.cell2 (cs := [.int .i64 n, .slice A_v1 ((lE k).length) c_v1]) rfl Tagg_25 rfl (Cells.blk (.tail _ (.tail _ (List.Mem.head _))) ⟨rfl, rfl, trivial⟩) rfl, (Some'.weak (.take (.nil _))), ?_⟩
        have hok : gridOk 1 n = true := by rw [line_ok]; exact hq
        have e : gridE 1 n = lE k := by rw [hkn]; exact (line_same hq2).symm
        exact ⟨_, by rw [hok, gridN, if_pos hok, Int.one_mul], by rw [e]⟩

end Go.Proofs.Ytgghmjijjdboeaa
