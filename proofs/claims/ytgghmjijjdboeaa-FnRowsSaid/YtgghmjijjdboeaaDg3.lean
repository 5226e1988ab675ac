/- Walks: drawn rows and permutations. -/
import Derived.Test.YtgghmjijjdboeaaDg2
import Derived.Test.YtgghmjijjdboeaaLcgb
import Derived.Test.YtgghmjijjdboeaaCg3
import Derived.Test.YtgghmjijjdboeaaProg
set_option linter.unusedSimpArgs false
set_option linter.unusedVariables false
namespace Go.Proofs.Ytgghmjijjdboeaa
open Go Go.RowKit
namespace Dg3T
theorem Tcall_38 : callable Try.prog 38 = true := by kernel_rfl
theorem Tcall_47 : callable Try.prog 47 = true := by kernel_rfl
theorem Tcall_59 : callable Try.prog 59 = true := by kernel_rfl
theorem Tcall_60 : callable Try.prog 60 = true := by kernel_rfl
theorem Tsl_34 : sliceOf Try.prog 34 = some (3, 1, 8, [.int .i64 0]) := by kernel_rfl
end Dg3T
open Dg3T
set_option maxHeartbeats 1000000 in
set_option maxRecDepth 20000 in
theorem DrawEliminateRows_spec {va : Value} {n : Nat} {cs : List Int} {w : World} (ha : Sl w va 1 n (u8s cs)) (hby : ∀ x ∈ cs, 0 ≤ x ∧ x < 256) : Calls Try.prog 25 #[va] w (Post No w fun v H => ∃ ls : List Int, ls.length ≤ 6 ∧ (∀ x ∈ ls, -1 ≤ x ∧ x ≤ 1099511627776) ∧ H = [.own v 3 1 ls.length (ints ls)]) := by
  obtain ⟨Ac, cc, rfl, _, _⟩ := ha.form0
  refine enter (n := 34) (args := [.slice Ac n cc]) Try.func25 rfl rfl (St.empty _ _) ?_
  refine Run.seq ?_
  refine Run.region ?_
  refine Run.q (v := .slice none 0 0) rfl (OpQ.y (OpY.pure rfl)) ?_
  refine Run.done ?_
  refine Run.seq ?_
  refine Run.region ?_
  refine Run.q (v := .slice Ac n cc) rfl (OpQ.y (OpY.pure rfl)) ?_
  refine Run.q (v := .agg #[.slice Ac n cc, .int .i64 0, .int .u64 0]) rfl (OpQ.y (OpY.build (cs := [.slice Ac n cc, .int .i64 0, .int .u64 0]) (by kernel_rfl))) ?_
  refine Run.step rfl (OpStep.box (us := [.slice Ac n cc, .int .i64 0, .int .u64 0]) rfl fun b1 => ?_)
  refine Run.q (v := .pointer (some ⟨b1, 0, none⟩)) rfl (OpQ.y (OpY.pure rfl)) ?_
  refine Run.done ?_
  refine Run.seq ?_
  refine Run.region ?_
  refine Run.q (v := .slice none 0 0) rfl (OpQ.y (OpY.pure rfl)) ?_
  refine Run.done ?_
  refine Run.seq ?_
  refine Run.seq ?_
  refine Run.region ?_
  refine Run.q (v := .pointer (some ⟨b1, 0, none⟩)) rfl (OpQ.y (OpY.pure rfl)) ?_
  refine Run.step rfl (OpStep.callM (H1 := [.blk b1 60 [.slice Ac n cc, .int .i64 0, .int .u64 0]]) (H2 := []) (vs := [.pointer (some ⟨b1, 0, none⟩), .int .i64 5]) (caps := []) Tcall_47 rfl rfl (Weak.refl _) (fun w hs => pick_ex (s := (0, 0)) (by decide) (Cur.top ha hby hs (.head _)) (hs.sub (List.sublist_append_left _ _)).self) ?_)
  rintro _ _ ⟨x1, s1, hx1, hs1, rfl, rfl⟩
  show Run _ _ (putF _ _ _ (.int .i64 x1)) [.blk b1 60 [.slice Ac n cc, .int .i64 (((s1.1 : Nat) : Int)), .int .u64 (s1.2)]]
  have es1 : ((0 : Nat), (0 : Int)).1 = 0 := rfl
  refine Run.q (v := .int .i64 (1 + x1)) rfl (OpQ.y (OpY.add rfl rfl rfl (by omega) (by omega))) ?_
  refine Run.q (v := .int .i64 (1 + x1)) rfl (OpQ.y (OpY.pure rfl)) ?_
  refine Run.done ?_
  refine Run.block ?_
  obtain ⟨i0, hi0⟩ : ∃ i0 : Nat, 1 + x1 = ((i0 : Nat) : Int) := ⟨(1 + x1).toNat, by omega⟩
  refine Run.weak (H' := [.own (.slice none 0 0) 3 1 0 ([]), .blk b1 60 [.slice Ac n cc, .int .i64 (((s1.1 : Nat) : Int)), .int .u64 (s1.2)]]) (Weak.nilOwn _ _) ?_ ⟨_, _, rfl, fun _ => nofun, fun _ => nofun⟩
  refine Run.loop (ι := Nat × (Nat × Int) × Value × List Int) [4, 5, 12, 13, 14, 15, 16, 17, 18, 19, 20] (fun ⟨i, sc, v, l⟩ => [(4, v), (5, .int .i64 (((i : Nat) : Int)))]) (fun ⟨i, sc, v, l⟩ => [.own v 3 1 (l.length) (ints l), .blk b1 60 [.slice Ac n cc, .int .i64 (((sc.1 : Nat) : Int)), .int .u64 (sc.2)]]) (fun ⟨i, sc, v, l⟩ => l.length + i ≤ 5 ∧ sc.1 + 2 * i ≤ 12 ∧ ∀ x ∈ l, 0 ≤ x ∧ x ≤ 31) (fun ⟨i, sc, v, l⟩ => i) (i0, s1, .slice none 0 0, []) ?_ ?_ ?_ ?_
  · exact ⟨by show 0 + i0 ≤ 5; omega, by omega, by simp⟩
  · exact ⟨rfl, (by show Value.int _ _ = Value.int _ _; rw [hi0]), trivial⟩
  · exact (((Weak.front [.own (.slice none 0 0) 3 1 0 ([])] (.blk b1 60 [.slice Ac n cc, .int .i64 (((s1.1 : Nat) : Int)), .int .u64 (s1.2)]) []).trans (Weak.front [.blk b1 60 [.slice Ac n cc, .int .i64 (((s1.1 : Nat) : Int)), .int .u64 (s1.2)]] (.own (.slice none 0 0) 3 1 0 ([])) [])).trans (Some'.weak (.takeEq (by first | rfl | simp [ints]) (.takeEq (by first | rfl | simp [ints]) (.nil _)))))
  · rintro ⟨i, sc, v, l⟩ fr hinv
    show Run _ _ (over _ _ [(4, v), (5, .int .i64 (((i : Nat) : Int)))] fr) [.own v 3 1 (l.length) (ints l), .blk b1 60 [.slice Ac n cc, .int .i64 (((sc.1 : Nat) : Int)), .int .u64 (sc.2)]]
    try dsimp only at hinv
    obtain ⟨hl1, hl2, hl3⟩ := hinv
    refine Run.seq ?_
    refine Run.seq ?_
    refine Run.region ?_
    refine Run.q (v := .int .i64 (((i : Nat) : Int))) rfl (OpQ.y (OpY.pure rfl)) ?_
    refine Run.q (v := .bool (decide ((((i : Nat) : Int)) > 0))) rfl (OpQ.y (OpY.pure rfl)) ?_
    refine Run.done ?_
    refine Run.cond (b := decide ((((i : Nat) : Int)) > 0)) rfl (fun h13 => ?_) (fun h13 => ?_)
    · have p13 := h13; try simp only [decide_eq_true_eq, decide_eq_false_iff_not, beq_iff_eq, bne_iff_ne, beq_eq_false_iff_ne, ne_eq, gt_iff_lt, ge_iff_le, Int.not_lt, Int.not_le, bne_eq_false_iff_eq, Bool.not_eq_true', Bool.not_eq_false', Bool.and_eq_true, Bool.and_eq_false_iff, Bool.or_eq_true, Bool.or_eq_false_iff, Decidable.not_not, List.cons.injEq, and_true] at p13
      refine Run.skip ?_
      refine Run.seq ?_
      refine Run.block ?_
      refine Run.region ?_
      refine Run.q (v := v) rfl (OpQ.y (OpY.pure rfl)) ?_
      refine Run.q (v := .pointer (some ⟨b1, 0, none⟩)) rfl (OpQ.y (OpY.pure rfl)) ?_
      refine Run.step rfl (OpStep.callM (H1 := [.blk b1 60 [.slice Ac n cc, .int .i64 (((sc.1 : Nat) : Int)), .int .u64 (sc.2)]]) (H2 := [.own v 3 1 (l.length) (ints l)]) (vs := [.pointer (some ⟨b1, 0, none⟩), .int .i64 32]) (caps := []) Tcall_47 rfl rfl (Weak.front [.own v 3 1 (l.length) (ints l)] (.blk b1 60 [.slice Ac n cc, .int .i64 (((sc.1 : Nat) : Int)), .int .u64 (sc.2)]) []) (fun w hs => pick_ex (s := sc) (by omega) (Cur.top ha hby hs (.head _)) (hs.sub (List.sublist_append_left _ _)).self) ?_)
      rintro _ _ ⟨x2, s2, hx2, hs2, rfl, rfl⟩
      show Run _ _ (putF _ _ _ (.int .i64 x2)) [.blk b1 60 [.slice Ac n cc, .int .i64 (((s2.1 : Nat) : Int)), .int .u64 (s2.2)], .own v 3 1 (l.length) (ints l)]
      refine Run.step rfl (OpStep.buildSlice (us := [.int .i64 x2]) Tsl_34 (by decide) (by decide) ⟨rfl, [.int .i64 x2], _, rfl, rfl, rfl, rfl⟩ rfl fun b2 => ?_)
      refine Run.step rfl (OpStep.append (H1 := [.own (.slice (some ⟨b2, 0, none⟩) 1 1) 3 1 1 ([.int .i64 x2]), .blk b1 60 [.slice Ac n cc, .int .i64 (((s2.1 : Nat) : Int)), .int .u64 (s2.2)]]) (H2 := []) (v := v) (u := .slice (some ⟨b2, 0, none⟩) 1 1) (n := l.length) (m := 1) (xs := ints l) (ys := [.int .i64 x2]) Tsl_34 (by decide) rfl rfl rfl rfl (fun w hs => hs.slOwn (.head _)) (by simp [Value.oneCell']) (by omega) (by simp only [maxLen]; omega) fun av1 hnav1 => ?_)
      refine Run.weak (H' := [.own (.slice (some ⟨b2, 0, none⟩) 1 1) 3 1 1 ([.int .i64 x2]), .blk b1 60 [.slice Ac n cc, .int .i64 (((s2.1 : Nat) : Int)), .int .u64 (s2.2)], .own av1 3 1 ((l ++ [x2]).length) (ints (l ++ [x2]))]) (Some'.weak (.take (.take (.takeEq (by simp [ints]) (.nil _))))) ?_ ⟨_, _, rfl, fun _ => nofun, fun _ => nofun⟩
      refine Run.q (v := av1) rfl (OpQ.y (OpY.pure rfl)) ?_
      refine Run.done ?_
      refine Run.blockEnd ?_
      refine Run.region ?_
      refine Run.q (v := .int .i64 (((i : Nat) : Int))) rfl (OpQ.y (OpY.pure rfl)) ?_
      refine Run.q (v := .int .i64 ((((i : Nat) : Int)) - 1)) rfl (OpQ.y (OpY.sub rfl rfl rfl (by omega) (by omega))) ?_
      refine Run.q (v := .int .i64 ((((i : Nat) : Int)) - 1)) rfl (OpQ.y (OpY.pure rfl)) ?_
      refine Run.done ?_
      refine Run.goal ⟨(by repeat (first | exact Same.refl _ _ | refine Same.put rfl ?_ | refine Same.over rfl rfl ?_)), (i - 1, s2, av1, (l ++ [x2])), ?_, ?_, ?_, ?_⟩
      · exact ⟨by simp; omega, by omega, fun x hx => by
          rcases List.mem_append.1 hx with h | h
          · have := hl3 x h; omega
          · simp only [List.mem_cons, List.not_mem_nil, or_false] at h; omega⟩
      · show i - 1 < i; omega
      · exact ⟨(by first | rfl | (congr 1; omega) | simp), (by show Value.int _ _ = Value.int _ _; congr 1; omega), trivial⟩
      · exact (((Weak.front [.own (.slice (some ⟨b2, 0, none⟩) 1 1) 3 1 1 ([.int .i64 x2])] (.blk b1 60 [.slice Ac n cc, .int .i64 (((s2.1 : Nat) : Int)), .int .u64 (s2.2)]) [.own av1 3 1 ((l ++ [x2]).length) (ints (l ++ [x2]))]).trans (Weak.front [.blk b1 60 [.slice Ac n cc, .int .i64 (((s2.1 : Nat) : Int)), .int .u64 (s2.2)], .own (.slice (some ⟨b2, 0, none⟩) 1 1) 3 1 1 ([.int .i64 x2])] (.own av1 3 1 ((l ++ [x2]).length) (ints (l ++ [x2]))) [])).trans (Some'.weak (.takeEq (by first | rfl | simp [ints]) (.takeEq (by first | rfl | simp [ints]) (.nil _)))))
    · have p13 := h13; try simp only [decide_eq_true_eq, decide_eq_false_iff_not, beq_iff_eq, bne_iff_ne, beq_eq_false_iff_ne, ne_eq, gt_iff_lt, ge_iff_le, Int.not_lt, Int.not_le, bne_eq_false_iff_eq, Bool.not_eq_true', Bool.not_eq_false', Bool.and_eq_true, Bool.and_eq_false_iff, Bool.or_eq_true, Bool.or_eq_false_iff, Decidable.not_not, List.cons.injEq, and_true] at p13
      refine Run.exit rfl ?_
      refine Run.seq ?_
      refine Run.seq ?_
      refine Run.region ?_
      refine Run.q (v := .pointer (some ⟨b1, 0, none⟩)) rfl (OpQ.y (OpY.pure rfl)) ?_
      refine Run.step rfl (OpStep.callM (H1 := [.blk b1 60 [.slice Ac n cc, .int .i64 (((sc.1 : Nat) : Int)), .int .u64 (sc.2)]]) (H2 := [.own v 3 1 (l.length) (ints l)]) (vs := [.pointer (some ⟨b1, 0, none⟩), .int .i64 12]) (caps := []) Tcall_47 rfl rfl (Weak.front [.own v 3 1 (l.length) (ints l)] (.blk b1 60 [.slice Ac n cc, .int .i64 (((sc.1 : Nat) : Int)), .int .u64 (sc.2)]) []) (fun w hs => pick_ex (s := sc) (by omega) (Cur.top ha hby hs (.head _)) (hs.sub (List.sublist_append_left _ _)).self) ?_)
      rintro _ _ ⟨x3, s3, hx3, hs3, rfl, rfl⟩
      show Run _ _ (putF _ _ _ (.int .i64 x3)) [.blk b1 60 [.slice Ac n cc, .int .i64 (((s3.1 : Nat) : Int)), .int .u64 (s3.2)], .own v 3 1 (l.length) (ints l)]
      refine Run.done ?_
      refine Run.block ?_
      refine Run.seq ?_
      refine Run.region ?_
      refine Run.q (v := .bool (x3 == 0)) rfl (OpQ.y (OpY.pure rfl)) ?_
      refine Run.q (v := .bool (x3 == 0)) rfl (OpQ.y (OpY.pure rfl)) ?_
      refine Run.done ?_
      refine Run.cond (b := x3 == 0) rfl (fun h23 => ?_) (fun h23 => ?_)
      · have p23 := h23; try simp only [decide_eq_true_eq, decide_eq_false_iff_not, beq_iff_eq, bne_iff_ne, beq_eq_false_iff_ne, ne_eq, gt_iff_lt, ge_iff_le, Int.not_lt, Int.not_le, bne_eq_false_iff_eq, Bool.not_eq_true', Bool.not_eq_false', Bool.and_eq_true, Bool.and_eq_false_iff, Bool.or_eq_true, Bool.or_eq_false_iff, Decidable.not_not, List.cons.injEq, and_true] at p23
        refine Run.region ?_
        refine Run.q (v := v) rfl (OpQ.y (OpY.pure rfl)) ?_
        refine Run.q (v := .pointer (some ⟨b1, 0, none⟩)) rfl (OpQ.y (OpY.pure rfl)) ?_
        refine Run.step rfl (OpStep.buildSlice (us := [.int .i64 (-1), .int .i64 549755813888, .int .i64 1099511627776]) Tsl_34 (by decide) (by decide) ⟨rfl, [.int .i64 (-1)], _, rfl, rfl, rfl, ⟨rfl, [.int .i64 549755813888], _, rfl, rfl, rfl, ⟨rfl, [.int .i64 1099511627776], _, rfl, rfl, rfl, rfl⟩⟩⟩ rfl fun b3 => ?_)
        refine Run.step rfl (OpStep.callM (H1 := [.blk b1 60 [.slice Ac n cc, .int .i64 (((s3.1 : Nat) : Int)), .int .u64 (s3.2)], .own (.slice (some ⟨b3, 0, none⟩) 3 3) 3 1 3 (ints [-1, 549755813888, 1099511627776])]) (H2 := [.own v 3 1 (l.length) (ints l)]) (vs := [.pointer (some ⟨b1, 0, none⟩), .slice (some ⟨b3, 0, none⟩) 3 3]) (caps := []) Tcall_38 rfl rfl (Weak.front [.own (.slice (some ⟨b3, 0, none⟩) 3 3) 3 1 3 ([.int .i64 (-1), .int .i64 549755813888, .int .i64 1099511627776])] (.blk b1 60 [.slice Ac n cc, .int .i64 (((s3.1 : Nat) : Int)), .int .u64 (s3.2)]) [.own v 3 1 (l.length) (ints l)]) (fun w hs => among_spec (s := s3) (by omega) (by decide) (Cur.top ha hby hs (.head _)) (Cur.apart0 ha hs (.tail _ (.head _))) (hs.sub (List.sublist_append_left _ _)).self) ?_)
        rintro _ _ ⟨i1, s4, hi1, hs4, rfl, rfl⟩
        show Run _ _ (putF _ _ _ (.int .i64 (ix [-1, 549755813888, 1099511627776] i1))) [.blk b1 60 [.slice Ac n cc, .int .i64 (((s4.1 : Nat) : Int)), .int .u64 (s4.2)], .own v 3 1 (l.length) (ints l)]
        have hix : -1 ≤ ix [-1, 549755813888, 1099511627776] i1 ∧ ix [-1, 549755813888, 1099511627776] i1 ≤ 1099511627776 := by
          rcases (by omega : i1 = 0 ∨ i1 = 1 ∨ i1 = 2) with rfl | rfl | rfl <;> simp [ix] <;> omega
        refine Run.step rfl (OpStep.buildSlice (us := [.int .i64 (ix [-1, 549755813888, 1099511627776] i1)]) Tsl_34 (by decide) (by decide) ⟨rfl, [.int .i64 (ix [-1, 549755813888, 1099511627776] i1)], _, rfl, rfl, rfl, rfl⟩ rfl fun b4 => ?_)
        refine Run.step rfl (OpStep.append (H1 := [.own (.slice (some ⟨b4, 0, none⟩) 1 1) 3 1 1 ([.int .i64 (ix [-1, 549755813888, 1099511627776] i1)]), .blk b1 60 [.slice Ac n cc, .int .i64 (((s4.1 : Nat) : Int)), .int .u64 (s4.2)]]) (H2 := []) (v := v) (u := .slice (some ⟨b4, 0, none⟩) 1 1) (n := l.length) (m := 1) (xs := ints l) (ys := [.int .i64 (ix [-1, 549755813888, 1099511627776] i1)]) Tsl_34 (by decide) rfl rfl rfl rfl (fun w hs => hs.slOwn (.head _)) (by simp [Value.oneCell']) (by omega) (by simp only [maxLen]; omega) fun av2 hnav2 => ?_)
        refine Run.weak (H' := [.own (.slice (some ⟨b4, 0, none⟩) 1 1) 3 1 1 ([.int .i64 (ix [-1, 549755813888, 1099511627776] i1)]), .blk b1 60 [.slice Ac n cc, .int .i64 (((s4.1 : Nat) : Int)), .int .u64 (s4.2)], .own av2 3 1 ((l ++ [ix [-1, 549755813888, 1099511627776] i1]).length) (ints (l ++ [ix [-1, 549755813888, 1099511627776] i1]))]) (Some'.weak (.take (.take (.takeEq (by simp [ints]) (.nil _))))) ?_ ⟨_, _, rfl, fun _ => nofun, fun _ => nofun⟩
        refine Run.q (v := av2) rfl (OpQ.y (OpY.pure rfl)) ?_
        refine Run.done ?_
        refine Run.blockEnd ?_
        refine Run.seq ?_
        refine Run.region ?_
        refine Run.q (v := av2) rfl (OpQ.y (OpY.pure rfl)) ?_
        refine Run.q (v := av2) rfl (OpQ.y (OpY.pure rfl)) ?_
        refine Run.done ?_
        refine Run.ret ?_
        refine ⟨av2, [.own av2 3 1 ((l ++ [ix [-1, 549755813888, 1099511627776] i1]).length) (ints (l ++ [ix [-1, 549755813888, 1099511627776] i1]))], Out.one rfl rfl, (Some'.weak (.skip (.skip (.take (.nil _))))), ?_⟩
        first | exact ⟨[], by simp, by simp, rfl⟩ | exact ⟨_, by omega, fun x hx => by have := hl3 x hx; omega, rfl⟩ | exact ⟨_, by simp; omega, fun x hx => by
            rcases List.mem_append.1 hx with h | h
            · have := hl3 x h; omega
            · simp only [List.mem_cons, List.not_mem_nil, or_false] at h; omega, rfl⟩
      · have p23 := h23; try simp only [decide_eq_true_eq, decide_eq_false_iff_not, beq_iff_eq, bne_iff_ne, beq_eq_false_iff_ne, ne_eq, gt_iff_lt, ge_iff_le, Int.not_lt, Int.not_le, bne_eq_false_iff_eq, Bool.not_eq_true', Bool.not_eq_false', Bool.and_eq_true, Bool.and_eq_false_iff, Bool.or_eq_true, Bool.or_eq_false_iff, Decidable.not_not, List.cons.injEq, and_true] at p23
        refine Run.seq ?_
        refine Run.region ?_
        refine Run.q (v := .bool (x3 == 1)) rfl (OpQ.y (OpY.pure rfl)) ?_
        refine Run.q (v := .bool (x3 == 1)) rfl (OpQ.y (OpY.pure rfl)) ?_
        refine Run.done ?_
        refine Run.cond (b := x3 == 1) rfl (fun h31 => ?_) (fun h31 => ?_)
        · have p31 := h31; try simp only [decide_eq_true_eq, decide_eq_false_iff_not, beq_iff_eq, bne_iff_ne, beq_eq_false_iff_ne, ne_eq, gt_iff_lt, ge_iff_le, Int.not_lt, Int.not_le, bne_eq_false_iff_eq, Bool.not_eq_true', Bool.not_eq_false', Bool.and_eq_true, Bool.and_eq_false_iff, Bool.or_eq_true, Bool.or_eq_false_iff, Decidable.not_not, List.cons.injEq, and_true] at p31
          refine Run.weak (H' := [.own (.slice none 0 0) 3 1 0 ([]), .blk b1 60 [.slice Ac n cc, .int .i64 (((s3.1 : Nat) : Int)), .int .u64 (s3.2)], .own v 3 1 (l.length) (ints l)]) (Weak.nilOwn _ _) ?_ ⟨_, _, rfl, fun _ => nofun, fun _ => nofun⟩
          refine Run.region ?_
          refine Run.q (v := .slice none 0 0) rfl (OpQ.y (OpY.pure rfl)) ?_
          refine Run.done ?_
          refine Run.blockEnd ?_
          refine Run.seq ?_
          refine Run.region ?_
          refine Run.q (v := .slice none 0 0) rfl (OpQ.y (OpY.pure rfl)) ?_
          refine Run.q (v := .slice none 0 0) rfl (OpQ.y (OpY.pure rfl)) ?_
          refine Run.done ?_
          refine Run.ret ?_
          refine ⟨.slice none 0 0, [.own (.slice none 0 0) 3 1 0 ([])], Out.one rfl rfl, (Some'.weak (.take (.nil _))), ?_⟩
          first | exact ⟨[], by simp, by simp, rfl⟩ | exact ⟨_, by omega, fun x hx => by have := hl3 x hx; omega, rfl⟩ | exact ⟨_, by simp; omega, fun x hx => by
              rcases List.mem_append.1 hx with h | h
              · have := hl3 x h; omega
              · simp only [List.mem_cons, List.not_mem_nil, or_false] at h; omega, rfl⟩
        · have p31 := h31; try simp only [decide_eq_true_eq, decide_eq_false_iff_not, beq_iff_eq, bne_iff_ne, beq_eq_false_iff_ne, ne_eq, gt_iff_lt, ge_iff_le, Int.not_lt, Int.not_le, bne_eq_false_iff_eq, Bool.not_eq_true', Bool.not_eq_false', Bool.and_eq_true, Bool.and_eq_false_iff, Bool.or_eq_true, Bool.or_eq_false_iff, Decidable.not_not, List.cons.injEq, and_true] at p31
          refine Run.skip ?_
          refine Run.blockEnd ?_
          refine Run.seq ?_
          refine Run.region ?_
          refine Run.q (v := v) rfl (OpQ.y (OpY.pure rfl)) ?_
          refine Run.q (v := v) rfl (OpQ.y (OpY.pure rfl)) ?_
          refine Run.done ?_
          refine Run.ret ?_
          refine ⟨v, [.own v 3 1 (l.length) (ints l)], Out.one rfl rfl, (Some'.weak (.skip (.take (.nil _)))), ?_⟩
          first | exact ⟨[], by simp, by simp, rfl⟩ | exact ⟨_, by omega, fun x hx => by have := hl3 x hx; omega, rfl⟩ | exact ⟨_, by simp; omega, fun x hx => by
              rcases List.mem_append.1 hx with h | h
              · have := hl3 x h; omega
              · simp only [List.mem_cons, List.not_mem_nil, or_false] at h; omega, rfl⟩

set_option maxHeartbeats 1000000 in
set_option maxRecDepth 20000 in
theorem DrawPermutationGates_spec {va : Value} {n : Nat} {cs : List Int} {w : World} (ha : Sl w va 1 n (u8s cs)) (hby : ∀ x ∈ cs, 0 ≤ x ∧ x < 256) (hsz : n ≤ 140737488355328) : Calls Try.prog 29 #[va] w (Post No w fun v H => ∃ ls : List Int, ls.length ≤ 6 ∧ (∀ x ∈ ls, -1 ≤ x ∧ x ≤ 6) ∧ H = [.own v 3 1 ls.length (ints ls)]) := by
  obtain ⟨Ac, cc, rfl, _, _⟩ := ha.form0
  refine enter (n := 44) (args := [.slice Ac n cc]) Try.func29 rfl rfl (St.empty _ _) ?_
  refine Run.seq ?_
  refine Run.region ?_
  refine Run.q (v := .slice none 0 0) rfl (OpQ.y (OpY.pure rfl)) ?_
  refine Run.done ?_
  refine Run.seq ?_
  refine Run.region ?_
  refine Run.q (v := .slice Ac n cc) rfl (OpQ.y (OpY.pure rfl)) ?_
  refine Run.q (v := .agg #[.slice Ac n cc, .int .i64 0, .int .u64 0]) rfl (OpQ.y (OpY.build (cs := [.slice Ac n cc, .int .i64 0, .int .u64 0]) (by kernel_rfl))) ?_
  refine Run.step rfl (OpStep.box (us := [.slice Ac n cc, .int .i64 0, .int .u64 0]) rfl fun b1 => ?_)
  refine Run.q (v := .pointer (some ⟨b1, 0, none⟩)) rfl (OpQ.y (OpY.pure rfl)) ?_
  refine Run.done ?_
  refine Run.seq ?_
  refine Run.region ?_
  refine Run.q (v := .slice none 0 0) rfl (OpQ.y (OpY.pure rfl)) ?_
  refine Run.done ?_
  refine Run.seq ?_
  refine Run.region ?_
  refine Run.q (v := .pointer (some ⟨b1, 0, none⟩)) rfl (OpQ.y (OpY.pure rfl)) ?_
  refine Run.step rfl (OpStep.callM (H1 := [.blk b1 60 [.slice Ac n cc, .int .i64 0, .int .u64 0]]) (H2 := []) (vs := [.pointer (some ⟨b1, 0, none⟩), .int .i64 5]) (caps := []) Tcall_47 rfl rfl (Weak.refl _) (fun w hs => pick_spec (s := (0, 0)) (by decide) (Cur.top ha hby hs (.head _)) (hs.sub (List.sublist_append_left _ _)).self) ?_)
  rintro _ _ ⟨rfl, rfl⟩
  show Run _ _ (putF _ _ _ (.int .i64 (pkV cs n 5 ((0, 0))))) [.blk b1 60 [.slice Ac n cc, .int .i64 ((((pkS cs n 5 ((0, 0))).1 : Nat) : Int)), .int .u64 ((pkS cs n 5 ((0, 0))).2)]]
  have hq1 := pkS_le cs n 5 ((0, 0))
  have gq2 := pkV_range cs n 5 ((0, 0))
  refine Run.q (v := .int .i64 (1 + (pkV cs n 5 ((0, 0))))) rfl (OpQ.y (OpY.add rfl rfl rfl (by omega) (by omega))) ?_
  refine Run.q (v := .int .i64 (1 + (pkV cs n 5 ((0, 0))))) rfl (OpQ.y (OpY.pure rfl)) ?_
  refine Run.done ?_
  refine Run.seq ?_
  refine Run.block ?_
  obtain ⟨N0, hN0⟩ : ∃ N0 : Nat, 1 + (pkV cs n 5 ((0, 0))) = ((N0 : Nat) : Int) := ⟨(1 + (pkV cs n 5 ((0, 0)))).toNat, by omega⟩
  rw [hN0]
  refine Run.weak (H' := [.own (.slice none 0 0) 3 1 0 ([]), .blk b1 60 [.slice Ac n cc, .int .i64 ((((pkS cs n 5 ((0, 0))).1 : Nat) : Int)), .int .u64 ((pkS cs n 5 ((0, 0))).2)]]) (Weak.nilOwn _ _) ?_ ⟨_, _, rfl, fun _ => nofun, fun _ => nofun⟩
  refine Run.loop (ι := (Nat × Int) × Value × List Int) [4, 6, 13, 14, 15, 16, 17, 18, 19, 20, 21, 22, 23, 24, 25, 26, 27, 28, 29, 30, 31] (fun ⟨sc, v, l⟩ => [(4, v)]) (fun ⟨sc, v, l⟩ => [.own v 3 1 (l.length) (ints l), .blk b1 60 [.slice Ac n cc, .int .i64 (((sc.1 : Nat) : Int)), .int .u64 (sc.2)]]) (fun ⟨sc, v, l⟩ => SdOk sc ∧ l.length ≤ N0 ∧ sc.1 + 2 * muD cs n N0 l sc ≤ 20000000000000000 ∧ ∀ x ∈ l, 0 ≤ x ∧ x < 5) (fun ⟨sc, v, l⟩ => muD cs n N0 l sc) ((pkS cs n 5 ((0, 0))), .slice none 0 0, []) ?_ ?_ ?_ ?_
  · exact ⟨sdOk_pk ⟨by decide, by decide⟩, Nat.zero_le _, by have h1 := muD_le (cs := cs) (n := n) (N := N0) (by omega) [] (pkS cs n 5 (0, 0)); have h2 := pkS_le cs n 5 (0, 0); have h3 : ((0 : Nat), (0 : Int)).1 = 0 := rfl; omega, by simp⟩
  · exact ⟨rfl, trivial⟩
  · exact (((Weak.front [.own (.slice none 0 0) 3 1 0 ([])] (.blk b1 60 [.slice Ac n cc, .int .i64 ((((pkS cs n 5 ((0, 0))).1 : Nat) : Int)), .int .u64 ((pkS cs n 5 ((0, 0))).2)]) []).trans (Weak.front [.blk b1 60 [.slice Ac n cc, .int .i64 ((((pkS cs n 5 ((0, 0))).1 : Nat) : Int)), .int .u64 ((pkS cs n 5 ((0, 0))).2)]] (.own (.slice none 0 0) 3 1 0 ([])) [])).trans (Some'.weak (.takeEq (by first | rfl | simp [ints]) (.takeEq (by first | rfl | simp [ints]) (.nil _)))))
  · rintro ⟨sc, v, l⟩ fr hinv
    show Run _ _ (over _ _ [(4, v)] fr) [.own v 3 1 (l.length) (ints l), .blk b1 60 [.slice Ac n cc, .int .i64 (((sc.1 : Nat) : Int)), .int .u64 (sc.2)]]
    try dsimp only at hinv
    obtain ⟨hl1, hl2, hl3, hl4⟩ := hinv
    refine Run.seq ?_
    refine Run.seq ?_
    refine Run.region ?_
    refine Run.q (v := v) rfl (OpQ.y (OpY.pure rfl)) ?_
    refine Run.formOwn (.head _) (fun A_v1 c_v1 hv hcapc_v1 hmaxc_v1 => ?_) (fun _ _ _ => ⟨nofun, nofun, nofun⟩)
    subst hv
    refine Run.q (v := .int .i64 (((l.length : Nat) : Int))) rfl (OpQ.y (OpY.len Tsl_34 rfl)) ?_
    refine Run.q (v := .int .i64 (((N0 : Nat) : Int))) rfl (OpQ.y (OpY.pure rfl)) ?_
    refine Run.q (v := .bool (decide ((((l.length : Nat) : Int)) < (((N0 : Nat) : Int))))) rfl (OpQ.y (OpY.pure rfl)) ?_
    refine Run.done ?_
    refine Run.cond (b := decide ((((l.length : Nat) : Int)) < (((N0 : Nat) : Int)))) rfl (fun h16 => ?_) (fun h16 => ?_)
    · have p16 := h16; try simp only [decide_eq_true_eq, decide_eq_false_iff_not, beq_iff_eq, bne_iff_ne, beq_eq_false_iff_ne, ne_eq, gt_iff_lt, ge_iff_le, Int.not_lt, Int.not_le, bne_eq_false_iff_eq, Bool.not_eq_true', Bool.not_eq_false', Bool.and_eq_true, Bool.and_eq_false_iff, Bool.or_eq_true, Bool.or_eq_false_iff, Decidable.not_not, List.cons.injEq, and_true] at p16
      have hlt : l.length < N0 := by omega
      refine Run.skip ?_
      refine Run.block ?_
      refine Run.seq ?_
      refine Run.region ?_
      refine Run.q (v := .pointer (some ⟨b1, 0, none⟩)) rfl (OpQ.y (OpY.pure rfl)) ?_
      refine Run.q (v := .int .i64 (((N0 : Nat) : Int))) rfl (OpQ.y (OpY.pure rfl)) ?_
      refine Run.step rfl (OpStep.callM (H1 := [.blk b1 60 [.slice Ac n cc, .int .i64 (((sc.1 : Nat) : Int)), .int .u64 (sc.2)]]) (H2 := [.own (.slice A_v1 (l.length) c_v1) 3 1 (l.length) (ints l)]) (vs := [.pointer (some ⟨b1, 0, none⟩), .int .i64 (((N0 : Nat) : Int))]) (caps := []) Tcall_47 rfl rfl (Weak.front [.own (.slice A_v1 (l.length) c_v1) 3 1 (l.length) (ints l)] (.blk b1 60 [.slice Ac n cc, .int .i64 (((sc.1 : Nat) : Int)), .int .u64 (sc.2)]) []) (fun w hs => pick_spec (s := sc) (by omega) (Cur.top ha hby hs (.head _)) (hs.sub (List.sublist_append_left _ _)).self) ?_)
      rintro _ _ ⟨rfl, rfl⟩
      show Run _ _ (putF _ _ _ (.int .i64 (pkV cs n (((N0 : Nat) : Int)) sc))) [.blk b1 60 [.slice Ac n cc, .int .i64 ((((pkS cs n (((N0 : Nat) : Int)) sc).1 : Nat) : Int)), .int .u64 ((pkS cs n (((N0 : Nat) : Int)) sc).2)], .own (.slice A_v1 (l.length) c_v1) 3 1 (l.length) (ints l)]
      have hq3 := pkS_le cs n (((N0 : Nat) : Int)) sc
      have gq4 := pkV_range cs n (((N0 : Nat) : Int)) sc
      refine Run.q (v := .int .i64 (pkV cs n (((N0 : Nat) : Int)) sc)) rfl (OpQ.y (OpY.pure rfl)) ?_
      refine Run.done ?_
      refine Run.seq ?_
      refine Run.region ?_
      refine Run.q (v := .slice A_v1 (l.length) c_v1) rfl (OpQ.y (OpY.pure rfl)) ?_
      refine Run.q (v := .int .i64 (pkV cs n (((N0 : Nat) : Int)) sc)) rfl (OpQ.y (OpY.pure rfl)) ?_
      refine Run.q (v := .bool (hasI l (pkV cs n (((N0 : Nat) : Int)) sc) l.length)) rfl (OpQ.call (vs := [.slice A_v1 (l.length) c_v1, .int .i64 (pkV cs n (((N0 : Nat) : Int)) sc)]) (caps := []) Tcall_59 rfl rfl (fun w hs => l1Has_spec (hs.slOwn (.tail _ (List.Mem.head _))))) ?_
      refine Run.q (v := .bool (!(hasI l (pkV cs n (((N0 : Nat) : Int)) sc) l.length))) rfl (OpQ.y (OpY.pure rfl)) ?_
      rcases Bool.eq_false_or_eq_true (!(hasI l (pkV cs n (((N0 : Nat) : Int)) sc) l.length)) with h24 | h24
      · refine Run.q (v := .bool true) rfl (OpQ.y (OpY.moveB rfl h24)) ?_
        have p24 := h24; try simp only [decide_eq_true_eq, decide_eq_false_iff_not, beq_iff_eq, bne_iff_ne, beq_eq_false_iff_ne, ne_eq, gt_iff_lt, ge_iff_le, Int.not_lt, Int.not_le, bne_eq_false_iff_eq, Bool.not_eq_true', Bool.not_eq_false', Bool.and_eq_true, Bool.and_eq_false_iff, Bool.or_eq_true, Bool.or_eq_false_iff, Decidable.not_not, List.cons.injEq, and_true] at p24
        refine Run.pass rfl ?_
        refine Run.pass rfl ?_
        refine Run.q (v := .bool true) rfl (OpQ.y (OpY.pure rfl)) ?_
        refine Run.done ?_
        refine Run.cond (b := true) rfl (fun _ => ?_) (fun h => nomatch h)
        refine Run.region ?_
        refine Run.q (v := .slice A_v1 (l.length) c_v1) rfl (OpQ.y (OpY.pure rfl)) ?_
        refine Run.q (v := .int .i64 (pkV cs n (((N0 : Nat) : Int)) sc)) rfl (OpQ.y (OpY.pure rfl)) ?_
        refine Run.step rfl (OpStep.buildSlice (us := [.int .i64 (pkV cs n (((N0 : Nat) : Int)) sc)]) Tsl_34 (by decide) (by decide) ⟨rfl, [.int .i64 (pkV cs n (((N0 : Nat) : Int)) sc)], _, rfl, rfl, rfl, rfl⟩ rfl fun b2 => ?_)
        refine Run.step rfl (OpStep.append (H1 := [.own (.slice (some ⟨b2, 0, none⟩) 1 1) 3 1 1 ([.int .i64 (pkV cs n (((N0 : Nat) : Int)) sc)]), .blk b1 60 [.slice Ac n cc, .int .i64 ((((pkS cs n (((N0 : Nat) : Int)) sc).1 : Nat) : Int)), .int .u64 ((pkS cs n (((N0 : Nat) : Int)) sc).2)]]) (H2 := []) (v := .slice A_v1 (l.length) c_v1) (u := .slice (some ⟨b2, 0, none⟩) 1 1) (n := l.length) (m := 1) (xs := ints l) (ys := [.int .i64 (pkV cs n (((N0 : Nat) : Int)) sc)]) Tsl_34 (by decide) rfl rfl rfl rfl (fun w hs => hs.slOwn (.head _)) (by simp [Value.oneCell']) (by omega) (by simp only [maxLen]; omega) fun av1 hnav1 => ?_)
        refine Run.weak (H' := [.own (.slice (some ⟨b2, 0, none⟩) 1 1) 3 1 1 ([.int .i64 (pkV cs n (((N0 : Nat) : Int)) sc)]), .blk b1 60 [.slice Ac n cc, .int .i64 ((((pkS cs n (((N0 : Nat) : Int)) sc).1 : Nat) : Int)), .int .u64 ((pkS cs n (((N0 : Nat) : Int)) sc).2)], .own av1 3 1 ((l ++ [pkV cs n (((N0 : Nat) : Int)) sc]).length) (ints (l ++ [pkV cs n (((N0 : Nat) : Int)) sc]))]) (Some'.weak (.take (.take (.takeEq (by simp [ints]) (.nil _))))) ?_ ⟨_, _, rfl, fun _ => nofun, fun _ => nofun⟩
        refine Run.q (v := av1) rfl (OpQ.y (OpY.pure rfl)) ?_
        refine Run.done ?_
        refine Run.blockEnd ?_
        refine Run.goal ⟨(by repeat (first | exact Same.refl _ _ | refine Same.put rfl ?_ | refine Same.over rfl rfl ?_)), ((pkS cs n (((N0 : Nat) : Int)) sc), av1, (l ++ [pkV cs n (((N0 : Nat) : Int)) sc])), ?_, ?_, ?_, ?_⟩
        · first | exact ⟨sdOk_pk hl1, by simp; omega, by have h1 := muD_on (cs := cs) (n := n) (N := N0) (l := l) (k := pkV cs n ((N0 : Nat) : Int) sc) hlt sc (pkS cs n ((N0 : Nat) : Int) sc); omega, fun x hx => by
            rcases List.mem_append.1 hx with h | h
            · have := hl4 x h; omega
            · simp only [List.mem_cons, List.not_mem_nil, or_false] at h; omega⟩ | exact ⟨sdOk_pk (sdOk_pk hl1), by simp; omega, by have h1 := muD_on (cs := cs) (n := n) (N := N0) (l := l) (k := pkV cs n ((N0 : Nat) : Int) sc) hlt sc (pkS cs n 20 (pkS cs n ((N0 : Nat) : Int) sc)); omega, fun x hx => by
            rcases List.mem_append.1 hx with h | h
            · have := hl4 x h; omega
            · simp only [List.mem_cons, List.not_mem_nil, or_false] at h; omega⟩ | exact ⟨sdOk_pk (sdOk_pk hl1), hl2, by have h1 := muD_stay (cs := cs) hsz (show 1 ≤ N0 ∧ N0 ≤ 5 by omega) hlt hl1 (by simpa using h24) (by simpa using h27); omega, hl4⟩
        · first | (show muD cs n N0 (l ++ [pkV cs n ((N0 : Nat) : Int) sc]) (pkS cs n ((N0 : Nat) : Int) sc) < muD cs n N0 l sc; have h1 := muD_on (cs := cs) (n := n) (N := N0) (l := l) (k := pkV cs n ((N0 : Nat) : Int) sc) hlt sc (pkS cs n ((N0 : Nat) : Int) sc); omega) | (show muD cs n N0 (l ++ [pkV cs n ((N0 : Nat) : Int) sc]) (pkS cs n 20 (pkS cs n ((N0 : Nat) : Int) sc)) < muD cs n N0 l sc; have h1 := muD_on (cs := cs) (n := n) (N := N0) (l := l) (k := pkV cs n ((N0 : Nat) : Int) sc) hlt sc (pkS cs n 20 (pkS cs n ((N0 : Nat) : Int) sc)); omega) | (show muD cs n N0 l (pkS cs n 20 (pkS cs n ((N0 : Nat) : Int) sc)) < muD cs n N0 l sc; have h1 := muD_stay (cs := cs) hsz (show 1 ≤ N0 ∧ N0 ≤ 5 by omega) hlt hl1 (by simpa using h24) (by simpa using h27); omega)
        · exact ⟨(by first | rfl | (congr 1; omega) | simp), trivial⟩
        · exact (((Weak.front [.own (.slice (some ⟨b2, 0, none⟩) 1 1) 3 1 1 ([.int .i64 (pkV cs n (((N0 : Nat) : Int)) sc)])] (.blk b1 60 [.slice Ac n cc, .int .i64 ((((pkS cs n (((N0 : Nat) : Int)) sc).1 : Nat) : Int)), .int .u64 ((pkS cs n (((N0 : Nat) : Int)) sc).2)]) [.own av1 3 1 ((l ++ [pkV cs n (((N0 : Nat) : Int)) sc]).length) (ints (l ++ [pkV cs n (((N0 : Nat) : Int)) sc]))]).trans (Weak.front [.blk b1 60 [.slice Ac n cc, .int .i64 ((((pkS cs n (((N0 : Nat) : Int)) sc).1 : Nat) : Int)), .int .u64 ((pkS cs n (((N0 : Nat) : Int)) sc).2)], .own (.slice (some ⟨b2, 0, none⟩) 1 1) 3 1 1 ([.int .i64 (pkV cs n (((N0 : Nat) : Int)) sc)])] (.own av1 3 1 ((l ++ [pkV cs n (((N0 : Nat) : Int)) sc]).length) (ints (l ++ [pkV cs n (((N0 : Nat) : Int)) sc]))) [])).trans (Some'.weak (.takeEq (by first | rfl | simp [ints]) (.takeEq (by first | rfl | simp [ints]) (.nil _)))))
      · refine Run.q (v := .bool false) rfl (OpQ.y (OpY.moveB rfl h24)) ?_
        have p24 := h24; try simp only [decide_eq_true_eq, decide_eq_false_iff_not, beq_iff_eq, bne_iff_ne, beq_eq_false_iff_ne, ne_eq, gt_iff_lt, ge_iff_le, Int.not_lt, Int.not_le, bne_eq_false_iff_eq, Bool.not_eq_true', Bool.not_eq_false', Bool.and_eq_true, Bool.and_eq_false_iff, Bool.or_eq_true, Bool.or_eq_false_iff, Decidable.not_not, List.cons.injEq, and_true] at p24
        refine Run.q (v := .pointer (some ⟨b1, 0, none⟩)) rfl (OpQ.y (OpY.pure rfl)) ?_
        refine Run.step rfl (OpStep.callM (H1 := [.blk b1 60 [.slice Ac n cc, .int .i64 ((((pkS cs n (((N0 : Nat) : Int)) sc).1 : Nat) : Int)), .int .u64 ((pkS cs n (((N0 : Nat) : Int)) sc).2)]]) (H2 := [.own (.slice A_v1 (l.length) c_v1) 3 1 (l.length) (ints l)]) (vs := [.pointer (some ⟨b1, 0, none⟩), .int .i64 20]) (caps := []) Tcall_60 rfl rfl (Weak.refl _) (fun w hs => one_spec (s := (pkS cs n (((N0 : Nat) : Int)) sc)) (by omega) (Cur.top ha hby hs (.head _)) (hs.sub (List.sublist_append_left _ _)).self) ?_)
        rintro _ _ ⟨rfl, rfl⟩
        show Run _ _ (putF _ _ _ (.bool (pkV cs n 20 ((pkS cs n (((N0 : Nat) : Int)) sc)) == 0))) [.blk b1 60 [.slice Ac n cc, .int .i64 ((((pkS cs n 20 ((pkS cs n (((N0 : Nat) : Int)) sc))).1 : Nat) : Int)), .int .u64 ((pkS cs n 20 ((pkS cs n (((N0 : Nat) : Int)) sc))).2)], .own (.slice A_v1 (l.length) c_v1) 3 1 (l.length) (ints l)]
        have hq5 := pkS_le cs n 20 ((pkS cs n (((N0 : Nat) : Int)) sc))
        have gq6 := pkV_range cs n 20 ((pkS cs n (((N0 : Nat) : Int)) sc))
        refine Run.q (v := .bool (pkV cs n 20 ((pkS cs n (((N0 : Nat) : Int)) sc)) == 0)) rfl (OpQ.y (OpY.pure rfl)) ?_
        refine Run.done ?_
        refine Run.cond (b := pkV cs n 20 ((pkS cs n (((N0 : Nat) : Int)) sc)) == 0) rfl (fun h27 => ?_) (fun h27 => ?_)
        · have p27 := h27; try simp only [decide_eq_true_eq, decide_eq_false_iff_not, beq_iff_eq, bne_iff_ne, beq_eq_false_iff_ne, ne_eq, gt_iff_lt, ge_iff_le, Int.not_lt, Int.not_le, bne_eq_false_iff_eq, Bool.not_eq_true', Bool.not_eq_false', Bool.and_eq_true, Bool.and_eq_false_iff, Bool.or_eq_true, Bool.or_eq_false_iff, Decidable.not_not, List.cons.injEq, and_true] at p27
          refine Run.region ?_
          refine Run.q (v := .slice A_v1 (l.length) c_v1) rfl (OpQ.y (OpY.pure rfl)) ?_
          refine Run.q (v := .int .i64 (pkV cs n (((N0 : Nat) : Int)) sc)) rfl (OpQ.y (OpY.pure rfl)) ?_
          refine Run.step rfl (OpStep.buildSlice (us := [.int .i64 (pkV cs n (((N0 : Nat) : Int)) sc)]) Tsl_34 (by decide) (by decide) ⟨rfl, [.int .i64 (pkV cs n (((N0 : Nat) : Int)) sc)], _, rfl, rfl, rfl, rfl⟩ rfl fun b3 => ?_)
          refine Run.step rfl (OpStep.append (H1 := [.own (.slice (some ⟨b3, 0, none⟩) 1 1) 3 1 1 ([.int .i64 (pkV cs n (((N0 : Nat) : Int)) sc)]), .blk b1 60 [.slice Ac n cc, .int .i64 ((((pkS cs n 20 ((pkS cs n (((N0 : Nat) : Int)) sc))).1 : Nat) : Int)), .int .u64 ((pkS cs n 20 ((pkS cs n (((N0 : Nat) : Int)) sc))).2)]]) (H2 := []) (v := .slice A_v1 (l.length) c_v1) (u := .slice (some ⟨b3, 0, none⟩) 1 1) (n := l.length) (m := 1) (xs := ints l) (ys := [.int .i64 (pkV cs n (((N0 : Nat) : Int)) sc)]) Tsl_34 (by decide) rfl rfl rfl rfl (fun w hs => hs.slOwn (.head _)) (by simp [Value.oneCell']) (by omega) (by simp only [maxLen]; omega) fun av2 hnav2 => ?_)
          refine Run.weak (H' := [.own (.slice (some ⟨b3, 0, none⟩) 1 1) 3 1 1 ([.int .i64 (pkV cs n (((N0 : Nat) : Int)) sc)]), .blk b1 60 [.slice Ac n cc, .int .i64 ((((pkS cs n 20 ((pkS cs n (((N0 : Nat) : Int)) sc))).1 : Nat) : Int)), .int .u64 ((pkS cs n 20 ((pkS cs n (((N0 : Nat) : Int)) sc))).2)], .own av2 3 1 ((l ++ [pkV cs n (((N0 : Nat) : Int)) sc]).length) (ints (l ++ [pkV cs n (((N0 : Nat) : Int)) sc]))]) (Some'.weak (.take (.take (.takeEq (by simp [ints]) (.nil _))))) ?_ ⟨_, _, rfl, fun _ => nofun, fun _ => nofun⟩
          refine Run.q (v := av2) rfl (OpQ.y (OpY.pure rfl)) ?_
          refine Run.done ?_
          refine Run.blockEnd ?_
          refine Run.goal ⟨(by repeat (first | exact Same.refl _ _ | refine Same.put rfl ?_ | refine Same.over rfl rfl ?_)), ((pkS cs n 20 ((pkS cs n (((N0 : Nat) : Int)) sc))), av2, (l ++ [pkV cs n (((N0 : Nat) : Int)) sc])), ?_, ?_, ?_, ?_⟩
          · first | exact ⟨sdOk_pk hl1, by simp; omega, by have h1 := muD_on (cs := cs) (n := n) (N := N0) (l := l) (k := pkV cs n ((N0 : Nat) : Int) sc) hlt sc (pkS cs n ((N0 : Nat) : Int) sc); omega, fun x hx => by
              rcases List.mem_append.1 hx with h | h
              · have := hl4 x h; omega
              · simp only [List.mem_cons, List.not_mem_nil, or_false] at h; omega⟩ | exact ⟨sdOk_pk (sdOk_pk hl1), by simp; omega, by have h1 := muD_on (cs := cs) (n := n) (N := N0) (l := l) (k := pkV cs n ((N0 : Nat) : Int) sc) hlt sc (pkS cs n 20 (pkS cs n ((N0 : Nat) : Int) sc)); omega, fun x hx => by
              rcases List.mem_append.1 hx with h | h
              · have := hl4 x h; omega
              · simp only [List.mem_cons, List.not_mem_nil, or_false] at h; omega⟩ | exact ⟨sdOk_pk (sdOk_pk hl1), hl2, by have h1 := muD_stay (cs := cs) hsz (show 1 ≤ N0 ∧ N0 ≤ 5 by omega) hlt hl1 (by simpa using h24) (by simpa using h27); omega, hl4⟩
          · first | (show muD cs n N0 (l ++ [pkV cs n ((N0 : Nat) : Int) sc]) (pkS cs n ((N0 : Nat) : Int) sc) < muD cs n N0 l sc; have h1 := muD_on (cs := cs) (n := n) (N := N0) (l := l) (k := pkV cs n ((N0 : Nat) : Int) sc) hlt sc (pkS cs n ((N0 : Nat) : Int) sc); omega) | (show muD cs n N0 (l ++ [pkV cs n ((N0 : Nat) : Int) sc]) (pkS cs n 20 (pkS cs n ((N0 : Nat) : Int) sc)) < muD cs n N0 l sc; have h1 := muD_on (cs := cs) (n := n) (N := N0) (l := l) (k := pkV cs n ((N0 : Nat) : Int) sc) hlt sc (pkS cs n 20 (pkS cs n ((N0 : Nat) : Int) sc)); omega) | (show muD cs n N0 l (pkS cs n 20 (pkS cs n ((N0 : Nat) : Int) sc)) < muD cs n N0 l sc; have h1 := muD_stay (cs := cs) hsz (show 1 ≤ N0 ∧ N0 ≤ 5 by omega) hlt hl1 (by simpa using h24) (by simpa using h27); omega)
          · exact ⟨(by first | rfl | (congr 1; omega) | simp), trivial⟩
          · exact (((Weak.front [.own (.slice (some ⟨b3, 0, none⟩) 1 1) 3 1 1 ([.int .i64 (pkV cs n (((N0 : Nat) : Int)) sc)])] (.blk b1 60 [.slice Ac n cc, .int .i64 ((((pkS cs n 20 ((pkS cs n (((N0 : Nat) : Int)) sc))).1 : Nat) : Int)), .int .u64 ((pkS cs n 20 ((pkS cs n (((N0 : Nat) : Int)) sc))).2)]) [.own av2 3 1 ((l ++ [pkV cs n (((N0 : Nat) : Int)) sc]).length) (ints (l ++ [pkV cs n (((N0 : Nat) : Int)) sc]))]).trans (Weak.front [.blk b1 60 [.slice Ac n cc, .int .i64 ((((pkS cs n 20 ((pkS cs n (((N0 : Nat) : Int)) sc))).1 : Nat) : Int)), .int .u64 ((pkS cs n 20 ((pkS cs n (((N0 : Nat) : Int)) sc))).2)], .own (.slice (some ⟨b3, 0, none⟩) 1 1) 3 1 1 ([.int .i64 (pkV cs n (((N0 : Nat) : Int)) sc)])] (.own av2 3 1 ((l ++ [pkV cs n (((N0 : Nat) : Int)) sc]).length) (ints (l ++ [pkV cs n (((N0 : Nat) : Int)) sc]))) [])).trans (Some'.weak (.takeEq (by first | rfl | simp [ints]) (.takeEq (by first | rfl | simp [ints]) (.nil _)))))
        · have p27 := h27; try simp only [decide_eq_true_eq, decide_eq_false_iff_not, beq_iff_eq, bne_iff_ne, beq_eq_false_iff_ne, ne_eq, gt_iff_lt, ge_iff_le, Int.not_lt, Int.not_le, bne_eq_false_iff_eq, Bool.not_eq_true', Bool.not_eq_false', Bool.and_eq_true, Bool.and_eq_false_iff, Bool.or_eq_true, Bool.or_eq_false_iff, Decidable.not_not, List.cons.injEq, and_true] at p27
          refine Run.skip ?_
          refine Run.blockEnd ?_
          refine Run.goal ⟨(by repeat (first | exact Same.refl _ _ | refine Same.put rfl ?_ | refine Same.over rfl rfl ?_)), ((pkS cs n 20 ((pkS cs n (((N0 : Nat) : Int)) sc))), .slice A_v1 (l.length) c_v1, l), ?_, ?_, ?_, ?_⟩
          · first | exact ⟨sdOk_pk hl1, by simp; omega, by have h1 := muD_on (cs := cs) (n := n) (N := N0) (l := l) (k := pkV cs n ((N0 : Nat) : Int) sc) hlt sc (pkS cs n ((N0 : Nat) : Int) sc); omega, fun x hx => by
              rcases List.mem_append.1 hx with h | h
              · have := hl4 x h; omega
              · simp only [List.mem_cons, List.not_mem_nil, or_false] at h; omega⟩ | exact ⟨sdOk_pk (sdOk_pk hl1), by simp; omega, by have h1 := muD_on (cs := cs) (n := n) (N := N0) (l := l) (k := pkV cs n ((N0 : Nat) : Int) sc) hlt sc (pkS cs n 20 (pkS cs n ((N0 : Nat) : Int) sc)); omega, fun x hx => by
              rcases List.mem_append.1 hx with h | h
              · have := hl4 x h; omega
              · simp only [List.mem_cons, List.not_mem_nil, or_false] at h; omega⟩ | exact ⟨sdOk_pk (sdOk_pk hl1), hl2, by have h1 := muD_stay (cs := cs) hsz (show 1 ≤ N0 ∧ N0 ≤ 5 by omega) hlt hl1 (by simpa using h24) (by simpa using h27); omega, hl4⟩
          · first | (show muD cs n N0 (l ++ [pkV cs n ((N0 : Nat) : Int) sc]) (pkS cs n ((N0 : Nat) : Int) sc) < muD cs n N0 l sc; have h1 := muD_on (cs := cs) (n := n) (N := N0) (l := l) (k := pkV cs n ((N0 : Nat) : Int) sc) hlt sc (pkS cs n ((N0 : Nat) : Int) sc); omega) | (show muD cs n N0 (l ++ [pkV cs n ((N0 : Nat) : Int) sc]) (pkS cs n 20 (pkS cs n ((N0 : Nat) : Int) sc)) < muD cs n N0 l sc; have h1 := muD_on (cs := cs) (n := n) (N := N0) (l := l) (k := pkV cs n ((N0 : Nat) : Int) sc) hlt sc (pkS cs n 20 (pkS cs n ((N0 : Nat) : Int) sc)); omega) | (show muD cs n N0 l (pkS cs n 20 (pkS cs n ((N0 : Nat) : Int) sc)) < muD cs n N0 l sc; have h1 := muD_stay (cs := cs) hsz (show 1 ≤ N0 ∧ N0 ≤ 5 by omega) hlt hl1 (by simpa using h24) (by simpa using h27); omega)
          · exact ⟨(by first | rfl | (congr 1; omega) | simp), trivial⟩
          · exact ((Weak.front [.blk b1 60 [.slice Ac n cc, .int .i64 ((((pkS cs n 20 ((pkS cs n (((N0 : Nat) : Int)) sc))).1 : Nat) : Int)), .int .u64 ((pkS cs n 20 ((pkS cs n (((N0 : Nat) : Int)) sc))).2)]] (.own (.slice A_v1 (l.length) c_v1) 3 1 (l.length) (ints l)) []).trans (Some'.weak (.takeEq (by first | rfl | simp [ints]) (.takeEq (by first | rfl | simp [ints]) (.nil _)))))
    · have p16 := h16; try simp only [decide_eq_true_eq, decide_eq_false_iff_not, beq_iff_eq, bne_iff_ne, beq_eq_false_iff_ne, ne_eq, gt_iff_lt, ge_iff_le, Int.not_lt, Int.not_le, bne_eq_false_iff_eq, Bool.not_eq_true', Bool.not_eq_false', Bool.and_eq_true, Bool.and_eq_false_iff, Bool.or_eq_true, Bool.or_eq_false_iff, Decidable.not_not, List.cons.injEq, and_true] at p16
      refine Run.exit rfl ?_
      refine Run.seq ?_
      refine Run.seq ?_
      refine Run.region ?_
      refine Run.q (v := .pointer (some ⟨b1, 0, none⟩)) rfl (OpQ.y (OpY.pure rfl)) ?_
      refine Run.step rfl (OpStep.callM (H1 := [.blk b1 60 [.slice Ac n cc, .int .i64 (((sc.1 : Nat) : Int)), .int .u64 (sc.2)]]) (H2 := [.own (.slice A_v1 (l.length) c_v1) 3 1 (l.length) (ints l)]) (vs := [.pointer (some ⟨b1, 0, none⟩), .int .i64 12]) (caps := []) Tcall_60 rfl rfl (Weak.front [.own (.slice A_v1 (l.length) c_v1) 3 1 (l.length) (ints l)] (.blk b1 60 [.slice Ac n cc, .int .i64 (((sc.1 : Nat) : Int)), .int .u64 (sc.2)]) []) (fun w hs => one_spec (s := sc) (by omega) (Cur.top ha hby hs (.head _)) (hs.sub (List.sublist_append_left _ _)).self) ?_)
      rintro _ _ ⟨rfl, rfl⟩
      show Run _ _ (putF _ _ _ (.bool (pkV cs n 12 sc == 0))) [.blk b1 60 [.slice Ac n cc, .int .i64 ((((pkS cs n 12 sc).1 : Nat) : Int)), .int .u64 ((pkS cs n 12 sc).2)], .own (.slice A_v1 (l.length) c_v1) 3 1 (l.length) (ints l)]
      have hq7 := pkS_le cs n 12 sc
      have gq8 := pkV_range cs n 12 sc
      refine Run.done ?_
      refine Run.cond (b := pkV cs n 12 sc == 0) rfl (fun h33 => ?_) (fun h33 => ?_)
      · have p33 := h33; try simp only [decide_eq_true_eq, decide_eq_false_iff_not, beq_iff_eq, bne_iff_ne, beq_eq_false_iff_ne, ne_eq, gt_iff_lt, ge_iff_le, Int.not_lt, Int.not_le, bne_eq_false_iff_eq, Bool.not_eq_true', Bool.not_eq_false', Bool.and_eq_true, Bool.and_eq_false_iff, Bool.or_eq_true, Bool.or_eq_false_iff, Decidable.not_not, List.cons.injEq, and_true] at p33
        refine Run.region ?_
        refine Run.q (v := .slice A_v1 (l.length) c_v1) rfl (OpQ.y (OpY.pure rfl)) ?_
        refine Run.q (v := .pointer (some ⟨b1, 0, none⟩)) rfl (OpQ.y (OpY.pure rfl)) ?_
        refine Run.q (v := .int .i64 (((N0 : Nat) : Int))) rfl (OpQ.y (OpY.pure rfl)) ?_
        refine Run.q (v := .int .i64 (((N0 : Nat) : Int))) rfl (OpQ.y (OpY.pure rfl)) ?_
        refine Run.q (v := .int .i64 ((((N0 : Nat) : Int)) + 1)) rfl (OpQ.y (OpY.add rfl rfl rfl (by omega) (by omega))) ?_
        refine Run.step rfl (OpStep.buildSlice (us := [.int .i64 (-1), .int .i64 (((N0 : Nat) : Int)), .int .i64 ((((N0 : Nat) : Int)) + 1)]) Tsl_34 (by decide) (by decide) ⟨rfl, [.int .i64 (-1)], _, rfl, rfl, rfl, ⟨rfl, [.int .i64 (((N0 : Nat) : Int))], _, rfl, rfl, rfl, ⟨rfl, [.int .i64 ((((N0 : Nat) : Int)) + 1)], _, rfl, rfl, rfl, rfl⟩⟩⟩ rfl fun b4 => ?_)
        refine Run.step rfl (OpStep.callM (H1 := [.blk b1 60 [.slice Ac n cc, .int .i64 ((((pkS cs n 12 sc).1 : Nat) : Int)), .int .u64 ((pkS cs n 12 sc).2)], .own (.slice (some ⟨b4, 0, none⟩) 3 3) 3 1 3 (ints [-1, ((N0 : Nat) : Int), (((N0 : Nat) : Int)) + 1])]) (H2 := [.own (.slice A_v1 (l.length) c_v1) 3 1 (l.length) (ints l)]) (vs := [.pointer (some ⟨b1, 0, none⟩), .slice (some ⟨b4, 0, none⟩) 3 3]) (caps := []) Tcall_38 rfl rfl (Weak.front [.own (.slice (some ⟨b4, 0, none⟩) 3 3) 3 1 3 ([.int .i64 (-1), .int .i64 (((N0 : Nat) : Int)), .int .i64 ((((N0 : Nat) : Int)) + 1)])] (.blk b1 60 [.slice Ac n cc, .int .i64 ((((pkS cs n 12 sc).1 : Nat) : Int)), .int .u64 ((pkS cs n 12 sc).2)]) [.own (.slice A_v1 (l.length) c_v1) 3 1 (l.length) (ints l)]) (fun w hs => among_spec (s := (pkS cs n 12 sc)) (by omega) (by decide) (Cur.top ha hby hs (.head _)) (Cur.apart0 ha hs (.tail _ (.head _))) (hs.sub (List.sublist_append_left _ _)).self) ?_)
        rintro _ _ ⟨i1, s1, hi1, hs1, rfl, rfl⟩
        show Run _ _ (putF _ _ _ (.int .i64 (ix [-1, ((N0 : Nat) : Int), (((N0 : Nat) : Int)) + 1] i1))) [.blk b1 60 [.slice Ac n cc, .int .i64 (((s1.1 : Nat) : Int)), .int .u64 (s1.2)], .own (.slice A_v1 (l.length) c_v1) 3 1 (l.length) (ints l)]
        have hix : -1 ≤ ix [-1, ((N0 : Nat) : Int), (((N0 : Nat) : Int)) + 1] i1 ∧ ix [-1, ((N0 : Nat) : Int), (((N0 : Nat) : Int)) + 1] i1 ≤ 6 := by
          rcases (by omega : i1 = 0 ∨ i1 = 1 ∨ i1 = 2) with rfl | rfl | rfl <;> simp [ix] <;> omega
        refine Run.step rfl (OpStep.buildSlice (us := [.int .i64 (ix [-1, ((N0 : Nat) : Int), (((N0 : Nat) : Int)) + 1] i1)]) Tsl_34 (by decide) (by decide) ⟨rfl, [.int .i64 (ix [-1, ((N0 : Nat) : Int), (((N0 : Nat) : Int)) + 1] i1)], _, rfl, rfl, rfl, rfl⟩ rfl fun b5 => ?_)
        refine Run.step rfl (OpStep.append (H1 := [.own (.slice (some ⟨b5, 0, none⟩) 1 1) 3 1 1 ([.int .i64 (ix [-1, ((N0 : Nat) : Int), (((N0 : Nat) : Int)) + 1] i1)]), .blk b1 60 [.slice Ac n cc, .int .i64 (((s1.1 : Nat) : Int)), .int .u64 (s1.2)]]) (H2 := []) (v := .slice A_v1 (l.length) c_v1) (u := .slice (some ⟨b5, 0, none⟩) 1 1) (n := l.length) (m := 1) (xs := ints l) (ys := [.int .i64 (ix [-1, ((N0 : Nat) : Int), (((N0 : Nat) : Int)) + 1] i1)]) Tsl_34 (by decide) rfl rfl rfl rfl (fun w hs => hs.slOwn (.head _)) (by simp [Value.oneCell']) (by omega) (by simp only [maxLen]; omega) fun av3 hnav3 => ?_)
        refine Run.weak (H' := [.own (.slice (some ⟨b5, 0, none⟩) 1 1) 3 1 1 ([.int .i64 (ix [-1, ((N0 : Nat) : Int), (((N0 : Nat) : Int)) + 1] i1)]), .blk b1 60 [.slice Ac n cc, .int .i64 (((s1.1 : Nat) : Int)), .int .u64 (s1.2)], .own av3 3 1 ((l ++ [ix [-1, ((N0 : Nat) : Int), (((N0 : Nat) : Int)) + 1] i1]).length) (ints (l ++ [ix [-1, ((N0 : Nat) : Int), (((N0 : Nat) : Int)) + 1] i1]))]) (Some'.weak (.take (.take (.takeEq (by simp [ints]) (.nil _))))) ?_ ⟨_, _, rfl, fun _ => nofun, fun _ => nofun⟩
        refine Run.q (v := av3) rfl (OpQ.y (OpY.pure rfl)) ?_
        refine Run.done ?_
        refine Run.seq ?_
        refine Run.region ?_
        refine Run.q (v := av3) rfl (OpQ.y (OpY.pure rfl)) ?_
        refine Run.q (v := av3) rfl (OpQ.y (OpY.pure rfl)) ?_
        refine Run.done ?_
        refine Run.ret ?_
        refine ⟨av3, [.own av3 3 1 ((l ++ [ix [-1, ((N0 : Nat) : Int), (((N0 : Nat) : Int)) + 1] i1]).length) (ints (l ++ [ix [-1, ((N0 : Nat) : Int), (((N0 : Nat) : Int)) + 1] i1]))], Out.one rfl rfl, (Some'.weak (.skip (.skip (.take (.nil _))))), ?_⟩
        first | exact ⟨_, by omega, fun x hx => by have := hl4 x hx; omega, rfl⟩ | exact ⟨_, by simp; omega, fun x hx => by
            rcases List.mem_append.1 hx with h | h
            · have := hl4 x h; omega
            · simp only [List.mem_cons, List.not_mem_nil, or_false] at h; omega, rfl⟩
      · have p33 := h33; try simp only [decide_eq_true_eq, decide_eq_false_iff_not, beq_iff_eq, bne_iff_ne, beq_eq_false_iff_ne, ne_eq, gt_iff_lt, ge_iff_le, Int.not_lt, Int.not_le, bne_eq_false_iff_eq, Bool.not_eq_true', Bool.not_eq_false', Bool.and_eq_true, Bool.and_eq_false_iff, Bool.or_eq_true, Bool.or_eq_false_iff, Decidable.not_not, List.cons.injEq, and_true] at p33
        refine Run.skip ?_
        refine Run.seq ?_
        refine Run.region ?_
        refine Run.q (v := .slice A_v1 (l.length) c_v1) rfl (OpQ.y (OpY.pure rfl)) ?_
        refine Run.q (v := .slice A_v1 (l.length) c_v1) rfl (OpQ.y (OpY.pure rfl)) ?_
        refine Run.done ?_
        refine Run.ret ?_
        refine ⟨.slice A_v1 (l.length) c_v1, [.own (.slice A_v1 (l.length) c_v1) 3 1 (l.length) (ints l)], Out.one rfl rfl, (Some'.weak (.skip (.take (.nil _)))), ?_⟩
        first | exact ⟨_, by omega, fun x hx => by have := hl4 x hx; omega, rfl⟩ | exact ⟨_, by simp; omega, fun x hx => by
            rcases List.mem_append.1 hx with h | h
            · have := hl4 x h; omega
            · simp only [List.mem_cons, List.not_mem_nil, or_false] at h; omega, rfl⟩

end Go.Proofs.Ytgghmjijjdboeaa
