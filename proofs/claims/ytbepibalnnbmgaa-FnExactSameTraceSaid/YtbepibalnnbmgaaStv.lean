/- Walks: slices.SortStableFunc of numbers. -/
import Derived.Test.YtbepibalnnbmgaaStw
import Derived.Test.YtbepibalnnbmgaaProg
set_option linter.unusedSimpArgs false
set_option linter.unusedVariables false
namespace Go.Proofs.Ytbepibalnnbmgaa
open Go Go.RowKit
namespace StvT
theorem Tcall_45 : callable Try.prog 45 = true := by kernel_rfl
theorem Tcall_48 : callable Try.prog 48 = true := by kernel_rfl
theorem Tcall_49 : callable Try.prog 49 = true := by kernel_rfl
theorem Tsl_43 : sliceOf Try.prog 43 = some (3, 1, 8, [.int .i64 0]) := by kernel_rfl
end StvT
open StvT

theorem insT_spec {g n c a b : Nat} {cf : Int → Int → Int} {key : Int → Int} {cp : Value} {zs : List Int} {w : World} (hn : n ≤ 1000000000) (hz : zs.length = n) (hab : a ≤ b) (hb : b ≤ n) (hc : CmpOk g n cf key cp w) (hr : InR zs n) (hbig : ∀ p q, a ≤ p → p < q → q < b → ix zs p < ix zs q) (h : (Res.own (.slice (some ⟨g, 0, none⟩) n c) 3 1 n (ints zs)).holds w) :
    Calls Try.prog 48 #[.slice (some ⟨g, 0, none⟩) n c, .int .i64 (a : Nat), .int .i64 (b : Nat), .func (.func 40) #[] #[cp]] w (Post (Of [.own (.slice (some ⟨g, 0, none⟩) n c) 3 1 n (ints zs)]) w fun v H => ∃ ys, (Within zs ys a b ∧ SrtT key ys a b) ∧ v = .tuple #[] ∧ H = [.own (.slice (some ⟨g, 0, none⟩) n c) 3 1 n (ints ys)]) := by
  rcases Nat.lt_or_eq_of_le hab with h1 | h1
  · exact insT_some hn hz h1 hb hc hr hbig h
  · exact insT_none hn hz h1 hb hc hr hbig h

set_option maxHeartbeats 2000000 in
set_option maxRecDepth 20000 in
theorem stable_spec {g n c : Nat} {cf : Int → Int → Int} {key : Int → Int} {cp : Value} {zs : List Int} {w : World} (hn : n ≤ 1000000000) (hz : zs.length = n) (hz0 : zs = mks 0 n) (hc : CmpOk g n cf key cp w) (h : (Res.own (.slice (some ⟨g, 0, none⟩) n c) 3 1 n (ints zs)).holds w) : Calls Try.prog 45 #[.slice (some ⟨g, 0, none⟩) n c, .int .i64 (n : Nat), .func (.func 40) #[] #[cp]] w (Post (Of [.own (.slice (some ⟨g, 0, none⟩) n c) 3 1 n (ints zs)]) w fun v H => ∃ ys, (ys.Perm (mks 0 n) ∧ SrtT key ys 0 n) ∧ v = .tuple #[] ∧ H = [.own (.slice (some ⟨g, 0, none⟩) n c) 3 1 n (ints ys)]) := by
  refine enter (n := 63) (args := [.slice (some ⟨g, 0, none⟩) n c, .int .i64 (((n : Nat) : Int)), .func (.func 40) #[] #[cp]]) Try.func45 rfl rfl (St.start1 h) ?_
  refine Run.seq ?_
  refine Run.region ?_
  refine Run.q (v := .int .i64 20) rfl (OpQ.y (OpY.pure rfl)) ?_
  refine Run.done ?_
  refine Run.seq ?_
  refine Run.region ?_
  refine Run.q (v := .int .i64 20) rfl (OpQ.y (OpY.pure rfl)) ?_
  refine Run.q (v := .int .i64 0) rfl (OpQ.y (OpY.pure rfl)) ?_
  refine Run.q (v := .int .i64 20) rfl (OpQ.y (OpY.pure rfl)) ?_
  refine Run.done ?_
  refine Run.seq ?_
  refine Run.block ?_
  refine Run.loop (ι := Nat × List Int) [7, 8, 11, 12, 13, 14, 15, 16, 17, 18, 19, 20, 21, 22] (fun ⟨a, z1⟩ => [(7, .int .i64 (((a : Nat) : Int))), (8, .int .i64 (((a + 20 : Nat) : Int)))]) (fun ⟨a, z1⟩ => [.own (.slice (some ⟨g, 0, none⟩) n c) 3 1 n (ints z1)]) (fun ⟨a, z1⟩ => a ≤ n ∧ 20 ∣ a ∧ Mix key z1 1 20 n a ∧ z1.Perm (mks 0 n)) (fun ⟨a, z1⟩ => n + 20 - a) (0, zs) ?_ ?_ ?_ ?_
  · exact ⟨Nat.zero_le _, Nat.dvd_zero _, by rw [hz0]; exact mix_start n, by rw [hz0]⟩
  · exact ⟨rfl, rfl, trivial⟩
  · exact (Some'.weak (.takeEq (by first | rfl | simp) (.nil _)))
  · rintro ⟨a, z1⟩ fr hinv
    show Run _ _ (over _ _ [(7, .int .i64 (((a : Nat) : Int))), (8, .int .i64 (((a + 20 : Nat) : Int)))] fr) [.own (.slice (some ⟨g, 0, none⟩) n c) 3 1 n (ints z1)]
    try dsimp only at hinv
    refine Run.seq ?_
    refine Run.seq ?_
    refine Run.region ?_
    refine Run.q (v := .int .i64 (((a + 20 : Nat) : Int))) rfl (OpQ.y (OpY.pure rfl)) ?_
    refine Run.q (v := .int .i64 (((n : Nat) : Int))) rfl (OpQ.y (OpY.pure rfl)) ?_
    refine Run.q (v := .bool (decide ((((a + 20 : Nat) : Int)) ≤ (((n : Nat) : Int))))) rfl (OpQ.y (OpY.pure rfl)) ?_
    refine Run.done ?_
    refine Run.cond (b := decide ((((a + 20 : Nat) : Int)) ≤ (((n : Nat) : Int)))) rfl (fun h13 => ?_) (fun h13 => ?_)
    · have p13 := h13; try simp only [decide_eq_true_eq, decide_eq_false_iff_not, beq_iff_eq, bne_iff_ne, beq_eq_false_iff_ne, ne_eq, gt_iff_lt, ge_iff_le, Int.not_lt, Int.not_le, bne_eq_false_iff_eq, Bool.not_eq_true', Bool.not_eq_false', Bool.and_eq_true, Bool.and_eq_false_iff, Bool.or_eq_true, Bool.or_eq_false_iff, Decidable.not_not, List.cons.injEq, and_true] at p13
      have hlt : a + 20 ≤ n := by omega
      have hr1 := inR_perm hinv.2.2.2
      have hl1 := hr1.1
      refine Run.skip ?_
      refine Run.block ?_
      refine Run.seq ?_
      refine Run.region ?_
      refine Run.q (v := .slice (some ⟨g, 0, none⟩) n c) rfl (OpQ.y (OpY.pure rfl)) ?_
      refine Run.q (v := .int .i64 (((a : Nat) : Int))) rfl (OpQ.y (OpY.pure rfl)) ?_
      refine Run.q (v := .int .i64 (((a + 20 : Nat) : Int))) rfl (OpQ.y (OpY.pure rfl)) ?_
      refine Run.q (v := .func (.func 40) #[] #[cp]) rfl (OpQ.y (OpY.pure rfl)) ?_
      refine Run.step rfl (OpStep.callM (H1 := [.own (.slice (some ⟨g, 0, none⟩) n c) 3 1 n (ints z1)]) (H2 := []) (vs := [.slice (some ⟨g, 0, none⟩) n c, .int .i64 (((a : Nat) : Int)), .int .i64 (((a + 20 : Nat) : Int)), .func (.func 40) #[] #[cp]]) (caps := []) Tcall_48 rfl rfl (Weak.refl _) (fun w hs => insT_spec hn hl1 (by omega) (by omega) (hc.next hs.toB) hr1 (mix_big hinv.2.2.1 (by omega)) (hs.holds _ (.head _))) ?_)
      rintro _ _ ⟨yr, hyr, rfl, rfl⟩
      show Run _ _ (putF _ _ _ (.tuple #[])) [.own (.slice (some ⟨g, 0, none⟩) n c) 3 1 n (ints yr)]
      refine Run.done ?_
      refine Run.seq ?_
      refine Run.region ?_
      refine Run.q (v := .int .i64 (((a + 20 : Nat) : Int))) rfl (OpQ.y (OpY.pure rfl)) ?_
      refine Run.q (v := .int .i64 (((a + 20 : Nat) : Int))) rfl (OpQ.y (OpY.pure rfl)) ?_
      refine Run.done ?_
      refine Run.region ?_
      refine Run.q (v := .int .i64 (((a + 20 : Nat) : Int))) rfl (OpQ.y (OpY.pure rfl)) ?_
      refine Run.q (v := .int .i64 20) rfl (OpQ.y (OpY.pure rfl)) ?_
      refine Run.q (v := .int .i64 (((a + 20 + 20 : Nat) : Int))) rfl (OpQ.y (OpY.add rfl rfl (by omega) (by omega) (by omega))) ?_
      refine Run.q (v := .int .i64 (((a + 20 + 20 : Nat) : Int))) rfl (OpQ.y (OpY.pure rfl)) ?_
      refine Run.done ?_
      refine Run.blockEnd ?_
      refine Run.goal ⟨(by repeat (first | exact Same.refl _ _ | refine Same.put rfl ?_ | refine Same.over rfl rfl ?_)), (a + 20, yr), ?_, ?_, ?_, ?_⟩
      · exact ⟨by omega, Nat.dvd_add hinv.2.1 (Nat.dvd_refl 20), mix_step hinv.2.2.1 (by decide) (by decide) hinv.2.1 hl1 (by rw [show min (a + 20) n = a + 20 by omega]; exact hyr.1) (by rw [show min (a + 20) n = a + 20 by omega]; exact hyr.2), hyr.1.2.2.2.trans hinv.2.2.2⟩
      · dsimp only; omega
      · exact ⟨(by first | rfl | (congr 1; omega) | simp), (by first | rfl | (congr 1; omega) | simp), trivial⟩
      · exact (Some'.weak (.takeEq (by first | rfl | simp) (.nil _)))
    · have p13 := h13; try simp only [decide_eq_true_eq, decide_eq_false_iff_not, beq_iff_eq, bne_iff_ne, beq_eq_false_iff_ne, ne_eq, gt_iff_lt, ge_iff_le, Int.not_lt, Int.not_le, bne_eq_false_iff_eq, Bool.not_eq_true', Bool.not_eq_false', Bool.and_eq_true, Bool.and_eq_false_iff, Bool.or_eq_true, Bool.or_eq_false_iff, Decidable.not_not, List.cons.injEq, and_true] at p13
      have hge : n < a + 20 := by omega
      have hr1 := inR_perm hinv.2.2.2
      have hl1 := hr1.1
      refine Run.exit rfl ?_
      refine Run.seq ?_
      refine Run.region ?_
      refine Run.q (v := .slice (some ⟨g, 0, none⟩) n c) rfl (OpQ.y (OpY.pure rfl)) ?_
      refine Run.q (v := .int .i64 (((a : Nat) : Int))) rfl (OpQ.y (OpY.pure rfl)) ?_
      refine Run.q (v := .int .i64 (((n : Nat) : Int))) rfl (OpQ.y (OpY.pure rfl)) ?_
      refine Run.q (v := .func (.func 40) #[] #[cp]) rfl (OpQ.y (OpY.pure rfl)) ?_
      refine Run.step rfl (OpStep.callM (H1 := [.own (.slice (some ⟨g, 0, none⟩) n c) 3 1 n (ints z1)]) (H2 := []) (vs := [.slice (some ⟨g, 0, none⟩) n c, .int .i64 (((a : Nat) : Int)), .int .i64 (((n : Nat) : Int)), .func (.func 40) #[] #[cp]]) (caps := []) Tcall_48 rfl rfl (Weak.refl _) (fun w hs => insT_spec hn hl1 (by omega) (Nat.le_refl _) (hc.next hs.toB) hr1 (mix_big hinv.2.2.1 (Nat.le_refl _)) (hs.holds _ (.head _))) ?_)
      rintro _ _ ⟨y1, hy1, rfl, rfl⟩
      show Run _ _ (putF _ _ _ (.tuple #[])) [.own (.slice (some ⟨g, 0, none⟩) n c) 3 1 n (ints y1)]
      have hM1 : Mix key y1 1 20 n (a + 20) := mix_step hinv.2.2.1 (by decide) (by decide) hinv.2.1 hl1 (by rw [show min (a + 20) n = n by omega]; exact hy1.1) (by rw [show min (a + 20) n = n by omega]; exact hy1.2)
      have hP1 := hy1.1.2.2.2.trans hinv.2.2.2
      refine Run.done ?_
      refine Run.block ?_
      refine Run.loop (ι := Nat × List Int) [6, 7, 8, 9, 28, 29, 30, 31, 32, 33, 34, 35, 36, 37, 38, 39, 40, 41, 42, 43, 44, 45, 46, 47, 48, 49, 50, 51, 52, 53, 54, 55, 56, 57, 58, 59, 60, 61, 62] (fun ⟨s, z2⟩ => [(6, .int .i64 (((s : Nat) : Int)))]) (fun ⟨s, z2⟩ => [.own (.slice (some ⟨g, 0, none⟩) n c) 3 1 n (ints z2)]) (fun ⟨s, z2⟩ => 20 ≤ s ∧ s ≤ 2 * n + 20 ∧ Mix key z2 s (2 * s) n 0 ∧ z2.Perm (mks 0 n)) (fun ⟨s, z2⟩ => n - s) (20, y1) ?_ ?_ ?_ ?_
      · exact ⟨Nat.le_refl _, by omega, mix_up hM1 (by omega) _, hP1⟩
      · exact ⟨rfl, trivial⟩
      · exact (Some'.weak (.takeEq (by first | rfl | simp) (.nil _)))
      · rintro ⟨s, z2⟩ fr hinv
        show Run _ _ (over _ _ [(6, .int .i64 (((s : Nat) : Int)))] fr) [.own (.slice (some ⟨g, 0, none⟩) n c) 3 1 n (ints z2)]
        try dsimp only at hinv
        refine Run.seq ?_
        refine Run.seq ?_
        refine Run.region ?_
        refine Run.q (v := .int .i64 (((s : Nat) : Int))) rfl (OpQ.y (OpY.pure rfl)) ?_
        refine Run.q (v := .int .i64 (((n : Nat) : Int))) rfl (OpQ.y (OpY.pure rfl)) ?_
        refine Run.q (v := .bool (decide ((((s : Nat) : Int)) < (((n : Nat) : Int))))) rfl (OpQ.y (OpY.pure rfl)) ?_
        refine Run.done ?_
        refine Run.cond (b := decide ((((s : Nat) : Int)) < (((n : Nat) : Int)))) rfl (fun h30 => ?_) (fun h30 => ?_)
        · have p30 := h30; try simp only [decide_eq_true_eq, decide_eq_false_iff_not, beq_iff_eq, bne_iff_ne, beq_eq_false_iff_ne, ne_eq, gt_iff_lt, ge_iff_le, Int.not_lt, Int.not_le, bne_eq_false_iff_eq, Bool.not_eq_true', Bool.not_eq_false', Bool.and_eq_true, Bool.and_eq_false_iff, Bool.or_eq_true, Bool.or_eq_false_iff, Decidable.not_not, List.cons.injEq, and_true] at p30
          have hsn : s < n := by omega
          have hinv2 := hinv
          refine Run.skip ?_
          refine Run.block ?_
          refine Run.seq ?_
          refine Run.region ?_
          refine Run.q (v := .int .i64 (((s : Nat) : Int))) rfl (OpQ.y (OpY.pure rfl)) ?_
          refine Run.q (v := .int .i64 (((2 * s : Nat) : Int))) rfl (OpQ.y (OpY.mul rfl rfl (by first | rfl | grind) (by omega) (by omega))) ?_
          refine Run.q (v := .int .i64 0) rfl (OpQ.y (OpY.pure rfl)) ?_
          refine Run.q (v := .int .i64 (((2 * s : Nat) : Int))) rfl (OpQ.y (OpY.pure rfl)) ?_
          refine Run.done ?_
          refine Run.seq ?_
          refine Run.block ?_
          refine Run.loop (ι := Nat × List Int) [7, 8, 33, 34, 35, 36, 37, 38, 39, 40, 41, 42, 43, 44, 45, 46, 47, 48] (fun ⟨a, z3⟩ => [(7, .int .i64 (((a : Nat) : Int))), (8, .int .i64 (((a + 2 * s : Nat) : Int)))]) (fun ⟨a, z3⟩ => [.own (.slice (some ⟨g, 0, none⟩) n c) 3 1 n (ints z3)]) (fun ⟨a, z3⟩ => a ≤ n ∧ 2 * s ∣ a ∧ Mix key z3 s (2 * s) n a ∧ z3.Perm (mks 0 n)) (fun ⟨a, z3⟩ => n + 1 - a) (0, z2) ?_ ?_ ?_ ?_
          · exact ⟨Nat.zero_le _, Nat.dvd_zero _, hinv.2.2.1, hinv.2.2.2⟩
          · exact ⟨rfl, (by show Value.int _ _ = Value.int _ _; congr 1; omega), trivial⟩
          · exact (Some'.weak (.takeEq (by first | rfl | simp) (.nil _)))
          · rintro ⟨a, z3⟩ fr hinv
            show Run _ _ (over _ _ [(7, .int .i64 (((a : Nat) : Int))), (8, .int .i64 (((a + 2 * s : Nat) : Int)))] fr) [.own (.slice (some ⟨g, 0, none⟩) n c) 3 1 n (ints z3)]
            try dsimp only at hinv
            refine Run.seq ?_
            refine Run.seq ?_
            refine Run.region ?_
            refine Run.q (v := .int .i64 (((a + 2 * s : Nat) : Int))) rfl (OpQ.y (OpY.pure rfl)) ?_
            refine Run.q (v := .int .i64 (((n : Nat) : Int))) rfl (OpQ.y (OpY.pure rfl)) ?_
            refine Run.q (v := .bool (decide ((((a + 2 * s : Nat) : Int)) ≤ (((n : Nat) : Int))))) rfl (OpQ.y (OpY.pure rfl)) ?_
            refine Run.done ?_
            refine Run.cond (b := decide ((((a + 2 * s : Nat) : Int)) ≤ (((n : Nat) : Int)))) rfl (fun h35 => ?_) (fun h35 => ?_)
            · have p35 := h35; try simp only [decide_eq_true_eq, decide_eq_false_iff_not, beq_iff_eq, bne_iff_ne, beq_eq_false_iff_ne, ne_eq, gt_iff_lt, ge_iff_le, Int.not_lt, Int.not_le, bne_eq_false_iff_eq, Bool.not_eq_true', Bool.not_eq_false', Bool.and_eq_true, Bool.and_eq_false_iff, Bool.or_eq_true, Bool.or_eq_false_iff, Decidable.not_not, List.cons.injEq, and_true] at p35
              have hlt : a + 2 * s ≤ n := by omega
              have hr3 := inR_perm hinv.2.2.2
              have hl3 := hr3.1
              have hsa : s ∣ a := Nat.dvd_trans (Nat.dvd_mul_left s 2) hinv.2.1
              refine Run.skip ?_
              refine Run.block ?_
              refine Run.seq ?_
              refine Run.region ?_
              refine Run.q (v := .slice (some ⟨g, 0, none⟩) n c) rfl (OpQ.y (OpY.pure rfl)) ?_
              refine Run.q (v := .int .i64 (((a : Nat) : Int))) rfl (OpQ.y (OpY.pure rfl)) ?_
              refine Run.q (v := .int .i64 (((a : Nat) : Int))) rfl (OpQ.y (OpY.pure rfl)) ?_
              refine Run.q (v := .int .i64 (((s : Nat) : Int))) rfl (OpQ.y (OpY.pure rfl)) ?_
              refine Run.q (v := .int .i64 (((a + s : Nat) : Int))) rfl (OpQ.y (OpY.add rfl rfl (by omega) (by omega) (by omega))) ?_
              refine Run.q (v := .int .i64 (((a + 2 * s : Nat) : Int))) rfl (OpQ.y (OpY.pure rfl)) ?_
              refine Run.q (v := .func (.func 40) #[] #[cp]) rfl (OpQ.y (OpY.pure rfl)) ?_
              refine Run.step rfl (OpStep.callM (H1 := [.own (.slice (some ⟨g, 0, none⟩) n c) 3 1 n (ints z3)]) (H2 := []) (vs := [.slice (some ⟨g, 0, none⟩) n c, .int .i64 (((a : Nat) : Int)), .int .i64 (((a + s : Nat) : Int)), .int .i64 (((a + 2 * s : Nat) : Int)), .func (.func 40) #[] #[cp]]) (caps := []) Tcall_49 rfl rfl (Weak.refl _) (fun w hs => (show SymStmt _ from sym_spec _) rfl hn hl3 (by omega) (by omega) (by omega) (hc.next hs.toB) hr3 (mix_left hinv.2.2.1 hsa (by omega)) (mix_right hinv.2.2.1 hsa (by omega)) (mix_par hinv.2.2.1 hsa (by omega) (by omega)) (hs.holds _ (.head _))) ?_)
              rintro _ _ ⟨yr, hyr, rfl, rfl⟩
              show Run _ _ (putF _ _ _ (.tuple #[])) [.own (.slice (some ⟨g, 0, none⟩) n c) 3 1 n (ints yr)]
              refine Run.done ?_
              refine Run.seq ?_
              refine Run.region ?_
              refine Run.q (v := .int .i64 (((a + 2 * s : Nat) : Int))) rfl (OpQ.y (OpY.pure rfl)) ?_
              refine Run.q (v := .int .i64 (((a + 2 * s : Nat) : Int))) rfl (OpQ.y (OpY.pure rfl)) ?_
              refine Run.done ?_
              refine Run.region ?_
              refine Run.q (v := .int .i64 (((a + 2 * s : Nat) : Int))) rfl (OpQ.y (OpY.pure rfl)) ?_
              refine Run.q (v := .int .i64 (((s : Nat) : Int))) rfl (OpQ.y (OpY.pure rfl)) ?_
              refine Run.q (v := .int .i64 (((2 * s : Nat) : Int))) rfl (OpQ.y (OpY.mul rfl rfl (by first | rfl | grind) (by omega) (by omega))) ?_
              refine Run.q (v := .int .i64 (((a + 2 * s + 2 * s : Nat) : Int))) rfl (OpQ.y (OpY.add rfl rfl (by omega) (by omega) (by omega))) ?_
              refine Run.q (v := .int .i64 (((a + 2 * s + 2 * s : Nat) : Int))) rfl (OpQ.y (OpY.pure rfl)) ?_
              refine Run.done ?_
              refine Run.blockEnd ?_
              refine Run.goal ⟨(by repeat (first | exact Same.refl _ _ | refine Same.put rfl ?_ | refine Same.over rfl rfl ?_)), (a + 2 * s, yr), ?_, ?_, ?_, ?_⟩
              · exact ⟨by omega, Nat.dvd_add hinv.2.1 (Nat.dvd_refl _), mix_step hinv.2.2.1 (by omega) (Nat.dvd_mul_left s 2) hinv.2.1 hl3 (by rw [show min (a + 2 * s) n = a + 2 * s by omega]; exact hyr.1) (by rw [show min (a + 2 * s) n = a + 2 * s by omega]; exact hyr.2), hyr.1.2.2.2.trans hinv.2.2.2⟩
              · dsimp only; omega
              · exact ⟨(by first | rfl | (congr 1; omega) | simp), (by first | rfl | (congr 1; omega) | simp), trivial⟩
              · exact (Some'.weak (.takeEq (by first | rfl | simp) (.nil _)))
            · have p35 := h35; try simp only [decide_eq_true_eq, decide_eq_false_iff_not, beq_iff_eq, bne_iff_ne, beq_eq_false_iff_ne, ne_eq, gt_iff_lt, ge_iff_le, Int.not_lt, Int.not_le, bne_eq_false_iff_eq, Bool.not_eq_true', Bool.not_eq_false', Bool.and_eq_true, Bool.and_eq_false_iff, Bool.or_eq_true, Bool.or_eq_false_iff, Decidable.not_not, List.cons.injEq, and_true] at p35
              have hge : n < a + 2 * s := by omega
              have hr3 := inR_perm hinv.2.2.2
              have hl3 := hr3.1
              have hsa : s ∣ a := Nat.dvd_trans (Nat.dvd_mul_left s 2) hinv.2.1
              have hinv3 := hinv
              refine Run.exit rfl ?_
              refine Run.seq ?_
              refine Run.seq ?_
              refine Run.region ?_
              refine Run.q (v := .int .i64 (((a : Nat) : Int))) rfl (OpQ.y (OpY.pure rfl)) ?_
              refine Run.q (v := .int .i64 (((s : Nat) : Int))) rfl (OpQ.y (OpY.pure rfl)) ?_
              refine Run.q (v := .int .i64 (((a + s : Nat) : Int))) rfl (OpQ.y (OpY.add rfl rfl (by omega) (by omega) (by omega))) ?_
              refine Run.q (v := .int .i64 (((a + s : Nat) : Int))) rfl (OpQ.y (OpY.pure rfl)) ?_
              refine Run.done ?_
              refine Run.seq ?_
              refine Run.region ?_
              refine Run.q (v := .int .i64 (((a + s : Nat) : Int))) rfl (OpQ.y (OpY.pure rfl)) ?_
              refine Run.q (v := .int .i64 (((n : Nat) : Int))) rfl (OpQ.y (OpY.pure rfl)) ?_
              refine Run.q (v := .bool (decide ((((a + s : Nat) : Int)) < (((n : Nat) : Int))))) rfl (OpQ.y (OpY.pure rfl)) ?_
              refine Run.done ?_
              refine Run.cut (ι := List Int) [55, 56, 57, 58, 59, 60] (fun z4 => []) (fun z4 => [.own (.slice (some ⟨g, 0, none⟩) n c) 3 1 n (ints z4)]) (fun z4 => Mix key z4 s (2 * s) n (a + 2 * s) ∧ z4.Perm (mks 0 n)) ?_ ?_
              · refine Run.cond (b := decide ((((a + s : Nat) : Int)) < (((n : Nat) : Int)))) rfl (fun h54 => ?_) (fun h54 => ?_)
                · have p54 := h54; try simp only [decide_eq_true_eq, decide_eq_false_iff_not, beq_iff_eq, bne_iff_ne, beq_eq_false_iff_ne, ne_eq, gt_iff_lt, ge_iff_le, Int.not_lt, Int.not_le, bne_eq_false_iff_eq, Bool.not_eq_true', Bool.not_eq_false', Bool.and_eq_true, Bool.and_eq_false_iff, Bool.or_eq_true, Bool.or_eq_false_iff, Decidable.not_not, List.cons.injEq, and_true] at p54
                  have hmn : a + s < n := by omega
                  refine Run.region ?_
                  refine Run.q (v := .slice (some ⟨g, 0, none⟩) n c) rfl (OpQ.y (OpY.pure rfl)) ?_
                  refine Run.q (v := .int .i64 (((a : Nat) : Int))) rfl (OpQ.y (OpY.pure rfl)) ?_
                  refine Run.q (v := .int .i64 (((a + s : Nat) : Int))) rfl (OpQ.y (OpY.pure rfl)) ?_
                  refine Run.q (v := .int .i64 (((n : Nat) : Int))) rfl (OpQ.y (OpY.pure rfl)) ?_
                  refine Run.q (v := .func (.func 40) #[] #[cp]) rfl (OpQ.y (OpY.pure rfl)) ?_
                  refine Run.step rfl (OpStep.callM (H1 := [.own (.slice (some ⟨g, 0, none⟩) n c) 3 1 n (ints z3)]) (H2 := []) (vs := [.slice (some ⟨g, 0, none⟩) n c, .int .i64 (((a : Nat) : Int)), .int .i64 (((a + s : Nat) : Int)), .int .i64 (((n : Nat) : Int)), .func (.func 40) #[] #[cp]]) (caps := []) Tcall_49 rfl rfl (Weak.refl _) (fun w hs => (show SymStmt _ from sym_spec _) rfl hn hl3 (by omega) (by omega) (by omega) (hc.next hs.toB) hr3 (mix_left hinv.2.2.1 hsa (by omega)) (mix_right hinv.2.2.1 hsa (by omega)) (mix_par hinv.2.2.1 hsa (by omega) (by omega)) (hs.holds _ (.head _))) ?_)
                  rintro _ _ ⟨yr, hyr, rfl, rfl⟩
                  show Run _ _ (putF _ _ _ (.tuple #[])) [.own (.slice (some ⟨g, 0, none⟩) n c) 3 1 n (ints yr)]
                  refine Run.done ?_
                  refine Run.goal ⟨(by repeat (first | exact Same.refl _ _ | refine Same.put rfl ?_ | refine Same.over rfl rfl ?_)), yr, ?_, ?_, ?_⟩
                  · first | exact ⟨mix_step hinv.2.2.1 (by omega) (Nat.dvd_mul_left s 2) hinv.2.1 hl3 (by rw [show min (a + 2 * s) n = n by omega]; exact hyr.1) (by rw [show min (a + 2 * s) n = n by omega]; exact hyr.2), hyr.1.2.2.2.trans hinv.2.2.2⟩ | exact ⟨mix_rest hinv.2.2.1 (by omega) (Nat.dvd_mul_left s 2) hinv.2.1 hl3 hmn, hinv.2.2.2⟩
                  · exact trivial
                  · exact (Some'.weak (.takeEq (by first | rfl | simp) (.nil _)))
                · have p54 := h54; try simp only [decide_eq_true_eq, decide_eq_false_iff_not, beq_iff_eq, bne_iff_ne, beq_eq_false_iff_ne, ne_eq, gt_iff_lt, ge_iff_le, Int.not_lt, Int.not_le, bne_eq_false_iff_eq, Bool.not_eq_true', Bool.not_eq_false', Bool.and_eq_true, Bool.and_eq_false_iff, Bool.or_eq_true, Bool.or_eq_false_iff, Decidable.not_not, List.cons.injEq, and_true] at p54
                  have hmn : n ≤ a + s := by omega
                  refine Run.skip ?_
                  refine Run.goal ⟨(by repeat (first | exact Same.refl _ _ | refine Same.put rfl ?_ | refine Same.over rfl rfl ?_)), z3, ?_, ?_, ?_⟩
                  · first | exact ⟨mix_step hinv.2.2.1 (by omega) (Nat.dvd_mul_left s 2) hinv.2.1 hl3 (by rw [show min (a + 2 * s) n = n by omega]; exact hyr.1) (by rw [show min (a + 2 * s) n = n by omega]; exact hyr.2), hyr.1.2.2.2.trans hinv.2.2.2⟩ | exact ⟨mix_rest hinv.2.2.1 (by omega) (Nat.dvd_mul_left s 2) hinv.2.1 hl3 hmn, hinv.2.2.2⟩
                  · exact trivial
                  · exact (Some'.weak (.takeEq (by first | rfl | simp) (.nil _)))
              · rintro z4 fr hcut
                show Run _ _ (over _ _ [] fr) [.own (.slice (some ⟨g, 0, none⟩) n c) 3 1 n (ints z4)]
                refine Run.region ?_
                refine Run.q (v := .int .i64 (((s : Nat) : Int))) rfl (OpQ.y (OpY.pure rfl)) ?_
                refine Run.q (v := .int .i64 (((s * 2 : Nat) : Int))) rfl (OpQ.y (OpY.mul rfl rfl (by first | rfl | grind) (by omega) (by omega))) ?_
                refine Run.q (v := .int .i64 (((s * 2 : Nat) : Int))) rfl (OpQ.y (OpY.pure rfl)) ?_
                refine Run.done ?_
                refine Run.blockEnd ?_
                refine Run.goal ⟨(by repeat (first | exact Same.refl _ _ | refine Same.put rfl ?_ | refine Same.over rfl rfl ?_)), (s * 2, z4), ?_, ?_, ?_, ?_⟩
                · exact ⟨by omega, by omega, by rw [show s * 2 = 2 * s by omega]; exact mix_up hcut.1 (by omega) _, hcut.2⟩
                · dsimp only; omega
                · exact ⟨(by first | rfl | (congr 1; omega) | simp), trivial⟩
                · exact (Some'.weak (.takeEq (by first | rfl | simp) (.nil _)))
        · have p30 := h30; try simp only [decide_eq_true_eq, decide_eq_false_iff_not, beq_iff_eq, bne_iff_ne, beq_eq_false_iff_ne, ne_eq, gt_iff_lt, ge_iff_le, Int.not_lt, Int.not_le, bne_eq_false_iff_eq, Bool.not_eq_true', Bool.not_eq_false', Bool.and_eq_true, Bool.and_eq_false_iff, Bool.or_eq_true, Bool.or_eq_false_iff, Decidable.not_not, List.cons.injEq, and_true] at p30
          have hsn : n ≤ s := by omega
          have hfin := mix_done hinv.2.2.1 hsn
          refine Run.exit rfl ?_
          refine Run.fin ?_
          refine ⟨.tuple #[], [.own (.slice (some ⟨g, 0, none⟩) n c) 3 1 n (ints z2)], Out.none rfl, (Some'.weak (.take (.nil _))), ?_⟩
          exact ⟨_, ⟨hinv.2.2.2, hfin⟩, rfl, rfl⟩

set_option maxHeartbeats 1000000 in
set_option maxRecDepth 20000 in
theorem SortStable_some {g n c : Nat} {cf : Int → Int → Int} {key : Int → Int} {cp : Value} {zs : List Int} {w : World} (hn : n ≤ 1000000000) (hz : zs.length = n) (hz0 : zs = mks 0 n) (hc : CmpOk g n cf key cp w) (h : (Res.own (.slice (some ⟨g, 0, none⟩) n c) 3 1 n (ints zs)).holds w) : Calls Try.prog 39 #[.slice (some ⟨g, 0, none⟩) n c, .func (.func 40) #[] #[cp]] w (Post (Of [.own (.slice (some ⟨g, 0, none⟩) n c) 3 1 n (ints zs)]) w fun v H => ∃ ys, (ys.Perm (mks 0 n) ∧ SrtT key ys 0 n) ∧ v = .tuple #[] ∧ H = [.own (.slice (some ⟨g, 0, none⟩) n c) 3 1 n (ints ys)]) := by
  refine enter (n := 9) (args := [.slice (some ⟨g, 0, none⟩) n c, .func (.func 40) #[] #[cp]]) Try.func39 rfl rfl (St.start1 h) ?_
  refine Run.region ?_
  refine Run.q (v := .slice (some ⟨g, 0, none⟩) n c) rfl (OpQ.y (OpY.pure rfl)) ?_
  refine Run.q (v := .slice (some ⟨g, 0, none⟩) n c) rfl (OpQ.y (OpY.pure rfl)) ?_
  refine Run.q (v := .int .i64 (((n : Nat) : Int))) rfl (OpQ.y (OpY.len Tsl_43 rfl)) ?_
  refine Run.q (v := .func (.func 40) #[] #[cp]) rfl (OpQ.y (OpY.pure rfl)) ?_
  refine Run.step rfl (OpStep.callM (H1 := [.own (.slice (some ⟨g, 0, none⟩) n c) 3 1 n (ints zs)]) (H2 := []) (vs := [.slice (some ⟨g, 0, none⟩) n c, .int .i64 (((n : Nat) : Int)), .func (.func 40) #[] #[cp]]) (caps := []) Tcall_45 rfl rfl (Weak.refl _) (fun w hs => stable_spec hn hz hz0 (hc.next hs.toB) (hs.holds _ (.head _))) ?_)
  rintro _ _ ⟨yr, hyr, rfl, rfl⟩
  show Run _ _ (putF _ _ _ (.tuple #[])) [.own (.slice (some ⟨g, 0, none⟩) n c) 3 1 n (ints yr)]
  refine Run.done ?_
  refine Run.fin ?_
  refine ⟨.tuple #[], [.own (.slice (some ⟨g, 0, none⟩) n c) 3 1 n (ints yr)], Out.none rfl, (Some'.weak (.take (.nil _))), ?_⟩
  exact ⟨_, hyr, rfl, rfl⟩

set_option maxHeartbeats 1000000 in
set_option maxRecDepth 20000 in
theorem insT_nil {A : Option Addr} {c : Nat} {cp : Value} {w : World} : Calls Try.prog 48 #[.slice A 0 c, .int .i64 0, .int .i64 0, .func (.func 40) #[] #[cp]] w (Post No w fun v _ => v = .tuple #[]) := by
  refine enter (n := 53) (args := [.slice A 0 c, .int .i64 0, .int .i64 0, .func (.func 40) #[] #[cp]]) Try.func48 rfl rfl (St.empty _ _) ?_
  refine Run.seq ?_
  refine Run.region ?_
  refine Run.q (v := .int .i64 0) rfl (OpQ.y (OpY.pure rfl)) ?_
  refine Run.q (v := .int .i64 1) rfl (OpQ.y (OpY.pure rfl)) ?_
  refine Run.q (v := .int .i64 1) rfl (OpQ.y (OpY.pure rfl)) ?_
  refine Run.done ?_
  refine Run.block ?_
  refine Run.unroll 1 ?_
  refine Run.again ?_
  refine Run.seq ?_
  refine Run.seq ?_
  refine Run.region ?_
  refine Run.q (v := .int .i64 1) rfl (OpQ.y (OpY.pure rfl)) ?_
  refine Run.q (v := .int .i64 0) rfl (OpQ.y (OpY.pure rfl)) ?_
  refine Run.q (v := .bool false) rfl (OpQ.y (OpY.pure rfl)) ?_
  refine Run.done ?_
  refine Run.cond (b := false) rfl (fun h => nomatch h) (fun _ => ?_)
  refine Run.exit rfl ?_
  refine Run.fin ?_
  refine ⟨.tuple #[], [], Out.none rfl, (Some'.weak (.nil _)), ?_⟩
  rfl

set_option maxHeartbeats 1000000 in
set_option maxRecDepth 20000 in
theorem stable_nil {A : Option Addr} {c : Nat} {cp : Value} {w : World} : Calls Try.prog 45 #[.slice A 0 c, .int .i64 0, .func (.func 40) #[] #[cp]] w (Post No w fun v _ => v = .tuple #[]) := by
  refine enter (n := 63) (args := [.slice A 0 c, .int .i64 0, .func (.func 40) #[] #[cp]]) Try.func45 rfl rfl (St.empty _ _) ?_
  refine Run.seq ?_
  refine Run.region ?_
  refine Run.q (v := .int .i64 20) rfl (OpQ.y (OpY.pure rfl)) ?_
  refine Run.done ?_
  refine Run.seq ?_
  refine Run.region ?_
  refine Run.q (v := .int .i64 20) rfl (OpQ.y (OpY.pure rfl)) ?_
  refine Run.q (v := .int .i64 0) rfl (OpQ.y (OpY.pure rfl)) ?_
  refine Run.q (v := .int .i64 20) rfl (OpQ.y (OpY.pure rfl)) ?_
  refine Run.done ?_
  refine Run.seq ?_
  refine Run.block ?_
  refine Run.unroll 1 ?_
  refine Run.again ?_
  refine Run.seq ?_
  refine Run.seq ?_
  refine Run.region ?_
  refine Run.q (v := .int .i64 20) rfl (OpQ.y (OpY.pure rfl)) ?_
  refine Run.q (v := .int .i64 0) rfl (OpQ.y (OpY.pure rfl)) ?_
  refine Run.q (v := .bool false) rfl (OpQ.y (OpY.pure rfl)) ?_
  refine Run.done ?_
  refine Run.cond (b := false) rfl (fun h => nomatch h) (fun _ => ?_)
  refine Run.exit rfl ?_
  refine Run.seq ?_
  refine Run.region ?_
  refine Run.q (v := .slice A 0 c) rfl (OpQ.y (OpY.pure rfl)) ?_
  refine Run.q (v := .int .i64 0) rfl (OpQ.y (OpY.pure rfl)) ?_
  refine Run.q (v := .int .i64 0) rfl (OpQ.y (OpY.pure rfl)) ?_
  refine Run.q (v := .func (.func 40) #[] #[cp]) rfl (OpQ.y (OpY.pure rfl)) ?_
  refine Run.q (v := .tuple #[]) rfl (OpQ.call (vs := [.slice A 0 c, .int .i64 0, .int .i64 0, .func (.func 40) #[] #[cp]]) (caps := []) Tcall_48 rfl rfl (fun w hs => insT_nil)) ?_
  refine Run.done ?_
  refine Run.block ?_
  refine Run.unroll 1 ?_
  refine Run.again ?_
  refine Run.seq ?_
  refine Run.seq ?_
  refine Run.region ?_
  refine Run.q (v := .int .i64 20) rfl (OpQ.y (OpY.pure rfl)) ?_
  refine Run.q (v := .int .i64 0) rfl (OpQ.y (OpY.pure rfl)) ?_
  refine Run.q (v := .bool false) rfl (OpQ.y (OpY.pure rfl)) ?_
  refine Run.done ?_
  refine Run.cond (b := false) rfl (fun h => nomatch h) (fun _ => ?_)
  refine Run.exit rfl ?_
  refine Run.fin ?_
  refine ⟨.tuple #[], [], Out.none rfl, (Some'.weak (.nil _)), ?_⟩
  rfl

set_option maxHeartbeats 1000000 in
set_option maxRecDepth 20000 in
theorem SortStable_nil {A : Option Addr} {c : Nat} {cp : Value} {w : World} : Calls Try.prog 39 #[.slice A 0 c, .func (.func 40) #[] #[cp]] w (Post No w fun v _ => v = .tuple #[]) := by
  refine enter (n := 9) (args := [.slice A 0 c, .func (.func 40) #[] #[cp]]) Try.func39 rfl rfl (St.empty _ _) ?_
  refine Run.region ?_
  refine Run.q (v := .slice A 0 c) rfl (OpQ.y (OpY.pure rfl)) ?_
  refine Run.q (v := .slice A 0 c) rfl (OpQ.y (OpY.pure rfl)) ?_
  refine Run.q (v := .int .i64 0) rfl (OpQ.y (OpY.len Tsl_43 rfl)) ?_
  refine Run.q (v := .func (.func 40) #[] #[cp]) rfl (OpQ.y (OpY.pure rfl)) ?_
  refine Run.q (v := .tuple #[]) rfl (OpQ.call (vs := [.slice A 0 c, .int .i64 0, .func (.func 40) #[] #[cp]]) (caps := []) Tcall_45 rfl rfl (fun w hs => stable_nil)) ?_
  refine Run.done ?_
  refine Run.fin ?_
  refine ⟨.tuple #[], [], Out.none rfl, (Some'.weak (.nil _)), ?_⟩
  rfl


theorem SortStable_spec {n : Nat} {v : Value} {cf : Int → Int → Int} {key : Int → Int} {cp : Value} {w : World} (hn : n ≤ 1000000000) (hc : ∀ g, v.ownBlock = some g → CmpOk g n cf key cp w) (h : (Res.own v 3 1 n (ints (mks 0 n))).holds w) :
    Calls Try.prog 39 #[v, .func (.func 40) #[] #[cp]] w (Post (Of [.own v 3 1 n (ints (mks 0 n))]) w fun u H => ∃ ys, (ys.Perm (mks 0 n) ∧ SrtT key ys 0 n) ∧ u = .tuple #[] ∧ H = [.own v 3 1 n (ints ys)]) := by
  have hs := St.start1 h
  have hsl : Sl w v 1 n (ints (mks 0 n)) := hs.slOwn (.head _)
  by_cases h0 : n = 0
  · subst h0
    obtain ⟨A, c, rfl, _, _⟩ := hsl.form0
    refine (SortStable_nil (A := A) (c := c) (cp := cp) (w := w)).mono fun e w' hp => ?_
    obtain ⟨u, H', he, hs', hu⟩ := hp
    refine ⟨u, _, he, (hs.call hs').sub (List.sublist_append_right H' _), mks 0 0, ⟨List.Perm.refl _, SrtT.nil (by omega)⟩, hu, rfl⟩
  · rcases h.2 with ⟨_, h1⟩ | ⟨g, cap, cur, rfl, _⟩
    · exact absurd h1 h0
    · exact SortStable_some hn (by simp) rfl (hc g rfl) h

end Go.Proofs.Ytbepibalnnbmgaa
