/- Walks: the laws' own functions on matrices of numbers. -/
import Derived.Test.YtadobifnhcafpaaOsd
import Derived.Test.YtadobifnhcafpaaProg
set_option linter.unusedSimpArgs false
set_option linter.unusedVariables false
namespace Go.Proofs.Ytadobifnhcafpaa
open Go Go.RowKit
namespace OseT
theorem Tagg_56 : aggOf Try.prog 56 = some 4 := by kernel_rfl
theorem Tagg_61 : aggOf Try.prog 61 = some 5 := by kernel_rfl
theorem Tcall_32 : callable Try.prog 32 = true := by kernel_rfl
theorem Tcall_35 : callable Try.prog 35 = true := by kernel_rfl
theorem Tcall_36 : callable Try.prog 36 = true := by kernel_rfl
theorem Tcall_37 : callable Try.prog 37 = true := by kernel_rfl
theorem Tcall_38 : callable Try.prog 38 = true := by kernel_rfl
theorem Tcall_58 : callable Try.prog 58 = true := by kernel_rfl
theorem Tcall_66 : callable Try.prog 66 = true := by kernel_rfl
theorem Tfo_29_0 : fieldOff Try.prog 29 0 = some 0 := by kernel_rfl
theorem Tfo_29_1 : fieldOff Try.prog 29 1 = some 1 := by kernel_rfl
theorem Tfo_29_2 : fieldOff Try.prog 29 2 = some 2 := by kernel_rfl
theorem Tfo_35_4 : fieldOff Try.prog 35 4 = some 4 := by kernel_rfl
theorem Tfo_35_5 : fieldOff Try.prog 35 5 = some 5 := by kernel_rfl
theorem Tfo_51_0 : fieldOff Try.prog 51 0 = some 0 := by kernel_rfl
theorem Tfo_51_1 : fieldOff Try.prog 51 1 = some 1 := by kernel_rfl
theorem Tfo_54_0 : fieldOff Try.prog 54 0 = some 0 := by kernel_rfl
theorem Tfo_54_1 : fieldOff Try.prog 54 1 = some 1 := by kernel_rfl
theorem Tfo_56_0 : fieldOff Try.prog 56 0 = some 0 := by kernel_rfl
theorem Tfo_56_1 : fieldOff Try.prog 56 1 = some 1 := by kernel_rfl
theorem Tfo_56_2 : fieldOff Try.prog 56 2 = some 2 := by kernel_rfl
theorem Tfo_56_3 : fieldOff Try.prog 56 3 = some 3 := by kernel_rfl
theorem Tfo_61_0 : fieldOff Try.prog 61 0 = some 0 := by kernel_rfl
theorem Tfo_61_1 : fieldOff Try.prog 61 1 = some 4 := by kernel_rfl
theorem Tone_27 : oneOf Try.prog 27 = true := by kernel_rfl
theorem Tone_3 : oneOf Try.prog 3 = true := by kernel_rfl
theorem Tone_32 : oneOf Try.prog 32 = true := by kernel_rfl
theorem Tone_33 : oneOf Try.prog 33 = true := by kernel_rfl
theorem Tsize_3 : (Try.prog.info? 3).map (·.size) = some 1 := by kernel_rfl
theorem Tsl_27 : sliceOf Try.prog 27 = some (61, 5, 40, [.int .i64 0, .int .i64 0, .int .i64 0, .int .i64 0, .int .i64 0]) := by kernel_rfl
theorem Tsl_32 : sliceOf Try.prog 32 = some (51, 2, 16, [.int .i64 0, .int .i64 0]) := by kernel_rfl
theorem Tsl_33 : sliceOf Try.prog 33 = some (54, 2, 16, [.int .i64 0, .int .i64 0]) := by kernel_rfl
end OseT
open OseT
set_option maxHeartbeats 1000000 in
set_option maxRecDepth 20000 in
theorem eqRing_spec (x0 x1 x2 x3 y0 y1 y2 y3 : Int) (w : World) : Calls Try.prog 66 #[.agg #[.int .i64 x0, .int .i64 x1, .int .i64 x2, .int .i64 x3], .agg #[.int .i64 y0, .int .i64 y1, .int .i64 y2, .int .i64 y3]] w (Post No w fun v _ => v = .bool (decide ([x0, x1, x2, x3] = [y0, y1, y2, y3]))) := by
  refine enter (n := 25) (args := [.agg #[.int .i64 x0, .int .i64 x1, .int .i64 x2, .int .i64 x3], .agg #[.int .i64 y0, .int .i64 y1, .int .i64 y2, .int .i64 y3]]) Try.func66 rfl rfl (St.empty _ _) ?_
  refine Run.seq ?_
  refine Run.region ?_
  refine Run.step rfl (OpStep.box (us := [.int .i64 x0, .int .i64 x1, .int .i64 x2, .int .i64 x3]) rfl fun b1 => ?_)
  refine Run.step rfl (OpStep.box (us := [.int .i64 y0, .int .i64 y1, .int .i64 y2, .int .i64 y3]) rfl fun b2 => ?_)
  refine Run.q (v := .bool false) rfl (OpQ.y (OpY.pure rfl)) ?_
  refine Run.done ?_
  refine Run.seq ?_
  refine Run.seq ?_
  refine Run.region ?_
  refine Run.q (v := .pointer (some ⟨b1, 0, none⟩)) rfl (OpQ.y (OpY.fieldAddr Tfo_56_0 rfl rfl)) ?_
  refine Run.q (v := .int .i64 x0) rfl (OpQ.y (OpY.load1 Tone_3 rfl (Cells.blk (.tail _ (List.Mem.head _)) ⟨rfl, trivial⟩))) ?_
  refine Run.q (v := .pointer (some ⟨b2, 0, none⟩)) rfl (OpQ.y (OpY.fieldAddr Tfo_56_0 rfl rfl)) ?_
  refine Run.q (v := .int .i64 y0) rfl (OpQ.y (OpY.load1 Tone_3 rfl (Cells.blk (.head _) ⟨rfl, trivial⟩))) ?_
  refine Run.q (v := .bool (x0 != y0)) rfl (OpQ.y (OpY.pure rfl)) ?_
  refine Run.done ?_
  refine Run.cond (b := x0 != y0) rfl (fun h9 => ?_) (fun h9 => ?_)
  · have p9 := h9; try simp only [bs] at p9
    refine Run.seq ?_
    refine Run.region ?_
    refine Run.q (v := .bool false) rfl (OpQ.y (OpY.pure rfl)) ?_
    refine Run.done ?_
    refine Run.ret ?_
    refine ⟨.bool false, [], Out.one rfl rfl, (Some'.weak (.nil _)), ?_⟩
    show _ = _; simp_all
  · have p9 := h9; try simp only [bs] at p9
    refine Run.skip ?_
    refine Run.seq ?_
    refine Run.seq ?_
    refine Run.region ?_
    refine Run.q (v := .pointer (some ⟨b1, 1, none⟩)) rfl (OpQ.y (OpY.fieldAddr Tfo_56_1 rfl rfl)) ?_
    refine Run.q (v := .int .i64 x1) rfl (OpQ.y (OpY.load1 Tone_3 rfl (Cells.blk (.tail _ (List.Mem.head _)) ⟨rfl, trivial⟩))) ?_
    refine Run.q (v := .pointer (some ⟨b2, 1, none⟩)) rfl (OpQ.y (OpY.fieldAddr Tfo_56_1 rfl rfl)) ?_
    refine Run.q (v := .int .i64 y1) rfl (OpQ.y (OpY.load1 Tone_3 rfl (Cells.blk (.head _) ⟨rfl, trivial⟩))) ?_
    refine Run.q (v := .bool (x1 != y1)) rfl (OpQ.y (OpY.pure rfl)) ?_
    refine Run.done ?_
    refine Run.cond (b := x1 != y1) rfl (fun h14 => ?_) (fun h14 => ?_)
    · have p14 := h14; try simp only [bs] at p14
      refine Run.seq ?_
      refine Run.region ?_
      refine Run.q (v := .bool false) rfl (OpQ.y (OpY.pure rfl)) ?_
      refine Run.done ?_
      refine Run.ret ?_
      refine ⟨.bool false, [], Out.one rfl rfl, (Some'.weak (.nil _)), ?_⟩
      show _ = _; simp_all
    · have p14 := h14; try simp only [bs] at p14
      refine Run.skip ?_
      refine Run.seq ?_
      refine Run.seq ?_
      refine Run.region ?_
      refine Run.q (v := .pointer (some ⟨b1, 2, none⟩)) rfl (OpQ.y (OpY.fieldAddr Tfo_56_2 rfl rfl)) ?_
      refine Run.q (v := .int .i64 x2) rfl (OpQ.y (OpY.load1 Tone_3 rfl (Cells.blk (.tail _ (List.Mem.head _)) ⟨rfl, trivial⟩))) ?_
      refine Run.q (v := .pointer (some ⟨b2, 2, none⟩)) rfl (OpQ.y (OpY.fieldAddr Tfo_56_2 rfl rfl)) ?_
      refine Run.q (v := .int .i64 y2) rfl (OpQ.y (OpY.load1 Tone_3 rfl (Cells.blk (.head _) ⟨rfl, trivial⟩))) ?_
      refine Run.q (v := .bool (x2 != y2)) rfl (OpQ.y (OpY.pure rfl)) ?_
      refine Run.done ?_
      refine Run.cond (b := x2 != y2) rfl (fun h19 => ?_) (fun h19 => ?_)
      · have p19 := h19; try simp only [bs] at p19
        refine Run.seq ?_
        refine Run.region ?_
        refine Run.q (v := .bool false) rfl (OpQ.y (OpY.pure rfl)) ?_
        refine Run.done ?_
        refine Run.ret ?_
        refine ⟨.bool false, [], Out.one rfl rfl, (Some'.weak (.nil _)), ?_⟩
        show _ = _; simp_all
      · have p19 := h19; try simp only [bs] at p19
        refine Run.skip ?_
        refine Run.seq ?_
        refine Run.seq ?_
        refine Run.region ?_
        refine Run.q (v := .pointer (some ⟨b1, 3, none⟩)) rfl (OpQ.y (OpY.fieldAddr Tfo_56_3 rfl rfl)) ?_
        refine Run.q (v := .int .i64 x3) rfl (OpQ.y (OpY.load1 Tone_3 rfl (Cells.blk (.tail _ (List.Mem.head _)) ⟨rfl, trivial⟩))) ?_
        refine Run.q (v := .pointer (some ⟨b2, 3, none⟩)) rfl (OpQ.y (OpY.fieldAddr Tfo_56_3 rfl rfl)) ?_
        refine Run.q (v := .int .i64 y3) rfl (OpQ.y (OpY.load1 Tone_3 rfl (Cells.blk (.head _) ⟨rfl, trivial⟩))) ?_
        refine Run.q (v := .bool (x3 != y3)) rfl (OpQ.y (OpY.pure rfl)) ?_
        refine Run.done ?_
        refine Run.cond (b := x3 != y3) rfl (fun h24 => ?_) (fun h24 => ?_)
        · have p24 := h24; try simp only [bs] at p24
          refine Run.seq ?_
          refine Run.region ?_
          refine Run.q (v := .bool false) rfl (OpQ.y (OpY.pure rfl)) ?_
          refine Run.done ?_
          refine Run.ret ?_
          refine ⟨.bool false, [], Out.one rfl rfl, (Some'.weak (.nil _)), ?_⟩
          show _ = _; simp_all
        · have p24 := h24; try simp only [bs] at p24
          refine Run.skip ?_
          refine Run.seq ?_
          refine Run.region ?_
          refine Run.q (v := .bool true) rfl (OpQ.y (OpY.pure rfl)) ?_
          refine Run.done ?_
          refine Run.ret ?_
          refine ⟨.bool true, [], Out.one rfl rfl, (Some'.weak (.nil _)), ?_⟩
          show _ = _; simp_all

set_option maxHeartbeats 1000000 in
set_option maxRecDepth 20000 in
theorem eqDyadic_spec (x0 x1 x2 x3 x4 y0 y1 y2 y3 y4 : Int) (w : World) : Calls Try.prog 58 #[.agg #[.int .i64 x0, .int .i64 x1, .int .i64 x2, .int .i64 x3, .int .i64 x4], .agg #[.int .i64 y0, .int .i64 y1, .int .i64 y2, .int .i64 y3, .int .i64 y4]] w (Post No w fun v _ => v = .bool (decide ([x0, x1, x2, x3, x4] = [y0, y1, y2, y3, y4]))) := by
  refine enter (n := 16) (args := [.agg #[.int .i64 x0, .int .i64 x1, .int .i64 x2, .int .i64 x3, .int .i64 x4], .agg #[.int .i64 y0, .int .i64 y1, .int .i64 y2, .int .i64 y3, .int .i64 y4]]) Try.func58 rfl rfl (St.empty _ _) ?_
  refine Run.seq ?_
  refine Run.region ?_
  refine Run.step rfl (OpStep.box (us := [.int .i64 x0, .int .i64 x1, .int .i64 x2, .int .i64 x3, .int .i64 x4]) rfl fun b1 => ?_)
  refine Run.step rfl (OpStep.box (us := [.int .i64 y0, .int .i64 y1, .int .i64 y2, .int .i64 y3, .int .i64 y4]) rfl fun b2 => ?_)
  refine Run.q (v := .bool false) rfl (OpQ.y (OpY.pure rfl)) ?_
  refine Run.done ?_
  refine Run.seq ?_
  refine Run.seq ?_
  refine Run.region ?_
  refine Run.q (v := .pointer (some ⟨b1, 0, none⟩)) rfl (OpQ.y (OpY.fieldAddr Tfo_61_0 rfl rfl)) ?_
  refine Run.q (v := .agg #[.int .i64 x0, .int .i64 x1, .int .i64 x2, .int .i64 x3]) rfl (OpQ.y (OpY.loadN (cs := [.int .i64 x0, .int .i64 x1, .int .i64 x2, .int .i64 x3]) Tagg_56 rfl (Cells.blk (.tail _ (List.Mem.head _)) ⟨rfl, rfl, rfl, rfl, trivial⟩))) ?_
  refine Run.q (v := .pointer (some ⟨b2, 0, none⟩)) rfl (OpQ.y (OpY.fieldAddr Tfo_61_0 rfl rfl)) ?_
  refine Run.q (v := .agg #[.int .i64 y0, .int .i64 y1, .int .i64 y2, .int .i64 y3]) rfl (OpQ.y (OpY.loadN (cs := [.int .i64 y0, .int .i64 y1, .int .i64 y2, .int .i64 y3]) Tagg_56 rfl (Cells.blk (.head _) ⟨rfl, rfl, rfl, rfl, trivial⟩))) ?_
  refine Run.q (v := .bool (decide ([x0, x1, x2, x3] = [y0, y1, y2, y3]))) rfl (OpQ.call (vs := [.agg #[.int .i64 x0, .int .i64 x1, .int .i64 x2, .int .i64 x3], .agg #[.int .i64 y0, .int .i64 y1, .int .i64 y2, .int .i64 y3]]) (caps := []) Tcall_66 rfl rfl (fun w hs => eqRing_spec _ _ _ _ _ _ _ _ w)) ?_
  refine Run.q (v := .bool (!(decide ([x0, x1, x2, x3] = [y0, y1, y2, y3])))) rfl (OpQ.y (OpY.pure rfl)) ?_
  refine Run.done ?_
  refine Run.cond (b := !(decide ([x0, x1, x2, x3] = [y0, y1, y2, y3]))) rfl (fun h10 => ?_) (fun h10 => ?_)
  · have p10 := h10; try simp only [bs] at p10
    refine Run.seq ?_
    refine Run.region ?_
    refine Run.q (v := .bool false) rfl (OpQ.y (OpY.pure rfl)) ?_
    refine Run.done ?_
    refine Run.ret ?_
    refine ⟨.bool false, [], Out.one rfl rfl, (Some'.weak (.nil _)), ?_⟩
    show _ = _; simp_all
  · have p10 := h10; try simp only [bs] at p10
    refine Run.skip ?_
    refine Run.seq ?_
    refine Run.seq ?_
    refine Run.region ?_
    refine Run.q (v := .pointer (some ⟨b1, 4, none⟩)) rfl (OpQ.y (OpY.fieldAddr Tfo_61_1 rfl rfl)) ?_
    refine Run.q (v := .int .i64 x4) rfl (OpQ.y (OpY.load1 Tone_3 rfl (Cells.blk (.tail _ (List.Mem.head _)) ⟨rfl, trivial⟩))) ?_
    refine Run.q (v := .pointer (some ⟨b2, 4, none⟩)) rfl (OpQ.y (OpY.fieldAddr Tfo_61_1 rfl rfl)) ?_
    refine Run.q (v := .int .i64 y4) rfl (OpQ.y (OpY.load1 Tone_3 rfl (Cells.blk (.head _) ⟨rfl, trivial⟩))) ?_
    refine Run.q (v := .bool (x4 != y4)) rfl (OpQ.y (OpY.pure rfl)) ?_
    refine Run.done ?_
    refine Run.cond (b := x4 != y4) rfl (fun h15 => ?_) (fun h15 => ?_)
    · have p15 := h15; try simp only [bs] at p15
      refine Run.seq ?_
      refine Run.region ?_
      refine Run.q (v := .bool false) rfl (OpQ.y (OpY.pure rfl)) ?_
      refine Run.done ?_
      refine Run.ret ?_
      refine ⟨.bool false, [], Out.one rfl rfl, (Some'.weak (.nil _)), ?_⟩
      show _ = _; simp_all
    · have p15 := h15; try simp only [bs] at p15
      refine Run.skip ?_
      refine Run.seq ?_
      refine Run.region ?_
      refine Run.q (v := .bool true) rfl (OpQ.y (OpY.pure rfl)) ?_
      refine Run.done ?_
      refine Run.ret ?_
      refine ⟨.bool true, [], Out.one rfl rfl, (Some'.weak (.nil _)), ?_⟩
      show _ = _; simp_all

set_option maxHeartbeats 1000000 in
set_option maxRecDepth 20000 in
theorem eqDyadicS_spec {va vb : Value} {n m : Nat} {xs ys : List Int} {w : World} (ha : Sl w va 5 n (ints xs)) (hb : Sl w vb 5 m (ints ys)) :
    Calls Try.prog 32 #[va, vb] w (Post No w fun v _ => v = .bool (decide (xs = ys))) := by
  have hxl := ha.len
  have hyl := hb.len
  have hn := ha.le
  obtain ⟨A, c, rfl, _, _⟩ := ha.form0
  obtain ⟨B, d, rfl, _, _⟩ := hb.form0
  refine enter (n := 27) (args := [.slice A n c, .slice B m d]) Try.func32 rfl rfl (St.empty _ _) ?_
  refine Run.seq ?_
  refine Run.region ?_
  refine Run.q (v := .bool false) rfl (OpQ.y (OpY.pure rfl)) ?_
  refine Run.done ?_
  refine Run.seq ?_
  refine Run.seq ?_
  refine Run.region ?_
  refine Run.q (v := .slice A n c) rfl (OpQ.y (OpY.pure rfl)) ?_
  refine Run.q (v := .int .i64 (((n : Nat) : Int))) rfl (OpQ.y (OpY.len Tsl_27 rfl)) ?_
  refine Run.q (v := .slice B m d) rfl (OpQ.y (OpY.pure rfl)) ?_
  refine Run.q (v := .int .i64 (((m : Nat) : Int))) rfl (OpQ.y (OpY.len Tsl_27 rfl)) ?_
  refine Run.q (v := .bool ((((n : Nat) : Int)) != (((m : Nat) : Int)))) rfl (OpQ.y (OpY.pure rfl)) ?_
  refine Run.done ?_
  refine Run.cond (b := (((n : Nat) : Int)) != (((m : Nat) : Int))) rfl (fun h10 => ?_) (fun h10 => ?_)
  · have p10 := h10; try simp only [bs] at p10
    have hne : ¬ xs = ys := by intro e; subst e; simp at h10; omega
    refine Run.seq ?_
    refine Run.region ?_
    refine Run.q (v := .bool false) rfl (OpQ.y (OpY.pure rfl)) ?_
    refine Run.done ?_
    refine Run.ret ?_
    refine ⟨.bool false, [], Out.one rfl rfl, (Some'.weak (.nil _)), ?_⟩
    show _ = _; simp_all
  · have p10 := h10; try simp only [bs] at p10
    have hnm : m = n := by simp at h10; omega
    have hyl2 : ys.length = n * 5 := by rw [hyl, hnm]
    refine Run.skip ?_
    refine Run.seq ?_
    refine Run.seq ?_
    refine Run.region ?_
    refine Run.q (v := .int .i64 0) rfl (OpQ.y (OpY.pure rfl)) ?_
    refine Run.done ?_
    refine Run.block ?_
    refine Run.loop (ι := Nat) [4, 5, 11, 12, 13, 14, 15, 16, 17, 18, 19, 20, 21, 22, 23, 24, 25, 26] (fun k => [(5, .int .i64 (((k : Nat) : Int)))]) (fun k => []) (fun k => k ≤ n ∧ ∀ j, j < k * 5 → ix xs j = ix ys j) (fun k => n - k) 0 ?_ ?_ ?_ ?_
    · exact ⟨Nat.zero_le _, fun j hj => by omega⟩
    · exact ⟨rfl, trivial⟩
    · exact (Some'.weak (.nil _))
    · rintro k fr hinv
      show Run _ _ (over _ _ [(5, .int .i64 (((k : Nat) : Int)))] fr) []
      try dsimp only at hinv
      refine Run.seq ?_
      refine Run.seq ?_
      refine Run.region ?_
      refine Run.q (v := .int .i64 (((k : Nat) : Int))) rfl (OpQ.y (OpY.pure rfl)) ?_
      refine Run.q (v := .slice A n c) rfl (OpQ.y (OpY.pure rfl)) ?_
      refine Run.q (v := .int .i64 (((n : Nat) : Int))) rfl (OpQ.y (OpY.len Tsl_27 rfl)) ?_
      refine Run.q (v := .bool (decide ((((k : Nat) : Int)) < (((n : Nat) : Int))))) rfl (OpQ.y (OpY.pure rfl)) ?_
      refine Run.done ?_
      refine Run.cond (b := decide ((((k : Nat) : Int)) < (((n : Nat) : Int)))) rfl (fun h14 => ?_) (fun h14 => ?_)
      · have p14 := h14; try simp only [bs] at p14
        have hlt : k < n := by simp at h14; omega
        obtain ⟨b, o, rfl⟩ := ha.opn (by omega)
        obtain ⟨b2, o2, rfl⟩ := hb.opn (by omega)
        refine Run.skip ?_
        refine Run.seq ?_
        refine Run.block ?_
        refine Run.seq ?_
        refine Run.draws (by kernel_rfl) (by kernel_rfl) ?_
        refine Lex.q (v := .slice (some ⟨b, o, none⟩) n c) rfl (OpQ.y (OpY.pure rfl)) ?_
        refine Lex.q (v := .int .i64 (((k : Nat) : Int))) rfl (OpQ.y (OpY.pure rfl)) ?_
        refine Lex.q (v := .pointer (some ⟨b, o + k * 5, none⟩)) rfl (OpQ.y (OpY.index (kk := k) Tsl_27 rfl rfl (by omega) (by omega) (by first | rfl | omega))) ?_
        refine Lex.q (v := .agg #[.int .i64 (ix xs (k * 5)), .int .i64 (ix xs (k * 5 + 1)), .int .i64 (ix xs (k * 5 + 2)), .int .i64 (ix xs (k * 5 + 3)), .int .i64 (ix xs (k * 5 + 4))]) rfl (OpQ.y (OpY.loadN (cs := [.int .i64 (ix xs (k * 5)), .int .i64 (ix xs (k * 5 + 1)), .int .i64 (ix xs (k * 5 + 2)), .int .i64 (ix xs (k * 5 + 3)), .int .i64 (ix xs (k * 5 + 4))]) Tagg_61 rfl (Cells.arg (k := k * 5) ha rfl (by omega) (pre5 (by omega))))) ?_
        refine Lex.q (v := .slice (some ⟨b2, o2, none⟩) m d) rfl (OpQ.y (OpY.pure rfl)) ?_
        refine Lex.q (v := .int .i64 (((k : Nat) : Int))) rfl (OpQ.y (OpY.pure rfl)) ?_
        refine Lex.q (v := .pointer (some ⟨b2, o2 + k * 5, none⟩)) rfl (OpQ.y (OpY.index (kk := k) Tsl_27 rfl rfl (by omega) (by omega) (by first | rfl | omega))) ?_
        refine Lex.q (v := .agg #[.int .i64 (ix ys (k * 5)), .int .i64 (ix ys (k * 5 + 1)), .int .i64 (ix ys (k * 5 + 2)), .int .i64 (ix ys (k * 5 + 3)), .int .i64 (ix ys (k * 5 + 4))]) rfl (OpQ.y (OpY.loadN (cs := [.int .i64 (ix ys (k * 5)), .int .i64 (ix ys (k * 5 + 1)), .int .i64 (ix ys (k * 5 + 2)), .int .i64 (ix ys (k * 5 + 3)), .int .i64 (ix ys (k * 5 + 4))]) Tagg_61 rfl (Cells.arg (k := k * 5) hb rfl (by omega) (pre5 (by omega))))) ?_
        refine Lex.q (v := .bool (decide ([ix xs (k * 5), ix xs (k * 5 + 1), ix xs (k * 5 + 2), ix xs (k * 5 + 3), ix xs (k * 5 + 4)] = [ix ys (k * 5), ix ys (k * 5 + 1), ix ys (k * 5 + 2), ix ys (k * 5 + 3), ix ys (k * 5 + 4)]))) rfl (OpQ.call (vs := [.agg #[.int .i64 (ix xs (k * 5)), .int .i64 (ix xs (k * 5 + 1)), .int .i64 (ix xs (k * 5 + 2)), .int .i64 (ix xs (k * 5 + 3)), .int .i64 (ix xs (k * 5 + 4))], .agg #[.int .i64 (ix ys (k * 5)), .int .i64 (ix ys (k * 5 + 1)), .int .i64 (ix ys (k * 5 + 2)), .int .i64 (ix ys (k * 5 + 3)), .int .i64 (ix ys (k * 5 + 4))]]) (caps := []) Tcall_58 rfl rfl (fun w hs => eqDyadic_spec _ _ _ _ _ _ _ _ _ _ w)) ?_
        refine Lex.q (v := .bool (!(decide ([ix xs (k * 5), ix xs (k * 5 + 1), ix xs (k * 5 + 2), ix xs (k * 5 + 3), ix xs (k * 5 + 4)] = [ix ys (k * 5), ix ys (k * 5 + 1), ix ys (k * 5 + 2), ix ys (k * 5 + 3), ix ys (k * 5 + 4)])))) rfl (OpQ.y (OpY.pure rfl)) ?_
        refine Lex.done ?_
        refine Run.cond (b := !(decide ([ix xs (k * 5), ix xs (k * 5 + 1), ix xs (k * 5 + 2), ix xs (k * 5 + 3), ix xs (k * 5 + 4)] = [ix ys (k * 5), ix ys (k * 5 + 1), ix ys (k * 5 + 2), ix ys (k * 5 + 3), ix ys (k * 5 + 4)]))) rfl (fun h26 => ?_) (fun h26 => ?_)
        · have p26 := h26; try simp only [bs] at p26
          have hne : ¬ xs = ys := by intro e; subst e; simp at h26
          refine Run.seq ?_
          refine Run.region ?_
          refine Run.q (v := .bool false) rfl (OpQ.y (OpY.pure rfl)) ?_
          refine Run.done ?_
          refine Run.ret ?_
          refine ⟨.bool false, [], Out.one rfl rfl, (Some'.weak (.nil _)), ?_⟩
          show _ = _; simp_all
        · have p26 := h26; try simp only [bs] at p26
          simp at h26
          refine Run.skip ?_
          refine Run.blockEnd ?_
          refine Run.region ?_
          refine Run.q (v := .int .i64 (((k : Nat) : Int))) rfl (OpQ.y (OpY.pure rfl)) ?_
          refine Run.q (v := .int .i64 ((((k : Nat) : Int)) + 1)) rfl (OpQ.y (OpY.add rfl rfl rfl (by omega) (by omega))) ?_
          refine Run.q (v := .int .i64 ((((k : Nat) : Int)) + 1)) rfl (OpQ.y (OpY.pure rfl)) ?_
          refine Run.done ?_
          refine Run.goal ⟨(by repeat (first | exact Same.refl _ _ | refine Same.put rfl ?_ | refine Same.over rfl rfl ?_)), k + 1, ?_, ?_, ?_, ?_⟩
          · refine ⟨by omega, fun j hj => ?_⟩
            by_cases h : j < k * 5
            · exact hinv.2 j h
            · rcases (by omega : j = k * 5 ∨ j = k * 5 + 1 ∨ j = k * 5 + 2 ∨ j = k * 5 + 3 ∨ j = k * 5 + 4) with rfl | rfl | rfl | rfl | rfl <;> simp [h26]
          · omega
          · exact ⟨(by first | rfl | (congr 1; omega) | simp), trivial⟩
          · exact (Some'.weak (.nil _))
      · have p14 := h14; try simp only [bs] at p14
        have hkn : k = n := by simp at h14; omega
        have heq : xs = ys := list_ext_ix (by omega) fun j hj => hinv.2 j (by omega)
        refine Run.exit rfl ?_
        refine Run.seq ?_
        refine Run.region ?_
        refine Run.q (v := .bool true) rfl (OpQ.y (OpY.pure rfl)) ?_
        refine Run.done ?_
        refine Run.ret ?_
        refine ⟨.bool true, [], Out.one rfl rfl, (Some'.weak (.nil _)), ?_⟩
        show _ = _; simp_all


theorem eqDyadicS_true {va vb : Value} {n m : Nat} {xs ys : List Int} {w : World} (ha : Sl w va 5 n (ints xs)) (hb : Sl w vb 5 m (ints ys)) (he : xs = ys) :
    Calls Try.prog 32 #[va, vb] w (Post No w fun v _ => v = .bool true) :=
  (eqDyadicS_spec ha hb).mono fun _ _ ⟨v, H, h1, h2, h3⟩ => ⟨v, H, h1, h2, by simpa [he] using h3⟩

set_option maxHeartbeats 1000000 in
set_option maxRecDepth 20000 in
theorem markDyadicS_spec {va : Value} {n : Nat} {xs : List Int} {k : Int} {w : World} (ha : (Res.own va 61 5 n (ints xs)).holds w) (h0 : 0 ≤ k) (hk : k + n * 5 < 4611686018427387904) :
    Calls Try.prog 37 #[va, .int .i64 k] w (Post (Of [.own va 61 5 n (ints xs)]) w fun v H => v = .int .i64 (k + n * 5) ∧ H = [.own va 61 5 n (ints (mks k (n * 5)))]) := by
  have hxl : xs.length = n * 5 := by simpa using ha.1
  have hsl := (St.start1 ha).slOwn (.head _)
  have hn := hsl.le
  obtain ⟨A, c0, rfl, _, _⟩ := hsl.form0
  refine enter (n := 52) (args := [.slice A n c0, .int .i64 k]) Try.func37 rfl rfl (St.start1 ha) ?_
  refine Run.seq ?_
  refine Run.region ?_
  refine Run.q (v := .int .i64 0) rfl (OpQ.y (OpY.pure rfl)) ?_
  refine Run.done ?_
  refine Run.seq ?_
  refine Run.seq ?_
  refine Run.region ?_
  refine Run.q (v := .int .i64 0) rfl (OpQ.y (OpY.pure rfl)) ?_
  refine Run.done ?_
  refine Run.block ?_
  refine Run.loop (ι := Nat) [1, 5, 6, 7, 8, 9, 10, 11, 12, 13, 14, 15, 16, 17, 18, 19, 20, 21, 22, 23, 24, 25, 26, 27, 28, 29, 30, 31, 32, 33, 34, 35, 36, 37, 38, 39, 40, 41, 42, 43, 44, 45, 46, 47, 48, 49, 50] (fun i => [(1, .int .i64 (k + ((i * 5 : Nat) : Int))), (5, .int .i64 (((i : Nat) : Int)))]) (fun i => [.own (.slice A n c0) 61 5 n (ints (marked k (i * 5) xs))]) (fun i => i ≤ n) (fun i => n - i) 0 ?_ ?_ ?_ ?_
  · exact Nat.zero_le _
  · exact ⟨(by show Value.int .i64 k = Value.int .i64 _; simp), rfl, trivial⟩
  · exact (Some'.weak (.takeEq (by simp only [Nat.zero_mul, marked_zero]) (.nil _)))
  · rintro i fr hinv
    show Run _ _ (over _ _ [(1, .int .i64 (k + ((i * 5 : Nat) : Int))), (5, .int .i64 (((i : Nat) : Int)))] fr) [.own (.slice A n c0) 61 5 n (ints (marked k (i * 5) xs))]
    try dsimp only at hinv
    refine Run.seq ?_
    refine Run.seq ?_
    refine Run.region ?_
    refine Run.q (v := .int .i64 (((i : Nat) : Int))) rfl (OpQ.y (OpY.pure rfl)) ?_
    refine Run.q (v := .slice A n c0) rfl (OpQ.y (OpY.pure rfl)) ?_
    refine Run.q (v := .int .i64 (((n : Nat) : Int))) rfl (OpQ.y (OpY.len Tsl_27 rfl)) ?_
    refine Run.q (v := .bool (decide ((((i : Nat) : Int)) < (((n : Nat) : Int))))) rfl (OpQ.y (OpY.pure rfl)) ?_
    refine Run.done ?_
    refine Run.cond (b := decide ((((i : Nat) : Int)) < (((n : Nat) : Int)))) rfl (fun h9 => ?_) (fun h9 => ?_)
    · have p9 := h9; try simp only [bs] at p9
      have hlt : i < n := by simp at h9; omega
      refine Run.openOwn (.head _) (by omega) (fun g c hvg hcapg _ => ?_) (fun _ _ _ => ⟨nofun, nofun, nofun⟩)
      injection hvg with hAg _ hcg; subst hAg; subst hcg
      refine Run.skip ?_
      refine Run.seq ?_
      refine Run.block ?_
      refine Run.seq ?_
      refine Run.region ?_
      refine Run.q (v := .slice (some ⟨g, 0, none⟩) n c0) rfl (OpQ.y (OpY.pure rfl)) ?_
      refine Run.q (v := .int .i64 (((i : Nat) : Int))) rfl (OpQ.y (OpY.pure rfl)) ?_
      refine Run.q (v := .int .i64 (k + ((i * 5 : Nat) : Int))) rfl (OpQ.y (OpY.pure rfl)) ?_
      refine Run.q (v := .pointer (some ⟨g, i * 5, none⟩)) rfl (OpQ.y (OpY.index (kk := i) Tsl_27 rfl rfl (by omega) (by omega) (by first | rfl | omega))) ?_
      refine Run.q (v := .pointer (some ⟨g, i * 5, none⟩)) rfl (OpQ.y (OpY.fieldAddr Tfo_61_0 rfl rfl)) ?_
      refine Run.q (v := .pointer (some ⟨g, i * 5, none⟩)) rfl (OpQ.y (OpY.fieldAddr Tfo_56_0 rfl rfl)) ?_
      refine Run.step rfl (OpStep.storeOwnInt (o := i * 5) (a := k + ((i * 5 : Nat) : Int)) Tsize_3 rfl rfl (.here _) (by omega) ?_)
      refine Run.done ?_
      refine Run.seq ?_
      refine Run.region ?_
      refine Run.q (v := .int .i64 (k + ((i * 5 : Nat) : Int))) rfl (OpQ.y (OpY.pure rfl)) ?_
      refine Run.q (v := .int .i64 ((k + ((i * 5 : Nat) : Int)) + 1)) rfl (OpQ.y (OpY.add rfl rfl rfl (by omega) (by omega))) ?_
      refine Run.q (v := .int .i64 ((k + ((i * 5 : Nat) : Int)) + 1)) rfl (OpQ.y (OpY.pure rfl)) ?_
      refine Run.done ?_
      refine Run.seq ?_
      refine Run.region ?_
      refine Run.q (v := .slice (some ⟨g, 0, none⟩) n c0) rfl (OpQ.y (OpY.pure rfl)) ?_
      refine Run.q (v := .int .i64 (((i : Nat) : Int))) rfl (OpQ.y (OpY.pure rfl)) ?_
      refine Run.q (v := .int .i64 ((k + ((i * 5 : Nat) : Int)) + 1)) rfl (OpQ.y (OpY.pure rfl)) ?_
      refine Run.q (v := .pointer (some ⟨g, i * 5, none⟩)) rfl (OpQ.y (OpY.index (kk := i) Tsl_27 rfl rfl (by omega) (by omega) (by first | rfl | omega))) ?_
      refine Run.q (v := .pointer (some ⟨g, i * 5, none⟩)) rfl (OpQ.y (OpY.fieldAddr Tfo_61_0 rfl rfl)) ?_
      refine Run.q (v := .pointer (some ⟨g, i * 5 + 1, none⟩)) rfl (OpQ.y (OpY.fieldAddr Tfo_56_1 rfl rfl)) ?_
      refine Run.step rfl (OpStep.storeOwnInt (o := i * 5 + 1) (a := (k + ((i * 5 : Nat) : Int)) + 1) Tsize_3 rfl rfl (.here _) (by omega) ?_)
      refine Run.done ?_
      refine Run.seq ?_
      refine Run.region ?_
      refine Run.q (v := .int .i64 ((k + ((i * 5 : Nat) : Int)) + 1)) rfl (OpQ.y (OpY.pure rfl)) ?_
      refine Run.q (v := .int .i64 (((k + ((i * 5 : Nat) : Int)) + 1) + 1)) rfl (OpQ.y (OpY.add rfl rfl rfl (by omega) (by omega))) ?_
      refine Run.q (v := .int .i64 (((k + ((i * 5 : Nat) : Int)) + 1) + 1)) rfl (OpQ.y (OpY.pure rfl)) ?_
      refine Run.done ?_
      refine Run.seq ?_
      refine Run.region ?_
      refine Run.q (v := .slice (some ⟨g, 0, none⟩) n c0) rfl (OpQ.y (OpY.pure rfl)) ?_
      refine Run.q (v := .int .i64 (((i : Nat) : Int))) rfl (OpQ.y (OpY.pure rfl)) ?_
      refine Run.q (v := .int .i64 (((k + ((i * 5 : Nat) : Int)) + 1) + 1)) rfl (OpQ.y (OpY.pure rfl)) ?_
      refine Run.q (v := .pointer (some ⟨g, i * 5, none⟩)) rfl (OpQ.y (OpY.index (kk := i) Tsl_27 rfl rfl (by omega) (by omega) (by first | rfl | omega))) ?_
      refine Run.q (v := .pointer (some ⟨g, i * 5, none⟩)) rfl (OpQ.y (OpY.fieldAddr Tfo_61_0 rfl rfl)) ?_
      refine Run.q (v := .pointer (some ⟨g, i * 5 + 2, none⟩)) rfl (OpQ.y (OpY.fieldAddr Tfo_56_2 rfl rfl)) ?_
      refine Run.step rfl (OpStep.storeOwnInt (o := i * 5 + 2) (a := ((k + ((i * 5 : Nat) : Int)) + 1) + 1) Tsize_3 rfl rfl (.here _) (by omega) ?_)
      refine Run.done ?_
      refine Run.seq ?_
      refine Run.region ?_
      refine Run.q (v := .int .i64 (((k + ((i * 5 : Nat) : Int)) + 1) + 1)) rfl (OpQ.y (OpY.pure rfl)) ?_
      refine Run.q (v := .int .i64 ((((k + ((i * 5 : Nat) : Int)) + 1) + 1) + 1)) rfl (OpQ.y (OpY.add rfl rfl rfl (by omega) (by omega))) ?_
      refine Run.q (v := .int .i64 ((((k + ((i * 5 : Nat) : Int)) + 1) + 1) + 1)) rfl (OpQ.y (OpY.pure rfl)) ?_
      refine Run.done ?_
      refine Run.seq ?_
      refine Run.region ?_
      refine Run.q (v := .slice (some ⟨g, 0, none⟩) n c0) rfl (OpQ.y (OpY.pure rfl)) ?_
      refine Run.q (v := .int .i64 (((i : Nat) : Int))) rfl (OpQ.y (OpY.pure rfl)) ?_
      refine Run.q (v := .int .i64 ((((k + ((i * 5 : Nat) : Int)) + 1) + 1) + 1)) rfl (OpQ.y (OpY.pure rfl)) ?_
      refine Run.q (v := .pointer (some ⟨g, i * 5, none⟩)) rfl (OpQ.y (OpY.index (kk := i) Tsl_27 rfl rfl (by omega) (by omega) (by first | rfl | omega))) ?_
      refine Run.q (v := .pointer (some ⟨g, i * 5, none⟩)) rfl (OpQ.y (OpY.fieldAddr Tfo_61_0 rfl rfl)) ?_
      refine Run.q (v := .pointer (some ⟨g, i * 5 + 3, none⟩)) rfl (OpQ.y (OpY.fieldAddr Tfo_56_3 rfl rfl)) ?_
      refine Run.step rfl (OpStep.storeOwnInt (o := i * 5 + 3) (a := (((k + ((i * 5 : Nat) : Int)) + 1) + 1) + 1) Tsize_3 rfl rfl (.here _) (by omega) ?_)
      refine Run.done ?_
      refine Run.seq ?_
      refine Run.region ?_
      refine Run.q (v := .int .i64 ((((k + ((i * 5 : Nat) : Int)) + 1) + 1) + 1)) rfl (OpQ.y (OpY.pure rfl)) ?_
      refine Run.q (v := .int .i64 (((((k + ((i * 5 : Nat) : Int)) + 1) + 1) + 1) + 1)) rfl (OpQ.y (OpY.add rfl rfl rfl (by omega) (by omega))) ?_
      refine Run.q (v := .int .i64 (((((k + ((i * 5 : Nat) : Int)) + 1) + 1) + 1) + 1)) rfl (OpQ.y (OpY.pure rfl)) ?_
      refine Run.done ?_
      refine Run.seq ?_
      refine Run.region ?_
      refine Run.q (v := .slice (some ⟨g, 0, none⟩) n c0) rfl (OpQ.y (OpY.pure rfl)) ?_
      refine Run.q (v := .int .i64 (((i : Nat) : Int))) rfl (OpQ.y (OpY.pure rfl)) ?_
      refine Run.q (v := .int .i64 (((((k + ((i * 5 : Nat) : Int)) + 1) + 1) + 1) + 1)) rfl (OpQ.y (OpY.pure rfl)) ?_
      refine Run.q (v := .pointer (some ⟨g, i * 5, none⟩)) rfl (OpQ.y (OpY.index (kk := i) Tsl_27 rfl rfl (by omega) (by omega) (by first | rfl | omega))) ?_
      refine Run.q (v := .pointer (some ⟨g, i * 5 + 4, none⟩)) rfl (OpQ.y (OpY.fieldAddr Tfo_61_1 rfl rfl)) ?_
      refine Run.step rfl (OpStep.storeOwnInt (o := i * 5 + 4) (a := ((((k + ((i * 5 : Nat) : Int)) + 1) + 1) + 1) + 1) Tsize_3 rfl rfl (.here _) (by omega) ?_)
      refine Run.done ?_
      refine Run.region ?_
      refine Run.q (v := .int .i64 (((((k + ((i * 5 : Nat) : Int)) + 1) + 1) + 1) + 1)) rfl (OpQ.y (OpY.pure rfl)) ?_
      refine Run.q (v := .int .i64 ((((((k + ((i * 5 : Nat) : Int)) + 1) + 1) + 1) + 1) + 1)) rfl (OpQ.y (OpY.add rfl rfl rfl (by omega) (by omega))) ?_
      refine Run.q (v := .int .i64 ((((((k + ((i * 5 : Nat) : Int)) + 1) + 1) + 1) + 1) + 1)) rfl (OpQ.y (OpY.pure rfl)) ?_
      refine Run.done ?_
      refine Run.blockEnd ?_
      refine Run.region ?_
      refine Run.q (v := .int .i64 (((i : Nat) : Int))) rfl (OpQ.y (OpY.pure rfl)) ?_
      refine Run.q (v := .int .i64 ((((i : Nat) : Int)) + 1)) rfl (OpQ.y (OpY.add rfl rfl rfl (by omega) (by omega))) ?_
      refine Run.q (v := .int .i64 ((((i : Nat) : Int)) + 1)) rfl (OpQ.y (OpY.pure rfl)) ?_
      refine Run.done ?_
      refine Run.goal ⟨(by repeat (first | exact Same.refl _ _ | refine Same.put rfl ?_ | refine Same.over rfl rfl ?_)), i + 1, ?_, ?_, ?_, ?_⟩
      · omega
      · omega
      · exact ⟨(by show Value.int _ _ = Value.int _ _; congr 1; omega), rfl, trivial⟩
      · exact (Some'.weak (.takeEq (congrArg (fun z => Res.own _ _ _ _ (ints z)) (marked_set5 (by omega) (by omega) (by omega) (by omega) (by omega) (by omega))) (.nil _)))
    · have p9 := h9; try simp only [bs] at p9
      have hkn : i = n := by simp at h9; omega
      refine Run.exit rfl ?_
      refine Run.seq ?_
      refine Run.region ?_
      refine Run.q (v := .int .i64 (k + ((i * 5 : Nat) : Int))) rfl (OpQ.y (OpY.pure rfl)) ?_
      refine Run.q (v := .int .i64 (k + ((i * 5 : Nat) : Int))) rfl (OpQ.y (OpY.pure rfl)) ?_
      refine Run.done ?_
      refine Run.ret ?_
      refine ⟨.int .i64 (k + ((i * 5 : Nat) : Int)), [.own (.slice A n c0) 61 5 n (ints (mks k (n * 5)))], Out.one rfl rfl, (Some'.weak (.takeEq (by subst hkn; rw [marked_all hxl]) (.nil _))), ?_⟩
      exact ⟨by subst hkn; simp, rfl⟩

set_option maxHeartbeats 1000000 in
set_option maxRecDepth 20000 in
theorem heldDyadicS_spec {va : Value} {n : Nat} {xs : List Int} {k : Int} {w : World} (ha : Sl w va 5 n (ints xs)) (h0 : 0 ≤ k) (hk : k + n * 5 < 4611686018427387904) :
    Calls Try.prog 38 #[va, .int .i64 k] w (Post No w fun v _ => v = .int .i64 (if xs = mks k (n * 5) then k + n * 5 else -1)) := by
  have hxl := ha.len
  have hn := ha.le
  obtain ⟨A, c, rfl, _, _⟩ := ha.form0
  refine enter (n := 62) (args := [.slice A n c, .int .i64 k]) Try.func38 rfl rfl (St.empty _ _) ?_
  refine Run.seq ?_
  refine Run.region ?_
  refine Run.q (v := .int .i64 0) rfl (OpQ.y (OpY.pure rfl)) ?_
  refine Run.done ?_
  refine Run.seq ?_
  refine Run.seq ?_
  refine Run.region ?_
  refine Run.q (v := .int .i64 0) rfl (OpQ.y (OpY.pure rfl)) ?_
  refine Run.done ?_
  refine Run.block ?_
  refine Run.loop (ι := Nat) ([1, 4, 5, 6, 7, 8, 9, 10, 11, 12, 13, 14, 15, 16, 17, 18, 19, 20, 21, 22, 23, 24, 25, 26, 27, 28, 29, 30, 31, 32, 33, 34, 35, 36, 37, 38, 39, 40, 41, 42, 43, 44, 45, 46, 47, 48, 49, 50, 51, 52] ++ [53, 54, 55, 56, 57, 58, 59, 60]) (fun i => [(1, .int .i64 (k + ((i * 5 : Nat) : Int))), (5, .int .i64 (((i : Nat) : Int)))]) (fun i => []) (fun i => i ≤ n ∧ ∀ j, j < i * 5 → ix xs j = k + j) (fun i => n - i) 0 ?_ ?_ ?_ ?_
  · exact ⟨Nat.zero_le _, fun j hj => by omega⟩
  · exact ⟨(by show Value.int .i64 k = Value.int .i64 _; simp), rfl, trivial⟩
  · exact (Some'.weak (.nil _))
  · rintro i fr hinv
    show Run _ _ (over _ _ [(1, .int .i64 (k + ((i * 5 : Nat) : Int))), (5, .int .i64 (((i : Nat) : Int)))] fr) []
    try dsimp only at hinv
    refine Run.seq ?_
    refine Run.seq ?_
    refine Run.region ?_
    refine Run.q (v := .int .i64 (((i : Nat) : Int))) rfl (OpQ.y (OpY.pure rfl)) ?_
    refine Run.q (v := .slice A n c) rfl (OpQ.y (OpY.pure rfl)) ?_
    refine Run.q (v := .int .i64 (((n : Nat) : Int))) rfl (OpQ.y (OpY.len Tsl_27 rfl)) ?_
    refine Run.q (v := .bool (decide ((((i : Nat) : Int)) < (((n : Nat) : Int))))) rfl (OpQ.y (OpY.pure rfl)) ?_
    refine Run.done ?_
    refine Run.cond (b := decide ((((i : Nat) : Int)) < (((n : Nat) : Int)))) rfl (fun h9 => ?_) (fun h9 => ?_)
    · have p9 := h9; try simp only [bs] at p9
      have hlt : i < n := by simp at h9; omega
      obtain ⟨b, o, rfl⟩ := ha.opn (by omega)
      refine Run.skip ?_
      refine Run.seq ?_
      refine Run.block ?_
      refine Run.seq ?_
      refine Run.seq ?_
      refine Run.region ?_
      refine Run.q (v := .slice (some ⟨b, o, none⟩) n c) rfl (OpQ.y (OpY.pure rfl)) ?_
      refine Run.q (v := .int .i64 (((i : Nat) : Int))) rfl (OpQ.y (OpY.pure rfl)) ?_
      refine Run.q (v := .pointer (some ⟨b, o + i * 5, none⟩)) rfl (OpQ.y (OpY.index (kk := i) Tsl_27 rfl rfl (by omega) (by omega) (by first | rfl | omega))) ?_
      refine Run.q (v := .pointer (some ⟨b, o + i * 5, none⟩)) rfl (OpQ.y (OpY.fieldAddr Tfo_61_0 rfl rfl)) ?_
      refine Run.q (v := .pointer (some ⟨b, o + i * 5, none⟩)) rfl (OpQ.y (OpY.fieldAddr Tfo_56_0 rfl rfl)) ?_
      refine Run.q (v := .int .i64 (ix xs (i * 5))) rfl (OpQ.y (OpY.load1 Tone_3 rfl (Cells.arg (k := i * 5) ha rfl (by omega) (pre1 (by omega))))) ?_
      refine Run.q (v := .int .i64 (k + ((i * 5 : Nat) : Int))) rfl (OpQ.y (OpY.pure rfl)) ?_
      refine Run.q (v := .bool ((ix xs (i * 5)) != (k + ((i * 5 : Nat) : Int)))) rfl (OpQ.y (OpY.pure rfl)) ?_
      refine Run.done ?_
      refine Run.cond (b := (ix xs (i * 5)) != (k + ((i * 5 : Nat) : Int))) rfl (fun h19 => ?_) (fun h19 => ?_)
      · have p19 := h19; try simp only [bs] at p19
        have hne : ¬ xs = mks k (n * 5) := by
          intro e; subst e
          have e1 := ix_mks (k := k) (m := n * 5) (j := i * 5) (by omega)
          rw [e1, bne_iff_ne] at h19; apply h19; omega
        refine Run.seq ?_
        refine Run.region ?_
        refine Run.q (v := .int .i64 (-1)) rfl (OpQ.y (OpY.pure rfl)) ?_
        refine Run.done ?_
        refine Run.ret ?_
        refine ⟨.int .i64 (-1), [], Out.one rfl rfl, (Some'.weak (.nil _)), ?_⟩
        show _ = _; first | (rw [if_pos heq]; congr 1; omega) | rw [if_neg hne]
      · have p19 := h19; try simp only [bs] at p19
        refine Run.skip ?_
        refine Run.seq ?_
        refine Run.region ?_
        refine Run.q (v := .int .i64 (k + ((i * 5 : Nat) : Int))) rfl (OpQ.y (OpY.pure rfl)) ?_
        refine Run.q (v := .int .i64 ((k + ((i * 5 : Nat) : Int)) + 1)) rfl (OpQ.y (OpY.add rfl rfl rfl (by omega) (by omega))) ?_
        refine Run.q (v := .int .i64 ((k + ((i * 5 : Nat) : Int)) + 1)) rfl (OpQ.y (OpY.pure rfl)) ?_
        refine Run.done ?_
        refine Run.seq ?_
        refine Run.seq ?_
        refine Run.region ?_
        refine Run.q (v := .slice (some ⟨b, o, none⟩) n c) rfl (OpQ.y (OpY.pure rfl)) ?_
        refine Run.q (v := .int .i64 (((i : Nat) : Int))) rfl (OpQ.y (OpY.pure rfl)) ?_
        refine Run.q (v := .pointer (some ⟨b, o + i * 5, none⟩)) rfl (OpQ.y (OpY.index (kk := i) Tsl_27 rfl rfl (by omega) (by omega) (by first | rfl | omega))) ?_
        refine Run.q (v := .pointer (some ⟨b, o + i * 5, none⟩)) rfl (OpQ.y (OpY.fieldAddr Tfo_61_0 rfl rfl)) ?_
        refine Run.q (v := .pointer (some ⟨b, o + i * 5 + 1, none⟩)) rfl (OpQ.y (OpY.fieldAddr Tfo_56_1 rfl rfl)) ?_
        refine Run.q (v := .int .i64 (ix xs (i * 5 + 1))) rfl (OpQ.y (OpY.load1 Tone_3 rfl (Cells.arg (k := i * 5 + 1) ha rfl (by omega) (pre1 (by omega))))) ?_
        refine Run.q (v := .int .i64 ((k + ((i * 5 : Nat) : Int)) + 1)) rfl (OpQ.y (OpY.pure rfl)) ?_
        refine Run.q (v := .bool ((ix xs (i * 5 + 1)) != ((k + ((i * 5 : Nat) : Int)) + 1))) rfl (OpQ.y (OpY.pure rfl)) ?_
        refine Run.done ?_
        refine Run.cond (b := (ix xs (i * 5 + 1)) != ((k + ((i * 5 : Nat) : Int)) + 1)) rfl (fun h29 => ?_) (fun h29 => ?_)
        · have p29 := h29; try simp only [bs] at p29
          have hne : ¬ xs = mks k (n * 5) := by
            intro e; subst e
            have e1 := ix_mks (k := k) (m := n * 5) (j := i * 5 + 1) (by omega)
            rw [e1, bne_iff_ne] at h29; apply h29; omega
          refine Run.seq ?_
          refine Run.region ?_
          refine Run.q (v := .int .i64 (-1)) rfl (OpQ.y (OpY.pure rfl)) ?_
          refine Run.done ?_
          refine Run.ret ?_
          refine ⟨.int .i64 (-1), [], Out.one rfl rfl, (Some'.weak (.nil _)), ?_⟩
          show _ = _; first | (rw [if_pos heq]; congr 1; omega) | rw [if_neg hne]
        · have p29 := h29; try simp only [bs] at p29
          refine Run.skip ?_
          refine Run.seq ?_
          refine Run.region ?_
          refine Run.q (v := .int .i64 ((k + ((i * 5 : Nat) : Int)) + 1)) rfl (OpQ.y (OpY.pure rfl)) ?_
          refine Run.q (v := .int .i64 (((k + ((i * 5 : Nat) : Int)) + 1) + 1)) rfl (OpQ.y (OpY.add rfl rfl rfl (by omega) (by omega))) ?_
          refine Run.q (v := .int .i64 (((k + ((i * 5 : Nat) : Int)) + 1) + 1)) rfl (OpQ.y (OpY.pure rfl)) ?_
          refine Run.done ?_
          refine Run.seq ?_
          refine Run.seq ?_
          refine Run.region ?_
          refine Run.q (v := .slice (some ⟨b, o, none⟩) n c) rfl (OpQ.y (OpY.pure rfl)) ?_
          refine Run.q (v := .int .i64 (((i : Nat) : Int))) rfl (OpQ.y (OpY.pure rfl)) ?_
          refine Run.q (v := .pointer (some ⟨b, o + i * 5, none⟩)) rfl (OpQ.y (OpY.index (kk := i) Tsl_27 rfl rfl (by omega) (by omega) (by first | rfl | omega))) ?_
          refine Run.q (v := .pointer (some ⟨b, o + i * 5, none⟩)) rfl (OpQ.y (OpY.fieldAddr Tfo_61_0 rfl rfl)) ?_
          refine Run.q (v := .pointer (some ⟨b, o + i * 5 + 2, none⟩)) rfl (OpQ.y (OpY.fieldAddr Tfo_56_2 rfl rfl)) ?_
          refine Run.q (v := .int .i64 (ix xs (i * 5 + 2))) rfl (OpQ.y (OpY.load1 Tone_3 rfl (Cells.arg (k := i * 5 + 2) ha rfl (by omega) (pre1 (by omega))))) ?_
          refine Run.q (v := .int .i64 (((k + ((i * 5 : Nat) : Int)) + 1) + 1)) rfl (OpQ.y (OpY.pure rfl)) ?_
          refine Run.q (v := .bool ((ix xs (i * 5 + 2)) != (((k + ((i * 5 : Nat) : Int)) + 1) + 1))) rfl (OpQ.y (OpY.pure rfl)) ?_
          refine Run.done ?_
          refine Run.cond (b := (ix xs (i * 5 + 2)) != (((k + ((i * 5 : Nat) : Int)) + 1) + 1)) rfl (fun h39 => ?_) (fun h39 => ?_)
          · have p39 := h39; try simp only [bs] at p39
            have hne : ¬ xs = mks k (n * 5) := by
              intro e; subst e
              have e1 := ix_mks (k := k) (m := n * 5) (j := i * 5 + 2) (by omega)
              rw [e1, bne_iff_ne] at h39; apply h39; omega
            refine Run.seq ?_
            refine Run.region ?_
            refine Run.q (v := .int .i64 (-1)) rfl (OpQ.y (OpY.pure rfl)) ?_
            refine Run.done ?_
            refine Run.ret ?_
            refine ⟨.int .i64 (-1), [], Out.one rfl rfl, (Some'.weak (.nil _)), ?_⟩
            show _ = _; first | (rw [if_pos heq]; congr 1; omega) | rw [if_neg hne]
          · have p39 := h39; try simp only [bs] at p39
            refine Run.skip ?_
            refine Run.seq ?_
            refine Run.region ?_
            refine Run.q (v := .int .i64 (((k + ((i * 5 : Nat) : Int)) + 1) + 1)) rfl (OpQ.y (OpY.pure rfl)) ?_
            refine Run.q (v := .int .i64 ((((k + ((i * 5 : Nat) : Int)) + 1) + 1) + 1)) rfl (OpQ.y (OpY.add rfl rfl rfl (by omega) (by omega))) ?_
            refine Run.q (v := .int .i64 ((((k + ((i * 5 : Nat) : Int)) + 1) + 1) + 1)) rfl (OpQ.y (OpY.pure rfl)) ?_
            refine Run.done ?_
            refine Run.seq ?_
            refine Run.seq ?_
            refine Run.region ?_
            refine Run.q (v := .slice (some ⟨b, o, none⟩) n c) rfl (OpQ.y (OpY.pure rfl)) ?_
            refine Run.q (v := .int .i64 (((i : Nat) : Int))) rfl (OpQ.y (OpY.pure rfl)) ?_
            refine Run.q (v := .pointer (some ⟨b, o + i * 5, none⟩)) rfl (OpQ.y (OpY.index (kk := i) Tsl_27 rfl rfl (by omega) (by omega) (by first | rfl | omega))) ?_
            refine Run.q (v := .pointer (some ⟨b, o + i * 5, none⟩)) rfl (OpQ.y (OpY.fieldAddr Tfo_61_0 rfl rfl)) ?_
            refine Run.q (v := .pointer (some ⟨b, o + i * 5 + 3, none⟩)) rfl (OpQ.y (OpY.fieldAddr Tfo_56_3 rfl rfl)) ?_
            refine Run.q (v := .int .i64 (ix xs (i * 5 + 3))) rfl (OpQ.y (OpY.load1 Tone_3 rfl (Cells.arg (k := i * 5 + 3) ha rfl (by omega) (pre1 (by omega))))) ?_
            refine Run.q (v := .int .i64 ((((k + ((i * 5 : Nat) : Int)) + 1) + 1) + 1)) rfl (OpQ.y (OpY.pure rfl)) ?_
            refine Run.q (v := .bool ((ix xs (i * 5 + 3)) != ((((k + ((i * 5 : Nat) : Int)) + 1) + 1) + 1))) rfl (OpQ.y (OpY.pure rfl)) ?_
            refine Run.done ?_
            refine Run.cond (b := (ix xs (i * 5 + 3)) != ((((k + ((i * 5 : Nat) : Int)) + 1) + 1) + 1)) rfl (fun h49 => ?_) (fun h49 => ?_)
            · have p49 := h49; try simp only [bs] at p49
              have hne : ¬ xs = mks k (n * 5) := by
                intro e; subst e
                have e1 := ix_mks (k := k) (m := n * 5) (j := i * 5 + 3) (by omega)
                rw [e1, bne_iff_ne] at h49; apply h49; omega
              refine Run.seq ?_
              refine Run.region ?_
              refine Run.q (v := .int .i64 (-1)) rfl (OpQ.y (OpY.pure rfl)) ?_
              refine Run.done ?_
              refine Run.ret ?_
              refine ⟨.int .i64 (-1), [], Out.one rfl rfl, (Some'.weak (.nil _)), ?_⟩
              show _ = _; first | (rw [if_pos heq]; congr 1; omega) | rw [if_neg hne]
            · have p49 := h49; try simp only [bs] at p49
              refine Run.skip ?_
              refine Run.seq ?_
              refine Run.region ?_
              refine Run.q (v := .int .i64 ((((k + ((i * 5 : Nat) : Int)) + 1) + 1) + 1)) rfl (OpQ.y (OpY.pure rfl)) ?_
              refine Run.q (v := .int .i64 (((((k + ((i * 5 : Nat) : Int)) + 1) + 1) + 1) + 1)) rfl (OpQ.y (OpY.add rfl rfl rfl (by omega) (by omega))) ?_
              refine Run.q (v := .int .i64 (((((k + ((i * 5 : Nat) : Int)) + 1) + 1) + 1) + 1)) rfl (OpQ.y (OpY.pure rfl)) ?_
              refine Run.done ?_
              refine Run.seq ?_
              refine Run.seq ?_
              refine Run.region ?_
              refine Run.q (v := .slice (some ⟨b, o, none⟩) n c) rfl (OpQ.y (OpY.pure rfl)) ?_
              refine Run.q (v := .int .i64 (((i : Nat) : Int))) rfl (OpQ.y (OpY.pure rfl)) ?_
              refine Run.q (v := .pointer (some ⟨b, o + i * 5, none⟩)) rfl (OpQ.y (OpY.index (kk := i) Tsl_27 rfl rfl (by omega) (by omega) (by first | rfl | omega))) ?_
              refine Run.q (v := .pointer (some ⟨b, o + i * 5 + 4, none⟩)) rfl (OpQ.y (OpY.fieldAddr Tfo_61_1 rfl rfl)) ?_
              refine Run.q (v := .int .i64 (ix xs (i * 5 + 4))) rfl (OpQ.y (OpY.load1 Tone_3 rfl (Cells.arg (k := i * 5 + 4) ha rfl (by omega) (pre1 (by omega))))) ?_
              refine Run.q (v := .int .i64 (((((k + ((i * 5 : Nat) : Int)) + 1) + 1) + 1) + 1)) rfl (OpQ.y (OpY.pure rfl)) ?_
              refine Run.q (v := .bool ((ix xs (i * 5 + 4)) != (((((k + ((i * 5 : Nat) : Int)) + 1) + 1) + 1) + 1))) rfl (OpQ.y (OpY.pure rfl)) ?_
              refine Run.done ?_
              refine Run.cond (b := (ix xs (i * 5 + 4)) != (((((k + ((i * 5 : Nat) : Int)) + 1) + 1) + 1) + 1)) rfl (fun h58 => ?_) (fun h58 => ?_)
              · have p58 := h58; try simp only [bs] at p58
                have hne : ¬ xs = mks k (n * 5) := by
                  intro e; subst e
                  have e1 := ix_mks (k := k) (m := n * 5) (j := i * 5 + 4) (by omega)
                  rw [e1, bne_iff_ne] at h58; apply h58; omega
                refine Run.seq ?_
                refine Run.region ?_
                refine Run.q (v := .int .i64 (-1)) rfl (OpQ.y (OpY.pure rfl)) ?_
                refine Run.done ?_
                refine Run.ret ?_
                refine ⟨.int .i64 (-1), [], Out.one rfl rfl, (Some'.weak (.nil _)), ?_⟩
                show _ = _; first | (rw [if_pos heq]; congr 1; omega) | rw [if_neg hne]
              · have p58 := h58; try simp only [bs] at p58
                refine Run.skip ?_
                refine Run.region ?_
                refine Run.q (v := .int .i64 (((((k + ((i * 5 : Nat) : Int)) + 1) + 1) + 1) + 1)) rfl (OpQ.y (OpY.pure rfl)) ?_
                refine Run.q (v := .int .i64 ((((((k + ((i * 5 : Nat) : Int)) + 1) + 1) + 1) + 1) + 1)) rfl (OpQ.y (OpY.add rfl rfl rfl (by omega) (by omega))) ?_
                refine Run.q (v := .int .i64 ((((((k + ((i * 5 : Nat) : Int)) + 1) + 1) + 1) + 1) + 1)) rfl (OpQ.y (OpY.pure rfl)) ?_
                refine Run.done ?_
                refine Run.blockEnd ?_
                refine Run.region ?_
                refine Run.q (v := .int .i64 (((i : Nat) : Int))) rfl (OpQ.y (OpY.pure rfl)) ?_
                refine Run.q (v := .int .i64 ((((i : Nat) : Int)) + 1)) rfl (OpQ.y (OpY.add rfl rfl rfl (by omega) (by omega))) ?_
                refine Run.q (v := .int .i64 ((((i : Nat) : Int)) + 1)) rfl (OpQ.y (OpY.pure rfl)) ?_
                refine Run.done ?_
                refine Run.goal ⟨(by repeat (first | exact Same.refl _ _ | refine Same.put rfl ?_ | refine Same.over rfl rfl ?_)), i + 1, ?_, ?_, ?_, ?_⟩
                · refine ⟨by omega, fun j hj => ?_⟩
                  by_cases h : j < i * 5
                  · exact hinv.2 j h
                  · simp only [bne_eq_false_iff_eq] at h19 h29 h39 h49 h58
                    rcases (by omega : j = i * 5 ∨ j = i * 5 + 1 ∨ j = i * 5 + 2 ∨ j = i * 5 + 3 ∨ j = i * 5 + 4) with rfl | rfl | rfl | rfl | rfl <;> omega
                · omega
                · exact ⟨(by show Value.int _ _ = Value.int _ _; congr 1; omega), rfl, trivial⟩
                · exact (Some'.weak (.nil _))
    · have p9 := h9; try simp only [bs] at p9
      have hkn : i = n := by simp at h9; omega
      have heq : xs = mks k (n * 5) := eq_mks hxl fun j hj => hinv.2 j (by omega)
      refine Run.exit rfl ?_
      refine Run.seq ?_
      refine Run.region ?_
      refine Run.q (v := .int .i64 (k + ((i * 5 : Nat) : Int))) rfl (OpQ.y (OpY.pure rfl)) ?_
      refine Run.q (v := .int .i64 (k + ((i * 5 : Nat) : Int))) rfl (OpQ.y (OpY.pure rfl)) ?_
      refine Run.done ?_
      refine Run.ret ?_
      refine ⟨.int .i64 (k + ((i * 5 : Nat) : Int)), [], Out.one rfl rfl, (Some'.weak (.nil _)), ?_⟩
      show _ = _; first | (rw [if_pos heq]; congr 1; omega) | rw [if_neg hne]


theorem heldDyadicS_true {va : Value} {n : Nat} {xs : List Int} {k : Int} {w : World} (ha : Sl w va 5 n (ints xs)) (h0 : 0 ≤ k) (hk : k + n * 5 < 4611686018427387904) (he : xs = mks k (n * 5)) :
    Calls Try.prog 38 #[va, .int .i64 k] w (Post No w fun v _ => v = .int .i64 (k + n * 5)) :=
  (heldDyadicS_spec ha h0 hk).mono fun _ _ ⟨v, H, h1, h2, h3⟩ => ⟨v, H, h1, h2, by simpa [he] using h3⟩

set_option maxHeartbeats 1000000 in
set_option maxRecDepth 20000 in
theorem markTermS_spec {va : Value} {n : Nat} {xs : List Int} {k : Int} {w : World} (ha : (Res.own va 51 2 n (ints xs)).holds w) (h0 : 0 ≤ k) (hk : k + n * 2 < 4611686018427387904) :
    Calls Try.prog 35 #[va, .int .i64 k] w (Post (Of [.own va 51 2 n (ints xs)]) w fun v H => v = .int .i64 (k + n * 2) ∧ H = [.own va 51 2 n (ints (mks k (n * 2)))]) := by
  have hxl : xs.length = n * 2 := by simpa using ha.1
  have hsl := (St.start1 ha).slOwn (.head _)
  have hn := hsl.le
  obtain ⟨A, c0, rfl, _, _⟩ := hsl.form0
  refine enter (n := 27) (args := [.slice A n c0, .int .i64 k]) Try.func35 rfl rfl (St.start1 ha) ?_
  refine Run.seq ?_
  refine Run.region ?_
  refine Run.q (v := .int .i64 0) rfl (OpQ.y (OpY.pure rfl)) ?_
  refine Run.done ?_
  refine Run.seq ?_
  refine Run.seq ?_
  refine Run.region ?_
  refine Run.q (v := .int .i64 0) rfl (OpQ.y (OpY.pure rfl)) ?_
  refine Run.done ?_
  refine Run.block ?_
  refine Run.loop (ι := Nat) [1, 5, 6, 7, 8, 9, 10, 11, 12, 13, 14, 15, 16, 17, 18, 19, 20, 21, 22, 23, 24, 25] (fun i => [(1, .int .i64 (k + ((i * 2 : Nat) : Int))), (5, .int .i64 (((i : Nat) : Int)))]) (fun i => [.own (.slice A n c0) 51 2 n (ints (marked k (i * 2) xs))]) (fun i => i ≤ n) (fun i => n - i) 0 ?_ ?_ ?_ ?_
  · exact Nat.zero_le _
  · exact ⟨(by show Value.int .i64 k = Value.int .i64 _; simp), rfl, trivial⟩
  · exact (Some'.weak (.takeEq (by simp only [Nat.zero_mul, marked_zero]) (.nil _)))
  · rintro i fr hinv
    show Run _ _ (over _ _ [(1, .int .i64 (k + ((i * 2 : Nat) : Int))), (5, .int .i64 (((i : Nat) : Int)))] fr) [.own (.slice A n c0) 51 2 n (ints (marked k (i * 2) xs))]
    try dsimp only at hinv
    refine Run.seq ?_
    refine Run.seq ?_
    refine Run.region ?_
    refine Run.q (v := .int .i64 (((i : Nat) : Int))) rfl (OpQ.y (OpY.pure rfl)) ?_
    refine Run.q (v := .slice A n c0) rfl (OpQ.y (OpY.pure rfl)) ?_
    refine Run.q (v := .int .i64 (((n : Nat) : Int))) rfl (OpQ.y (OpY.len Tsl_32 rfl)) ?_
    refine Run.q (v := .bool (decide ((((i : Nat) : Int)) < (((n : Nat) : Int))))) rfl (OpQ.y (OpY.pure rfl)) ?_
    refine Run.done ?_
    refine Run.cond (b := decide ((((i : Nat) : Int)) < (((n : Nat) : Int)))) rfl (fun h9 => ?_) (fun h9 => ?_)
    · have p9 := h9; try simp only [bs] at p9
      have hlt : i < n := by simp at h9; omega
      refine Run.openOwn (.head _) (by omega) (fun g c hvg hcapg _ => ?_) (fun _ _ _ => ⟨nofun, nofun, nofun⟩)
      injection hvg with hAg _ hcg; subst hAg; subst hcg
      refine Run.skip ?_
      refine Run.seq ?_
      refine Run.block ?_
      refine Run.seq ?_
      refine Run.region ?_
      refine Run.q (v := .slice (some ⟨g, 0, none⟩) n c0) rfl (OpQ.y (OpY.pure rfl)) ?_
      refine Run.q (v := .int .i64 (((i : Nat) : Int))) rfl (OpQ.y (OpY.pure rfl)) ?_
      refine Run.q (v := .int .i64 (k + ((i * 2 : Nat) : Int))) rfl (OpQ.y (OpY.pure rfl)) ?_
      refine Run.q (v := .pointer (some ⟨g, i * 2, none⟩)) rfl (OpQ.y (OpY.index (kk := i) Tsl_32 rfl rfl (by omega) (by omega) (by first | rfl | omega))) ?_
      refine Run.q (v := .pointer (some ⟨g, i * 2, none⟩)) rfl (OpQ.y (OpY.fieldAddr Tfo_51_0 rfl rfl)) ?_
      refine Run.step rfl (OpStep.storeOwnInt (o := i * 2) (a := k + ((i * 2 : Nat) : Int)) Tsize_3 rfl rfl (.here _) (by omega) ?_)
      refine Run.done ?_
      refine Run.seq ?_
      refine Run.region ?_
      refine Run.q (v := .int .i64 (k + ((i * 2 : Nat) : Int))) rfl (OpQ.y (OpY.pure rfl)) ?_
      refine Run.q (v := .int .i64 ((k + ((i * 2 : Nat) : Int)) + 1)) rfl (OpQ.y (OpY.add rfl rfl rfl (by omega) (by omega))) ?_
      refine Run.q (v := .int .i64 ((k + ((i * 2 : Nat) : Int)) + 1)) rfl (OpQ.y (OpY.pure rfl)) ?_
      refine Run.done ?_
      refine Run.seq ?_
      refine Run.region ?_
      refine Run.q (v := .slice (some ⟨g, 0, none⟩) n c0) rfl (OpQ.y (OpY.pure rfl)) ?_
      refine Run.q (v := .int .i64 (((i : Nat) : Int))) rfl (OpQ.y (OpY.pure rfl)) ?_
      refine Run.q (v := .int .i64 ((k + ((i * 2 : Nat) : Int)) + 1)) rfl (OpQ.y (OpY.pure rfl)) ?_
      refine Run.q (v := .pointer (some ⟨g, i * 2, none⟩)) rfl (OpQ.y (OpY.index (kk := i) Tsl_32 rfl rfl (by omega) (by omega) (by first | rfl | omega))) ?_
      refine Run.q (v := .pointer (some ⟨g, i * 2 + 1, none⟩)) rfl (OpQ.y (OpY.fieldAddr Tfo_51_1 rfl rfl)) ?_
      refine Run.step rfl (OpStep.storeOwnInt (o := i * 2 + 1) (a := (k + ((i * 2 : Nat) : Int)) + 1) Tsize_3 rfl rfl (.here _) (by omega) ?_)
      refine Run.done ?_
      refine Run.region ?_
      refine Run.q (v := .int .i64 ((k + ((i * 2 : Nat) : Int)) + 1)) rfl (OpQ.y (OpY.pure rfl)) ?_
      refine Run.q (v := .int .i64 (((k + ((i * 2 : Nat) : Int)) + 1) + 1)) rfl (OpQ.y (OpY.add rfl rfl rfl (by omega) (by omega))) ?_
      refine Run.q (v := .int .i64 (((k + ((i * 2 : Nat) : Int)) + 1) + 1)) rfl (OpQ.y (OpY.pure rfl)) ?_
      refine Run.done ?_
      refine Run.blockEnd ?_
      refine Run.region ?_
      refine Run.q (v := .int .i64 (((i : Nat) : Int))) rfl (OpQ.y (OpY.pure rfl)) ?_
      refine Run.q (v := .int .i64 ((((i : Nat) : Int)) + 1)) rfl (OpQ.y (OpY.add rfl rfl rfl (by omega) (by omega))) ?_
      refine Run.q (v := .int .i64 ((((i : Nat) : Int)) + 1)) rfl (OpQ.y (OpY.pure rfl)) ?_
      refine Run.done ?_
      refine Run.goal ⟨(by repeat (first | exact Same.refl _ _ | refine Same.put rfl ?_ | refine Same.over rfl rfl ?_)), i + 1, ?_, ?_, ?_, ?_⟩
      · omega
      · omega
      · exact ⟨(by show Value.int _ _ = Value.int _ _; congr 1; omega), rfl, trivial⟩
      · exact (Some'.weak (.takeEq (congrArg (fun z => Res.own _ _ _ _ (ints z)) (marked_set2 (by omega) (by omega) (by omega))) (.nil _)))
    · have p9 := h9; try simp only [bs] at p9
      have hkn : i = n := by simp at h9; omega
      refine Run.exit rfl ?_
      refine Run.seq ?_
      refine Run.region ?_
      refine Run.q (v := .int .i64 (k + ((i * 2 : Nat) : Int))) rfl (OpQ.y (OpY.pure rfl)) ?_
      refine Run.q (v := .int .i64 (k + ((i * 2 : Nat) : Int))) rfl (OpQ.y (OpY.pure rfl)) ?_
      refine Run.done ?_
      refine Run.ret ?_
      refine ⟨.int .i64 (k + ((i * 2 : Nat) : Int)), [.own (.slice A n c0) 51 2 n (ints (mks k (n * 2)))], Out.one rfl rfl, (Some'.weak (.takeEq (by subst hkn; rw [marked_all hxl]) (.nil _))), ?_⟩
      exact ⟨by subst hkn; simp, rfl⟩

set_option maxHeartbeats 1000000 in
set_option maxRecDepth 20000 in
theorem markAffineS_spec {va : Value} {n : Nat} {xs : List Int} {k : Int} {w : World} (ha : (Res.own va 54 2 n (ints xs)).holds w) (h0 : 0 ≤ k) (hk : k + n * 2 < 4611686018427387904) :
    Calls Try.prog 36 #[va, .int .i64 k] w (Post (Of [.own va 54 2 n (ints xs)]) w fun v H => v = .int .i64 (k + n * 2) ∧ H = [.own va 54 2 n (ints (mks k (n * 2)))]) := by
  have hxl : xs.length = n * 2 := by simpa using ha.1
  have hsl := (St.start1 ha).slOwn (.head _)
  have hn := hsl.le
  obtain ⟨A, c0, rfl, _, _⟩ := hsl.form0
  refine enter (n := 27) (args := [.slice A n c0, .int .i64 k]) Try.func36 rfl rfl (St.start1 ha) ?_
  refine Run.seq ?_
  refine Run.region ?_
  refine Run.q (v := .int .i64 0) rfl (OpQ.y (OpY.pure rfl)) ?_
  refine Run.done ?_
  refine Run.seq ?_
  refine Run.seq ?_
  refine Run.region ?_
  refine Run.q (v := .int .i64 0) rfl (OpQ.y (OpY.pure rfl)) ?_
  refine Run.done ?_
  refine Run.block ?_
  refine Run.loop (ι := Nat) [1, 5, 6, 7, 8, 9, 10, 11, 12, 13, 14, 15, 16, 17, 18, 19, 20, 21, 22, 23, 24, 25] (fun i => [(1, .int .i64 (k + ((i * 2 : Nat) : Int))), (5, .int .i64 (((i : Nat) : Int)))]) (fun i => [.own (.slice A n c0) 54 2 n (ints (marked k (i * 2) xs))]) (fun i => i ≤ n) (fun i => n - i) 0 ?_ ?_ ?_ ?_
  · exact Nat.zero_le _
  · exact ⟨(by show Value.int .i64 k = Value.int .i64 _; simp), rfl, trivial⟩
  · exact (Some'.weak (.takeEq (by simp only [Nat.zero_mul, marked_zero]) (.nil _)))
  · rintro i fr hinv
    show Run _ _ (over _ _ [(1, .int .i64 (k + ((i * 2 : Nat) : Int))), (5, .int .i64 (((i : Nat) : Int)))] fr) [.own (.slice A n c0) 54 2 n (ints (marked k (i * 2) xs))]
    try dsimp only at hinv
    refine Run.seq ?_
    refine Run.seq ?_
    refine Run.region ?_
    refine Run.q (v := .int .i64 (((i : Nat) : Int))) rfl (OpQ.y (OpY.pure rfl)) ?_
    refine Run.q (v := .slice A n c0) rfl (OpQ.y (OpY.pure rfl)) ?_
    refine Run.q (v := .int .i64 (((n : Nat) : Int))) rfl (OpQ.y (OpY.len Tsl_33 rfl)) ?_
    refine Run.q (v := .bool (decide ((((i : Nat) : Int)) < (((n : Nat) : Int))))) rfl (OpQ.y (OpY.pure rfl)) ?_
    refine Run.done ?_
    refine Run.cond (b := decide ((((i : Nat) : Int)) < (((n : Nat) : Int)))) rfl (fun h9 => ?_) (fun h9 => ?_)
    · have p9 := h9; try simp only [bs] at p9
      have hlt : i < n := by simp at h9; omega
      refine Run.openOwn (.head _) (by omega) (fun g c hvg hcapg _ => ?_) (fun _ _ _ => ⟨nofun, nofun, nofun⟩)
      injection hvg with hAg _ hcg; subst hAg; subst hcg
      refine Run.skip ?_
      refine Run.seq ?_
      refine Run.block ?_
      refine Run.seq ?_
      refine Run.region ?_
      refine Run.q (v := .slice (some ⟨g, 0, none⟩) n c0) rfl (OpQ.y (OpY.pure rfl)) ?_
      refine Run.q (v := .int .i64 (((i : Nat) : Int))) rfl (OpQ.y (OpY.pure rfl)) ?_
      refine Run.q (v := .int .i64 (k + ((i * 2 : Nat) : Int))) rfl (OpQ.y (OpY.pure rfl)) ?_
      refine Run.q (v := .pointer (some ⟨g, i * 2, none⟩)) rfl (OpQ.y (OpY.index (kk := i) Tsl_33 rfl rfl (by omega) (by omega) (by first | rfl | omega))) ?_
      refine Run.q (v := .pointer (some ⟨g, i * 2, none⟩)) rfl (OpQ.y (OpY.fieldAddr Tfo_54_0 rfl rfl)) ?_
      refine Run.step rfl (OpStep.storeOwnInt (o := i * 2) (a := k + ((i * 2 : Nat) : Int)) Tsize_3 rfl rfl (.here _) (by omega) ?_)
      refine Run.done ?_
      refine Run.seq ?_
      refine Run.region ?_
      refine Run.q (v := .int .i64 (k + ((i * 2 : Nat) : Int))) rfl (OpQ.y (OpY.pure rfl)) ?_
      refine Run.q (v := .int .i64 ((k + ((i * 2 : Nat) : Int)) + 1)) rfl (OpQ.y (OpY.add rfl rfl rfl (by omega) (by omega))) ?_
      refine Run.q (v := .int .i64 ((k + ((i * 2 : Nat) : Int)) + 1)) rfl (OpQ.y (OpY.pure rfl)) ?_
      refine Run.done ?_
      refine Run.seq ?_
      refine Run.region ?_
      refine Run.q (v := .slice (some ⟨g, 0, none⟩) n c0) rfl (OpQ.y (OpY.pure rfl)) ?_
      refine Run.q (v := .int .i64 (((i : Nat) : Int))) rfl (OpQ.y (OpY.pure rfl)) ?_
      refine Run.q (v := .int .i64 ((k + ((i * 2 : Nat) : Int)) + 1)) rfl (OpQ.y (OpY.pure rfl)) ?_
      refine Run.q (v := .pointer (some ⟨g, i * 2, none⟩)) rfl (OpQ.y (OpY.index (kk := i) Tsl_33 rfl rfl (by omega) (by omega) (by first | rfl | omega))) ?_
      refine Run.q (v := .pointer (some ⟨g, i * 2 + 1, none⟩)) rfl (OpQ.y (OpY.fieldAddr Tfo_54_1 rfl rfl)) ?_
      refine Run.step rfl (OpStep.storeOwnInt (o := i * 2 + 1) (a := (k + ((i * 2 : Nat) : Int)) + 1) Tsize_3 rfl rfl (.here _) (by omega) ?_)
      refine Run.done ?_
      refine Run.region ?_
      refine Run.q (v := .int .i64 ((k + ((i * 2 : Nat) : Int)) + 1)) rfl (OpQ.y (OpY.pure rfl)) ?_
      refine Run.q (v := .int .i64 (((k + ((i * 2 : Nat) : Int)) + 1) + 1)) rfl (OpQ.y (OpY.add rfl rfl rfl (by omega) (by omega))) ?_
      refine Run.q (v := .int .i64 (((k + ((i * 2 : Nat) : Int)) + 1) + 1)) rfl (OpQ.y (OpY.pure rfl)) ?_
      refine Run.done ?_
      refine Run.blockEnd ?_
      refine Run.region ?_
      refine Run.q (v := .int .i64 (((i : Nat) : Int))) rfl (OpQ.y (OpY.pure rfl)) ?_
      refine Run.q (v := .int .i64 ((((i : Nat) : Int)) + 1)) rfl (OpQ.y (OpY.add rfl rfl rfl (by omega) (by omega))) ?_
      refine Run.q (v := .int .i64 ((((i : Nat) : Int)) + 1)) rfl (OpQ.y (OpY.pure rfl)) ?_
      refine Run.done ?_
      refine Run.goal ⟨(by repeat (first | exact Same.refl _ _ | refine Same.put rfl ?_ | refine Same.over rfl rfl ?_)), i + 1, ?_, ?_, ?_, ?_⟩
      · omega
      · omega
      · exact ⟨(by show Value.int _ _ = Value.int _ _; congr 1; omega), rfl, trivial⟩
      · exact (Some'.weak (.takeEq (congrArg (fun z => Res.own _ _ _ _ (ints z)) (marked_set2 (by omega) (by omega) (by omega))) (.nil _)))
    · have p9 := h9; try simp only [bs] at p9
      have hkn : i = n := by simp at h9; omega
      refine Run.exit rfl ?_
      refine Run.seq ?_
      refine Run.region ?_
      refine Run.q (v := .int .i64 (k + ((i * 2 : Nat) : Int))) rfl (OpQ.y (OpY.pure rfl)) ?_
      refine Run.q (v := .int .i64 (k + ((i * 2 : Nat) : Int))) rfl (OpQ.y (OpY.pure rfl)) ?_
      refine Run.done ?_
      refine Run.ret ?_
      refine ⟨.int .i64 (k + ((i * 2 : Nat) : Int)), [.own (.slice A n c0) 54 2 n (ints (mks k (n * 2)))], Out.one rfl rfl, (Some'.weak (.takeEq (by subst hkn; rw [marked_all hxl]) (.nil _))), ?_⟩
      exact ⟨by subst hkn; simp, rfl⟩

set_option maxHeartbeats 1000000 in
set_option maxRecDepth 20000 in
theorem markPathSum_spec {Ins Vars Root Phase : Int} {vTerms : Value} {nTerms : Nat} {xsTerms : List Int} {vOut : Value} {nOut : Nat} {xsOut : List Int} {k : Int} {w : World} (hst : St (Of [.own vTerms 51 2 nTerms (ints xsTerms), .own vOut 54 2 nOut (ints xsOut)]) w w [.own vTerms 51 2 nTerms (ints xsTerms), .own vOut 54 2 nOut (ints xsOut)]) (h0 : 0 ≤ k) (hk : k + ((nTerms : Nat) : Int) * 2 + ((nOut : Nat) : Int) * 2 < 4611686018427387904) :
    Calls Try.prog 10 #[.agg #[.int .i64 Ins, .int .i64 Vars, .int .i64 Root, .int .i64 Phase, vTerms, vOut], .int .i64 k] w (Post (Of [.own vTerms 51 2 nTerms (ints xsTerms), .own vOut 54 2 nOut (ints xsOut)]) w fun v H => v = .int .i64 (k + ((nTerms : Nat) : Int) * 2 + ((nOut : Nat) : Int) * 2) ∧ H = [.own vOut 54 2 nOut (ints (mks (k + ((nTerms : Nat) : Int) * 2) (nOut * 2))), .own vTerms 51 2 nTerms (ints (mks (k) (nTerms * 2)))]) := by
  refine enter (n := 14) (args := [.agg #[.int .i64 Ins, .int .i64 Vars, .int .i64 Root, .int .i64 Phase, vTerms, vOut], .int .i64 k]) Try.func10 rfl rfl (hst) ?_
  refine Run.seq ?_
  refine Run.region ?_
  refine Run.step rfl (OpStep.box (us := [.int .i64 Ins, .int .i64 Vars, .int .i64 Root, .int .i64 Phase, vTerms, vOut]) rfl fun b1 => ?_)
  refine Run.q (v := .int .i64 0) rfl (OpQ.y (OpY.pure rfl)) ?_
  refine Run.done ?_
  refine Run.seq ?_
  refine Run.region ?_
  refine Run.q (v := .pointer (some ⟨b1, 4, none⟩)) rfl (OpQ.y (OpY.fieldAddr Tfo_35_4 rfl rfl)) ?_
  refine Run.q (v := vTerms) rfl (OpQ.y (OpY.load1 Tone_32 rfl (Cells.blk (.head _) ⟨rfl, trivial⟩))) ?_
  refine Run.q (v := .int .i64 k) rfl (OpQ.y (OpY.pure rfl)) ?_
  refine Run.step rfl (OpStep.callM (H1 := [.own vTerms 51 2 nTerms (ints xsTerms)]) (H2 := [.blk b1 35 [.int .i64 Ins, .int .i64 Vars, .int .i64 Root, .int .i64 Phase, vTerms, vOut], .own vOut 54 2 nOut (ints xsOut)]) (vs := [vTerms, .int .i64 k]) (caps := []) Tcall_35 rfl rfl (Weak.front [.blk b1 35 [.int .i64 Ins, .int .i64 Vars, .int .i64 Root, .int .i64 Phase, vTerms, vOut]] (.own vTerms 51 2 nTerms (ints xsTerms)) [.own vOut 54 2 nOut (ints xsOut)]) (fun w hs => markTermS_spec (hs.holds _ (.head _)) (by omega) (by omega)) ?_)
  rintro _ _ ⟨rfl, rfl⟩
  show Run _ _ (putF _ _ _ (.int .i64 (k + ((nTerms : Nat) : Int) * 2))) [.own vTerms 51 2 nTerms (ints (mks k (nTerms * 2))), .blk b1 35 [.int .i64 Ins, .int .i64 Vars, .int .i64 Root, .int .i64 Phase, vTerms, vOut], .own vOut 54 2 nOut (ints xsOut)]
  refine Run.q (v := .int .i64 (k + ((nTerms : Nat) : Int) * 2)) rfl (OpQ.y (OpY.pure rfl)) ?_
  refine Run.done ?_
  refine Run.seq ?_
  refine Run.region ?_
  refine Run.q (v := .pointer (some ⟨b1, 5, none⟩)) rfl (OpQ.y (OpY.fieldAddr Tfo_35_5 rfl rfl)) ?_
  refine Run.q (v := vOut) rfl (OpQ.y (OpY.load1 Tone_33 rfl (Cells.blk (.tail _ (List.Mem.head _)) ⟨rfl, trivial⟩))) ?_
  refine Run.q (v := .int .i64 (k + ((nTerms : Nat) : Int) * 2)) rfl (OpQ.y (OpY.pure rfl)) ?_
  refine Run.step rfl (OpStep.callM (H1 := [.own vOut 54 2 nOut (ints xsOut)]) (H2 := [.own vTerms 51 2 nTerms (ints (mks k (nTerms * 2))), .blk b1 35 [.int .i64 Ins, .int .i64 Vars, .int .i64 Root, .int .i64 Phase, vTerms, vOut]]) (vs := [vOut, .int .i64 (k + ((nTerms : Nat) : Int) * 2)]) (caps := []) Tcall_36 rfl rfl (Weak.front [.own vTerms 51 2 nTerms (ints (mks k (nTerms * 2))), .blk b1 35 [.int .i64 Ins, .int .i64 Vars, .int .i64 Root, .int .i64 Phase, vTerms, vOut]] (.own vOut 54 2 nOut (ints xsOut)) []) (fun w hs => markAffineS_spec (hs.holds _ (.head _)) (by omega) (by omega)) ?_)
  rintro _ _ ⟨rfl, rfl⟩
  show Run _ _ (putF _ _ _ (.int .i64 (k + ((nTerms : Nat) : Int) * 2 + ((nOut : Nat) : Int) * 2))) [.own vOut 54 2 nOut (ints (mks (k + ((nTerms : Nat) : Int) * 2) (nOut * 2))), .own vTerms 51 2 nTerms (ints (mks k (nTerms * 2))), .blk b1 35 [.int .i64 Ins, .int .i64 Vars, .int .i64 Root, .int .i64 Phase, vTerms, vOut]]
  refine Run.q (v := .int .i64 (k + ((nTerms : Nat) : Int) * 2 + ((nOut : Nat) : Int) * 2)) rfl (OpQ.y (OpY.pure rfl)) ?_
  refine Run.done ?_
  refine Run.seq ?_
  refine Run.region ?_
  refine Run.q (v := .int .i64 (k + ((nTerms : Nat) : Int) * 2 + ((nOut : Nat) : Int) * 2)) rfl (OpQ.y (OpY.pure rfl)) ?_
  refine Run.q (v := .int .i64 (k + ((nTerms : Nat) : Int) * 2 + ((nOut : Nat) : Int) * 2)) rfl (OpQ.y (OpY.pure rfl)) ?_
  refine Run.done ?_
  refine Run.ret ?_
  refine ⟨.int .i64 (k + ((nTerms : Nat) : Int) * 2 + ((nOut : Nat) : Int) * 2), [.own vOut 54 2 nOut (ints (mks (k + ((nTerms : Nat) : Int) * 2) (nOut * 2))), .own vTerms 51 2 nTerms (ints (mks (k) (nTerms * 2)))], Out.one rfl rfl, (Some'.weak (.take (.takeEq (by first | rfl | simp) (.nil _)))), ?_⟩
  exact ⟨rfl, rfl⟩

set_option maxHeartbeats 1000000 in
set_option maxRecDepth 20000 in
theorem eqMatrix_true {Rows Cols : Int} {vCells : Value} {nCells : Nat} {xsCells : List Int} {qvCells : Value} {w : World} (hCells : Sl w vCells 5 nCells (ints xsCells)) (qhCells : Sl w qvCells 5 nCells (ints xsCells)) : Calls Try.prog 8 #[.agg #[.int .i64 Rows, .int .i64 Cols, vCells], .agg #[.int .i64 Rows, .int .i64 Cols, qvCells]] w (Post No w fun v _ => v = .bool true) := by
  refine enter (n := 21) (args := [.agg #[.int .i64 Rows, .int .i64 Cols, vCells], .agg #[.int .i64 Rows, .int .i64 Cols, qvCells]]) Try.func8 rfl rfl (St.empty _ _) ?_
  refine Run.seq ?_
  refine Run.region ?_
  refine Run.step rfl (OpStep.box (us := [.int .i64 Rows, .int .i64 Cols, vCells]) rfl fun b1 => ?_)
  refine Run.step rfl (OpStep.box (us := [.int .i64 Rows, .int .i64 Cols, qvCells]) rfl fun b2 => ?_)
  refine Run.q (v := .bool false) rfl (OpQ.y (OpY.pure rfl)) ?_
  refine Run.done ?_
  refine Run.seq ?_
  refine Run.seq ?_
  refine Run.region ?_
  refine Run.q (v := .pointer (some ⟨b1, 0, none⟩)) rfl (OpQ.y (OpY.fieldAddr Tfo_29_0 rfl rfl)) ?_
  refine Run.q (v := .int .i64 Rows) rfl (OpQ.y (OpY.load1 Tone_3 rfl (Cells.blk (.tail _ (List.Mem.head _)) ⟨rfl, trivial⟩))) ?_
  refine Run.q (v := .pointer (some ⟨b2, 0, none⟩)) rfl (OpQ.y (OpY.fieldAddr Tfo_29_0 rfl rfl)) ?_
  refine Run.q (v := .int .i64 Rows) rfl (OpQ.y (OpY.load1 Tone_3 rfl (Cells.blk (.head _) ⟨rfl, trivial⟩))) ?_
  refine Run.q (v := .bool false) rfl (OpQ.y (OpY.neqSame rfl rfl rfl)) ?_
  refine Run.done ?_
  refine Run.cond (b := false) rfl (fun h => nomatch h) (fun _ => ?_)
  refine Run.skip ?_
  refine Run.seq ?_
  refine Run.seq ?_
  refine Run.region ?_
  refine Run.q (v := .pointer (some ⟨b1, 1, none⟩)) rfl (OpQ.y (OpY.fieldAddr Tfo_29_1 rfl rfl)) ?_
  refine Run.q (v := .int .i64 Cols) rfl (OpQ.y (OpY.load1 Tone_3 rfl (Cells.blk (.tail _ (List.Mem.head _)) ⟨rfl, trivial⟩))) ?_
  refine Run.q (v := .pointer (some ⟨b2, 1, none⟩)) rfl (OpQ.y (OpY.fieldAddr Tfo_29_1 rfl rfl)) ?_
  refine Run.q (v := .int .i64 Cols) rfl (OpQ.y (OpY.load1 Tone_3 rfl (Cells.blk (.head _) ⟨rfl, trivial⟩))) ?_
  refine Run.q (v := .bool false) rfl (OpQ.y (OpY.neqSame rfl rfl rfl)) ?_
  refine Run.done ?_
  refine Run.cond (b := false) rfl (fun h => nomatch h) (fun _ => ?_)
  refine Run.skip ?_
  refine Run.seq ?_
  refine Run.seq ?_
  refine Run.region ?_
  refine Run.q (v := .pointer (some ⟨b1, 2, none⟩)) rfl (OpQ.y (OpY.fieldAddr Tfo_29_2 rfl rfl)) ?_
  refine Run.q (v := vCells) rfl (OpQ.y (OpY.load1 Tone_27 rfl (Cells.blk (.tail _ (List.Mem.head _)) ⟨rfl, trivial⟩))) ?_
  refine Run.q (v := .pointer (some ⟨b2, 2, none⟩)) rfl (OpQ.y (OpY.fieldAddr Tfo_29_2 rfl rfl)) ?_
  refine Run.q (v := qvCells) rfl (OpQ.y (OpY.load1 Tone_27 rfl (Cells.blk (.head _) ⟨rfl, trivial⟩))) ?_
  refine Run.q (v := .bool true) rfl (OpQ.call (vs := [vCells, qvCells]) (caps := []) Tcall_32 rfl rfl (fun w hs => eqDyadicS_true (hs.sl hCells) (hs.sl qhCells) rfl)) ?_
  refine Run.q (v := .bool false) rfl (OpQ.y (OpY.pure rfl)) ?_
  refine Run.done ?_
  refine Run.cond (b := false) rfl (fun h => nomatch h) (fun _ => ?_)
  refine Run.skip ?_
  refine Run.seq ?_
  refine Run.region ?_
  refine Run.q (v := .bool true) rfl (OpQ.y (OpY.pure rfl)) ?_
  refine Run.done ?_
  refine Run.ret ?_
  refine ⟨.bool true, [], Out.one rfl rfl, (Some'.weak (.nil _)), ?_⟩
  rfl

set_option maxHeartbeats 1000000 in
set_option maxRecDepth 20000 in
theorem markMatrix_spec {Rows Cols : Int} {vCells : Value} {nCells : Nat} {xsCells : List Int} {k : Int} {w : World} (hst : St (Of [.own vCells 61 5 nCells (ints xsCells)]) w w [.own vCells 61 5 nCells (ints xsCells)]) (h0 : 0 ≤ k) (hk : k + ((nCells : Nat) : Int) * 5 < 4611686018427387904) :
    Calls Try.prog 11 #[.agg #[.int .i64 Rows, .int .i64 Cols, vCells], .int .i64 k] w (Post (Of [.own vCells 61 5 nCells (ints xsCells)]) w fun v H => v = .int .i64 (k + ((nCells : Nat) : Int) * 5) ∧ H = [.own vCells 61 5 nCells (ints (mks (k) (nCells * 5)))]) := by
  refine enter (n := 10) (args := [.agg #[.int .i64 Rows, .int .i64 Cols, vCells], .int .i64 k]) Try.func11 rfl rfl (hst) ?_
  refine Run.seq ?_
  refine Run.region ?_
  refine Run.step rfl (OpStep.box (us := [.int .i64 Rows, .int .i64 Cols, vCells]) rfl fun b1 => ?_)
  refine Run.q (v := .int .i64 0) rfl (OpQ.y (OpY.pure rfl)) ?_
  refine Run.done ?_
  refine Run.seq ?_
  refine Run.region ?_
  refine Run.q (v := .pointer (some ⟨b1, 2, none⟩)) rfl (OpQ.y (OpY.fieldAddr Tfo_29_2 rfl rfl)) ?_
  refine Run.q (v := vCells) rfl (OpQ.y (OpY.load1 Tone_27 rfl (Cells.blk (.head _) ⟨rfl, trivial⟩))) ?_
  refine Run.q (v := .int .i64 k) rfl (OpQ.y (OpY.pure rfl)) ?_
  refine Run.step rfl (OpStep.callM (H1 := [.own vCells 61 5 nCells (ints xsCells)]) (H2 := [.blk b1 29 [.int .i64 Rows, .int .i64 Cols, vCells]]) (vs := [vCells, .int .i64 k]) (caps := []) Tcall_37 rfl rfl (Weak.front [.blk b1 29 [.int .i64 Rows, .int .i64 Cols, vCells]] (.own vCells 61 5 nCells (ints xsCells)) []) (fun w hs => markDyadicS_spec (hs.holds _ (.head _)) (by omega) (by omega)) ?_)
  rintro _ _ ⟨rfl, rfl⟩
  show Run _ _ (putF _ _ _ (.int .i64 (k + ((nCells : Nat) : Int) * 5))) [.own vCells 61 5 nCells (ints (mks k (nCells * 5))), .blk b1 29 [.int .i64 Rows, .int .i64 Cols, vCells]]
  refine Run.q (v := .int .i64 (k + ((nCells : Nat) : Int) * 5)) rfl (OpQ.y (OpY.pure rfl)) ?_
  refine Run.done ?_
  refine Run.seq ?_
  refine Run.region ?_
  refine Run.q (v := .int .i64 (k + ((nCells : Nat) : Int) * 5)) rfl (OpQ.y (OpY.pure rfl)) ?_
  refine Run.q (v := .int .i64 (k + ((nCells : Nat) : Int) * 5)) rfl (OpQ.y (OpY.pure rfl)) ?_
  refine Run.done ?_
  refine Run.ret ?_
  refine ⟨.int .i64 (k + ((nCells : Nat) : Int) * 5), [.own vCells 61 5 nCells (ints (mks (k) (nCells * 5)))], Out.one rfl rfl, (Some'.weak (.takeEq (by first | rfl | simp) (.nil _))), ?_⟩
  exact ⟨rfl, rfl⟩

set_option maxHeartbeats 1000000 in
set_option maxRecDepth 20000 in
theorem heldMatrix_true {Rows Cols : Int} {vCells : Value} {nCells : Nat} {xsCells : List Int} {k : Int} {w : World} (hCells : Sl w vCells 5 nCells (ints xsCells)) (h0 : 0 ≤ k) (hk : k + ((nCells : Nat) : Int) * 5 < 4611686018427387904) (heCells : xsCells = mks (k) (nCells * 5)) :
    Calls Try.prog 12 #[.agg #[.int .i64 Rows, .int .i64 Cols, vCells], .int .i64 k] w (Post No w fun v _ => v = .int .i64 (k + ((nCells : Nat) : Int) * 5)) := by
  refine enter (n := 12) (args := [.agg #[.int .i64 Rows, .int .i64 Cols, vCells], .int .i64 k]) Try.func12 rfl rfl (St.empty _ _) ?_
  refine Run.seq ?_
  refine Run.region ?_
  refine Run.step rfl (OpStep.box (us := [.int .i64 Rows, .int .i64 Cols, vCells]) rfl fun b1 => ?_)
  refine Run.q (v := .int .i64 0) rfl (OpQ.y (OpY.pure rfl)) ?_
  refine Run.done ?_
  refine Run.seq ?_
  refine Run.region ?_
  refine Run.q (v := .pointer (some ⟨b1, 2, none⟩)) rfl (OpQ.y (OpY.fieldAddr Tfo_29_2 rfl rfl)) ?_
  refine Run.q (v := vCells) rfl (OpQ.y (OpY.load1 Tone_27 rfl (Cells.blk (.head _) ⟨rfl, trivial⟩))) ?_
  refine Run.q (v := .int .i64 k) rfl (OpQ.y (OpY.pure rfl)) ?_
  refine Run.q (v := .int .i64 (k + ((nCells : Nat) : Int) * 5)) rfl (OpQ.call (vs := [vCells, .int .i64 k]) (caps := []) Tcall_38 rfl rfl (fun w hs => heldDyadicS_true (hs.sl hCells) (by omega) (by omega) heCells)) ?_
  refine Run.q (v := .int .i64 (k + ((nCells : Nat) : Int) * 5)) rfl (OpQ.y (OpY.pure rfl)) ?_
  refine Run.done ?_
  refine Run.seq ?_
  refine Run.seq ?_
  refine Run.region ?_
  refine Run.q (v := .int .i64 (k + ((nCells : Nat) : Int) * 5)) rfl (OpQ.y (OpY.pure rfl)) ?_
  refine Run.q (v := .bool (decide ((k + ((nCells : Nat) : Int) * 5) < 0))) rfl (OpQ.y (OpY.pure rfl)) ?_
  refine Run.done ?_
  refine Run.cond (b := decide ((k + ((nCells : Nat) : Int) * 5) < 0)) rfl (fun h10 => ?_) (fun h10 => ?_)
  · have p10 := h10; try simp only [bs] at p10
    exact absurd h10 (by simp <;> omega) --DONE
  · have p10 := h10; try simp only [bs] at p10
    refine Run.skip ?_
    refine Run.seq ?_
    refine Run.region ?_
    refine Run.q (v := .int .i64 (k + ((nCells : Nat) : Int) * 5)) rfl (OpQ.y (OpY.pure rfl)) ?_
    refine Run.q (v := .int .i64 (k + ((nCells : Nat) : Int) * 5)) rfl (OpQ.y (OpY.pure rfl)) ?_
    refine Run.done ?_
    refine Run.ret ?_
    refine ⟨.int .i64 (k + ((nCells : Nat) : Int) * 5), [], Out.one rfl rfl, (Some'.weak (.nil _)), ?_⟩
    rfl

end Go.Proofs.Ytadobifnhcafpaa
