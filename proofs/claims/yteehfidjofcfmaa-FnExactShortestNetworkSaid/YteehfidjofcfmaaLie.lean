/- Walks: the laws' own functions on linear maps. -/
import Derived.Test.YteehfidjofcfmaaInts
import Derived.Test.YteehfidjofcfmaaProg
set_option linter.unusedSimpArgs false
set_option linter.unusedVariables false
namespace Go.Proofs.Yteehfidjofcfmaa
open Go Go.RowKit
namespace LieT
theorem Tagg_28 : aggOf Try.prog 28 = some 1 := by kernel_rfl
theorem Tcall_15 : callable Try.prog 15 = true := by kernel_rfl
theorem Tcall_17 : callable Try.prog 17 = true := by kernel_rfl
theorem Tcall_26 : callable Try.prog 26 = true := by kernel_rfl
theorem Tcall_45 : callable Try.prog 45 = true := by kernel_rfl
theorem Tfo_24_0 : fieldOff Try.prog 24 0 = some 0 := by kernel_rfl
theorem Tfo_28_0 : fieldOff Try.prog 28 0 = some 0 := by kernel_rfl
theorem Tone_22 : oneOf Try.prog 22 = true := by kernel_rfl
theorem Tsize_22 : (Try.prog.info? 22).map (·.size) = some 1 := by kernel_rfl
theorem Tsize_28 : (Try.prog.info? 28).map (·.size) = some 1 := by kernel_rfl
theorem Tzero_28 : zeroOf Try.prog 28 = some [.slice none 0 0] := by kernel_rfl
end LieT
open LieT
set_option maxHeartbeats 1000000 in
set_option maxRecDepth 20000 in
theorem szLinear_spec {vRows : Value} {nRows : Nat} {xsRows : List Int} {left : Int} {w : World} (hRows : Sl w vRows 1 nRows (ints xsRows)) (h0 : 0 ≤ left) (h1 : left ≤ 1048576) : Calls Try.prog 9 #[.agg #[vRows], .int .i64 left] w (Post No w fun v _ => v = .int .i64 (szN left [nRows])) := by
  refine enter (n := 12) (args := [.agg #[vRows], .int .i64 left]) Try.func9 rfl rfl (St.empty _ _) ?_
  refine Run.seq ?_
  refine Run.region ?_
  refine Run.step rfl (OpStep.box (us := [vRows]) rfl fun b1 => ?_)
  refine Run.q (v := .int .i64 0) rfl (OpQ.y (OpY.pure rfl)) ?_
  refine Run.done ?_
  refine Run.seq ?_
  refine Run.region ?_
  refine Run.q (v := .pointer (some ⟨b1, 0, none⟩)) rfl (OpQ.y (OpY.fieldAddr Tfo_24_0 rfl rfl)) ?_
  refine Run.q (v := vRows) rfl (OpQ.y (OpY.load1 Tone_22 rfl (Cells.blk (.head _) ⟨rfl, trivial⟩))) ?_
  refine Run.q (v := .int .i64 left) rfl (OpQ.y (OpY.pure rfl)) ?_
  refine Run.q (v := .int .i64 (szN left [nRows])) rfl (OpQ.call (vs := [vRows, .int .i64 left]) (caps := []) Tcall_45 rfl rfl (fun w hs => szIntS_spec (hs.sl hRows) (by omega) (by omega))) ?_
  refine Run.q (v := .int .i64 (szN left [nRows])) rfl (OpQ.y (OpY.pure rfl)) ?_
  refine Run.done ?_
  refine Run.seq ?_
  refine Run.seq ?_
  refine Run.region ?_
  refine Run.q (v := .int .i64 (szN left [nRows])) rfl (OpQ.y (OpY.pure rfl)) ?_
  refine Run.q (v := .bool (decide ((szN left [nRows]) < 0))) rfl (OpQ.y (OpY.pure rfl)) ?_
  refine Run.done ?_
  refine Run.cond (b := decide ((szN left [nRows]) < 0)) rfl (fun h10 => ?_) (fun h10 => ?_)
  · have p10 := h10; try simp only [decide_eq_true_eq, decide_eq_false_iff_not, beq_iff_eq, bne_iff_ne, beq_eq_false_iff_ne, ne_eq, gt_iff_lt, ge_iff_le, Int.not_lt, Int.not_le, bne_eq_false_iff_eq, Bool.not_eq_true', Bool.not_eq_false', Bool.and_eq_true, Bool.and_eq_false_iff, Bool.or_eq_true, Bool.or_eq_false_iff, Decidable.not_not, List.cons.injEq, and_true] at p10
    refine Run.seq ?_
    refine Run.region ?_
    refine Run.q (v := .int .i64 (-1)) rfl (OpQ.y (OpY.pure rfl)) ?_
    refine Run.done ?_
    refine Run.ret ?_
    refine ⟨.int .i64 (-1), [], Out.one rfl rfl, (Some'.weak (.nil _)), ?_⟩
    show _ = _; first | (simp_all [szN]; done) | (simp only [decide_eq_true_eq, decide_eq_false_iff_not, szN] at *; grind)
  · have p10 := h10; try simp only [decide_eq_true_eq, decide_eq_false_iff_not, beq_iff_eq, bne_iff_ne, beq_eq_false_iff_ne, ne_eq, gt_iff_lt, ge_iff_le, Int.not_lt, Int.not_le, bne_eq_false_iff_eq, Bool.not_eq_true', Bool.not_eq_false', Bool.and_eq_true, Bool.and_eq_false_iff, Bool.or_eq_true, Bool.or_eq_false_iff, Decidable.not_not, List.cons.injEq, and_true] at p10
    have hz10 := szN_bound (ns := [nRows]) (l := left) p10 nRows (by simp)
    refine Run.skip ?_
    refine Run.seq ?_
    refine Run.region ?_
    refine Run.q (v := .int .i64 (szN left [nRows])) rfl (OpQ.y (OpY.pure rfl)) ?_
    refine Run.q (v := .int .i64 (szN left [nRows])) rfl (OpQ.y (OpY.pure rfl)) ?_
    refine Run.done ?_
    refine Run.ret ?_
    refine ⟨.int .i64 (szN left [nRows]), [], Out.one rfl rfl, (Some'.weak (.nil _)), ?_⟩
    show _ = _; first | (simp_all [szN]; done) | (simp only [decide_eq_true_eq, decide_eq_false_iff_not, szN] at *; grind)

set_option maxHeartbeats 1000000 in
set_option maxRecDepth 20000 in
theorem toLinear_spec {vRows : Value} {nRows : Nat} {xsRows : List Int} {w : World} (hRows : Sl w vRows 1 nRows (ints xsRows)) (hbRows : nRows ≤ 1048576) : Calls Try.prog 11 #[.agg #[vRows]] w (Post No w fun v H => ∃ uRows, v = .agg #[uRows] ∧ H = [.own uRows 3 1 nRows (ints xsRows)]) := by
  refine enter (n := 9) (args := [.agg #[vRows]]) Try.func11 rfl rfl (St.empty _ _) ?_
  refine Run.seq ?_
  refine Run.region ?_
  refine Run.step rfl (OpStep.box (us := [vRows]) rfl fun b1 => ?_)
  refine Run.step rfl (OpStep.alloc (zs := [.slice none 0 0]) Tzero_28 fun b2 => ?_)
  refine Run.done ?_
  refine Run.seq ?_
  refine Run.region ?_
  refine Run.step rfl (OpStep.alloc (zs := [.slice none 0 0]) Tzero_28 fun b3 => ?_)
  refine Run.done ?_
  refine Run.seq ?_
  refine Run.region ?_
  refine Run.q (v := .pointer (some ⟨b1, 0, none⟩)) rfl (OpQ.y (OpY.fieldAddr Tfo_24_0 rfl rfl)) ?_
  refine Run.q (v := vRows) rfl (OpQ.y (OpY.load1 Tone_22 rfl (Cells.blk (.tail _ (.tail _ (List.Mem.head _))) ⟨rfl, trivial⟩))) ?_
  refine Run.step rfl (OpStep.call (vs := [vRows]) (caps := []) Tcall_15 rfl rfl (fun w hs => toIntS_spec (hs.sl hRows) (by omega)) ?_)
  rintro uRows _ rfl
  show Run _ _ (putF _ _ _ uRows) [.own uRows 3 1 nRows (ints xsRows), .blk b3 28 [.slice none 0 0], .blk b2 28 [.slice none 0 0], .blk b1 24 [vRows]]
  refine Run.q (v := .pointer (some ⟨b3, 0, none⟩)) rfl (OpQ.y (OpY.fieldAddr Tfo_28_0 rfl rfl)) ?_
  refine Run.formOwn (.head _) (fun A_uRows1 c_uRows1 hv hcapc_uRows1 hmaxc_uRows1 => ?_) (fun _ _ _ => ⟨nofun, nofun, nofun⟩)
  subst hv
  refine Run.step rfl (OpStep.storeAll (us := [.slice A_uRows1 nRows c_uRows1]) Tsize_22 rfl rfl rfl (.there _ (.here _)) rfl ?_)
  refine Run.done ?_
  refine Run.seq ?_
  refine Run.region ?_
  refine Run.q (v := .agg #[.slice A_uRows1 nRows c_uRows1]) rfl (OpQ.y (OpY.loadN (cs := [.slice A_uRows1 nRows c_uRows1]) Tagg_28 rfl (Cells.blk (.tail _ (List.Mem.head _)) ⟨rfl, trivial⟩))) ?_
  refine Run.step rfl (OpStep.storeAll (us := [.slice A_uRows1 nRows c_uRows1]) Tsize_28 rfl rfl rfl (.there _ (.there _ (.here _))) rfl ?_)
  refine Run.done ?_
  refine Run.ret ?_
  refine ⟨.agg #[.slice A_uRows1 nRows c_uRows1], [.own (.slice A_uRows1 nRows c_uRows1) 3 1 nRows (ints xsRows)], Out.cell1 (cs := [.slice A_uRows1 nRows c_uRows1]) rfl Tagg_28 rfl (Cells.blk (.tail _ (.tail _ (List.Mem.head _))) ⟨rfl, trivial⟩), (Some'.weak (.take (.nil _))), ?_⟩
  exact ⟨_, rfl, rfl⟩

set_option maxHeartbeats 1000000 in
set_option maxRecDepth 20000 in
theorem eqLinear_true {vRows : Value} {nRows : Nat} {xsRows : List Int} {qvRows : Value} {w : World} (hRows : Sl w vRows 1 nRows (ints xsRows)) (qhRows : Sl w qvRows 1 nRows (ints xsRows)) : Calls Try.prog 13 #[.agg #[vRows], .agg #[qvRows]] w (Post No w fun v _ => v = .bool true) := by
  refine enter (n := 11) (args := [.agg #[vRows], .agg #[qvRows]]) Try.func13 rfl rfl (St.empty _ _) ?_
  refine Run.seq ?_
  refine Run.region ?_
  refine Run.step rfl (OpStep.box (us := [vRows]) rfl fun b1 => ?_)
  refine Run.step rfl (OpStep.box (us := [qvRows]) rfl fun b2 => ?_)
  refine Run.q (v := .bool false) rfl (OpQ.y (OpY.pure rfl)) ?_
  refine Run.done ?_
  refine Run.seq ?_
  refine Run.seq ?_
  refine Run.region ?_
  refine Run.q (v := .pointer (some ⟨b1, 0, none⟩)) rfl (OpQ.y (OpY.fieldAddr Tfo_28_0 rfl rfl)) ?_
  refine Run.q (v := vRows) rfl (OpQ.y (OpY.load1 Tone_22 rfl (Cells.blk (.tail _ (List.Mem.head _)) ⟨rfl, trivial⟩))) ?_
  refine Run.q (v := .pointer (some ⟨b2, 0, none⟩)) rfl (OpQ.y (OpY.fieldAddr Tfo_28_0 rfl rfl)) ?_
  refine Run.q (v := qvRows) rfl (OpQ.y (OpY.load1 Tone_22 rfl (Cells.blk (.head _) ⟨rfl, trivial⟩))) ?_
  refine Run.q (v := .bool true) rfl (OpQ.call (vs := [vRows, qvRows]) (caps := []) Tcall_17 rfl rfl (fun w hs => eqIntS_true (hs.sl hRows) (hs.sl qhRows) rfl)) ?_
  refine Run.q (v := .bool false) rfl (OpQ.y (OpY.pure rfl)) ?_
  refine Run.done ?_
  refine Run.cond (b := false) rfl (fun h => nomatch h) (fun _ => ?_)
  refine Run.skip ?_
  refine Run.seq ?_
  refine Run.region ?_
  refine Run.q (v := .bool true) rfl (OpQ.y (OpY.pure rfl)) ?_
  refine Run.done ?_
  refine Run.ret ?_
  refine ⟨.bool true, [], Out.one rfl rfl, (Some'.weak (.nil _)), ?_⟩
  rfl

set_option maxHeartbeats 1000000 in
set_option maxRecDepth 20000 in
theorem markLinear_spec {vRows : Value} {nRows : Nat} {xsRows : List Int} {k : Int} {w : World} (hst : St (Of [.own vRows 3 1 nRows (ints xsRows)]) w w [.own vRows 3 1 nRows (ints xsRows)]) (h0 : 0 ≤ k) (hk : k + ((nRows : Nat) : Int) * 1 < 4611686018427387904) :
    Calls Try.prog 21 #[.agg #[vRows], .int .i64 k] w (Post (Of [.own vRows 3 1 nRows (ints xsRows)]) w fun v H => v = .int .i64 (k + ((nRows : Nat) : Int) * 1) ∧ H = [.own vRows 3 1 nRows (ints (mks (k) (nRows * 1)))]) := by
  refine enter (n := 10) (args := [.agg #[vRows], .int .i64 k]) Try.func21 rfl rfl (hst) ?_
  refine Run.seq ?_
  refine Run.region ?_
  refine Run.step rfl (OpStep.box (us := [vRows]) rfl fun b1 => ?_)
  refine Run.q (v := .int .i64 0) rfl (OpQ.y (OpY.pure rfl)) ?_
  refine Run.done ?_
  refine Run.seq ?_
  refine Run.region ?_
  refine Run.q (v := .pointer (some ⟨b1, 0, none⟩)) rfl (OpQ.y (OpY.fieldAddr Tfo_28_0 rfl rfl)) ?_
  refine Run.q (v := vRows) rfl (OpQ.y (OpY.load1 Tone_22 rfl (Cells.blk (.head _) ⟨rfl, trivial⟩))) ?_
  refine Run.q (v := .int .i64 k) rfl (OpQ.y (OpY.pure rfl)) ?_
  refine Run.step rfl (OpStep.callM (H1 := [.own vRows 3 1 nRows (ints xsRows)]) (H2 := [.blk b1 28 [vRows]]) (vs := [vRows, .int .i64 k]) (caps := []) Tcall_26 rfl rfl (Weak.front [.blk b1 28 [vRows]] (.own vRows 3 1 nRows (ints xsRows)) []) (fun w hs => markIntS_spec (hs.holds _ (.head _)) (by omega) (by omega)) ?_)
  rintro _ _ ⟨rfl, rfl⟩
  show Run _ _ (putF _ _ _ (.int .i64 (k + ((nRows : Nat) : Int) * 1))) [.own vRows 3 1 nRows (ints (mks k (nRows * 1))), .blk b1 28 [vRows]]
  refine Run.q (v := .int .i64 (k + ((nRows : Nat) : Int) * 1)) rfl (OpQ.y (OpY.pure rfl)) ?_
  refine Run.done ?_
  refine Run.seq ?_
  refine Run.region ?_
  refine Run.q (v := .int .i64 (k + ((nRows : Nat) : Int) * 1)) rfl (OpQ.y (OpY.pure rfl)) ?_
  refine Run.q (v := .int .i64 (k + ((nRows : Nat) : Int) * 1)) rfl (OpQ.y (OpY.pure rfl)) ?_
  refine Run.done ?_
  refine Run.ret ?_
  refine ⟨.int .i64 (k + ((nRows : Nat) : Int) * 1), [.own vRows 3 1 nRows (ints (mks (k) (nRows * 1)))], Out.one rfl rfl, (Some'.weak (.takeEq (by first | rfl | simp) (.nil _))), ?_⟩
  exact ⟨rfl, rfl⟩

end Go.Proofs.Yteehfidjofcfmaa
