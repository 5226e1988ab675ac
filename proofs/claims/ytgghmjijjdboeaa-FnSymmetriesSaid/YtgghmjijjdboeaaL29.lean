/- The walk of the law FnSymmetries. -/
import Derived.Test.YtgghmjijjdboeaaDev
import Derived.Test.YtgghmjijjdboeaaSymr
import Derived.Test.YtgghmjijjdboeaaDg2
import Derived.Test.YtgghmjijjdboeaaCg4
import Derived.Test.YtgghmjijjdboeaaGsr
import Derived.Test.YtgghmjijjdboeaaSyml
import Derived.Test.YtgghmjijjdboeaaProg
set_option linter.unusedSimpArgs false
set_option linter.unusedVariables false
namespace Go.Proofs.Ytgghmjijjdboeaa
open Go Go.RowKit
namespace L29T
theorem Tagg_25 : aggOf Try.prog 25 = some 2 := by kernel_rfl
theorem Tbool_4 : Try.prog.underlying 4 = some .bool := by kernel_rfl
theorem Tcall_10 : callable Try.prog 10 = true := by kernel_rfl
theorem Tcall_11 : callable Try.prog 11 = true := by kernel_rfl
theorem Tcall_12 : callable Try.prog 12 = true := by kernel_rfl
theorem Tcall_13 : callable Try.prog 13 = true := by kernel_rfl
theorem Tcall_14 : callable Try.prog 14 = true := by kernel_rfl
theorem Tcall_15 : callable Try.prog 15 = true := by kernel_rfl
theorem Tcall_6 : callable Try.prog 6 = true := by kernel_rfl
theorem Tcall_7 : callable Try.prog 7 = true := by kernel_rfl
theorem Tcall_8 : callable Try.prog 8 = true := by kernel_rfl
theorem Tcall_9 : callable Try.prog 9 = true := by kernel_rfl
theorem Tfo_25_0 : fieldOff Try.prog 25 0 = some 0 := by kernel_rfl
theorem Tfo_25_1 : fieldOff Try.prog 25 1 = some 1 := by kernel_rfl
theorem Tone_23 : oneOf Try.prog 23 = true := by kernel_rfl
theorem Tone_3 : oneOf Try.prog 3 = true := by kernel_rfl
theorem Tone_34 : oneOf Try.prog 34 = true := by kernel_rfl
theorem Tsize_25 : (Try.prog.info? 25).map (·.size) = some 2 := by kernel_rfl
theorem Tsize_3 : (Try.prog.info? 3).map (·.size) = some 1 := by kernel_rfl
theorem Tsl_22 : sliceOf Try.prog 22 = some (5, 1, 1, [.int .u8 0]) := by kernel_rfl
theorem Tsl_23 : sliceOf Try.prog 23 = some (64, 2, 16, [.int .i64 0, .int .i64 0]) := by kernel_rfl
theorem Tsl_27 : sliceOf Try.prog 27 = some (34, 1, 24, [.slice none 0 0]) := by kernel_rfl
theorem Tsl_34 : sliceOf Try.prog 34 = some (3, 1, 8, [.int .i64 0]) := by kernel_rfl
theorem Tzero_25 : zeroOf Try.prog 25 = some [.int .i64 0, .slice none 0 0] := by kernel_rfl
end L29T
open L29T
set_option maxHeartbeats 1000000 in
set_option maxRecDepth 20000 in
theorem law_spec {va vb : Value} {n m0 : Nat} {cs ds : List Int} {w : World} (ha : Sl w va 1 n (u8s cs)) (hby : ∀ x ∈ cs, 0 ≤ x ∧ x < 256) (hb : Sl w vb 1 m0 (u8s ds)) (hbz : ∀ x ∈ ds, 0 ≤ x ∧ x < 256) : Calls Try.prog 3 #[va, vb] w (Post No w fun v _ => v = .bool true) := by
  obtain ⟨Ac, cc, rfl, hn0, _⟩ := ha.form0
  obtain ⟨Bc, dd, rfl, hm0, _⟩ := hb.form0
  have hn := ha.le
  have hm := hb.le
  refine enter (n := 223) (args := [.slice Ac n cc, .slice Bc m0 dd]) Try.func3 rfl rfl (St.empty _ _) ?_
  refine Run.seq ?_
  refine Run.region ?_
  refine Run.q (v := .bool false) rfl (OpQ.y (OpY.pure rfl)) ?_
  refine Run.done ?_
  refine Run.seq ?_
  refine Run.seq ?_
  refine Run.region ?_
  refine Run.q (v := .slice Ac n cc) rfl (OpQ.y (OpY.pure rfl)) ?_
  refine Run.q (v := .int .i64 (((n : Nat) : Int))) rfl (OpQ.y (OpY.len Tsl_22 rfl)) ?_
  refine Run.q (v := .slice Bc m0 dd) rfl (OpQ.y (OpY.pure rfl)) ?_
  refine Run.q (v := .int .i64 (((m0 : Nat) : Int))) rfl (OpQ.y (OpY.len Tsl_22 rfl)) ?_
  refine Run.q (v := .int .i64 (IntKind.i64.wrap (((n : Nat) : Int) + ((m0 : Nat) : Int)))) rfl (OpQ.y (OpY.addW rfl rfl rfl)) ?_
  refine Run.q (v := .bool (decide ((IntKind.i64.wrap (((n : Nat) : Int) + ((m0 : Nat) : Int))) > 1048576))) rfl (OpQ.y (OpY.pure rfl)) ?_
  refine Run.done ?_
  refine Run.cond (b := decide ((IntKind.i64.wrap (((n : Nat) : Int) + ((m0 : Nat) : Int))) > 1048576)) rfl (fun h34 => ?_) (fun h34 => ?_)
  · have p34 := h34; try simp only [decide_eq_true_eq, decide_eq_false_iff_not, beq_iff_eq, bne_iff_ne, beq_eq_false_iff_ne, ne_eq, gt_iff_lt, ge_iff_le, Int.not_lt, Int.not_le, bne_eq_false_iff_eq, Bool.not_eq_true', Bool.not_eq_false', Bool.and_eq_true, Bool.and_eq_false_iff, Bool.or_eq_true, Bool.or_eq_false_iff, Decidable.not_not, List.cons.injEq, and_true] at p34
    refine Run.seq ?_
    refine Run.region ?_
    refine Run.q (v := .bool true) rfl (OpQ.y (OpY.pure rfl)) ?_
    refine Run.done ?_
    refine Run.ret ?_
    refine ⟨.bool true, [], Out.one rfl rfl, (Some'.weak (.nil _)), ?_⟩
    rfl
  · have p34 := h34; try simp only [decide_eq_true_eq, decide_eq_false_iff_not, beq_iff_eq, bne_iff_ne, beq_eq_false_iff_ne, ne_eq, gt_iff_lt, ge_iff_le, Int.not_lt, Int.not_le, bne_eq_false_iff_eq, Bool.not_eq_true', Bool.not_eq_false', Bool.and_eq_true, Bool.and_eq_false_iff, Bool.or_eq_true, Bool.or_eq_false_iff, Decidable.not_not, List.cons.injEq, and_true] at p34
    refine Run.skip ?_
    refine Run.seq ?_
    refine Run.region ?_
    refine Run.q (v := .slice Ac n cc) rfl (OpQ.y (OpY.pure rfl)) ?_
    refine Run.step rfl (OpStep.call (vs := [.slice Ac n cc]) (caps := []) Tcall_6 rfl rfl (fun w hs => DrawSymmetriesOf_spec (hs.sl ha) hby) ?_)
    rintro _ _ ⟨N, u, m, es, hdg, rfl, rfl⟩
    show Run _ _ (putF _ _ _ (.agg #[.int .i64 N, u])) [.own u 64 2 m (ints es)]
    have hNi : In64 N := by have := hdg.n0; simp only [In64]; omega
    have hei : ∀ x ∈ es, In64 x := fun x hx => by have := hdg.es0 x hx; simp only [In64]; omega
    refine Run.step rfl (OpStep.alloc (zs := [.int .i64 0, .slice none 0 0]) Tzero_25 fun b1 => ?_)
    refine Run.formOwn (.tail _ (List.Mem.head _)) (fun A_u1 c_u1 hv hcapc_u1 hmaxc_u1 => ?_) (fun _ _ _ => ⟨nofun, nofun, nofun⟩)
    subst hv
    refine Run.step rfl (OpStep.storeAll (us := [.int .i64 N, .slice A_u1 m c_u1]) Tsize_25 rfl rfl rfl (.here _) rfl ?_)
    refine Run.done ?_
    refine Run.seq ?_
    refine Run.region ?_
    refine Run.q (v := .agg #[.int .i64 N, .slice A_u1 m c_u1]) rfl (OpQ.y (OpY.loadN (cs := [.int .i64 N, .slice A_u1 m c_u1]) Tagg_25 rfl (Cells.blk (.head _) ⟨rfl, rfl, trivial⟩))) ?_
    refine Run.step rfl (OpStep.callM (H1 := [.own (.slice A_u1 m c_u1) 64 2 m (ints es)]) (H2 := [.blk b1 25 [.int .i64 N, .slice A_u1 m c_u1]]) (vs := [.agg #[.int .i64 N, .slice A_u1 m c_u1]]) (caps := []) Tcall_7 rfl rfl (Weak.front [.blk b1 25 [.int .i64 N, .slice A_u1 m c_u1]] (.own (.slice A_u1 m c_u1) 64 2 m (ints es)) []) (fun w hs => SymmetriesOf_spec (hs.holds _ (.head _))) ?_)
    rintro _ _ ⟨up, ps, hps, rfl, rfl⟩
    show Run _ _ (putF _ _ _ (.tuple #[up, .bool (symOk N es m)])) [.own (.slice A_u1 m c_u1) 64 2 m (ints es), .own up 34 1 (ps.length) (oc ps), .grp 3 1 (gl ps), .blk b1 25 [.int .i64 N, .slice A_u1 m c_u1]]
    refine Run.q (v := .tuple #[up, .bool (symOk N es m)]) rfl (OpQ.y (OpY.pure rfl)) ?_
    refine Run.q (v := up) rfl (OpQ.y (OpY.pure rfl)) ?_
    refine Run.q (v := .bool (symOk N es m)) rfl (OpQ.y (OpY.pure rfl)) ?_
    refine Run.q (v := up) rfl (OpQ.y (OpY.pure rfl)) ?_
    refine Run.q (v := .bool (symOk N es m)) rfl (OpQ.y (OpY.pure rfl)) ?_
    refine Run.done ?_
    refine Run.seq ?_
    refine Run.region ?_
    refine Run.q (v := .agg #[.int .i64 N, .slice A_u1 m c_u1]) rfl (OpQ.y (OpY.loadN (cs := [.int .i64 N, .slice A_u1 m c_u1]) Tagg_25 rfl (Cells.blk (.tail _ (.tail _ (.tail _ (List.Mem.head _)))) ⟨rfl, rfl, trivial⟩))) ?_
    refine Run.step rfl (OpStep.callM (H1 := [.own (.slice A_u1 m c_u1) 64 2 m (ints es)]) (H2 := [.own up 34 1 (ps.length) (oc ps), .grp 3 1 (gl ps), .blk b1 25 [.int .i64 N, .slice A_u1 m c_u1]]) (vs := [.agg #[.int .i64 N, .slice A_u1 m c_u1]]) (caps := []) Tcall_8 rfl rfl (Weak.refl _) (fun w hs => sSymmetriesOf_spec hNi hei (hs.holds _ (.head _))) ?_)
    rintro _ _ ⟨uw, rs, hrs, rfl, rfl⟩
    show Run _ _ (putF _ _ _ (.tuple #[uw, .bool (symOk N es m)])) [.own (.slice A_u1 m c_u1) 64 2 m (ints es), .own uw 34 1 (rs.length) (oc rs), .grp 3 1 (gl rs), .own up 34 1 (ps.length) (oc ps), .grp 3 1 (gl ps), .blk b1 25 [.int .i64 N, .slice A_u1 m c_u1]]
    have hp6 : ps.length ≤ 1000000 := by
      have h := congrArg List.length hps
      rw [List.length_map] at h; rw [h]; exact symR_len _ _ _
    have hpr : ps.map (·.2) = rs.map (·.2) := hps.trans hrs.symm
    have hlen := len_of hpr
    refine Run.q (v := .tuple #[uw, .bool (symOk N es m)]) rfl (OpQ.y (OpY.pure rfl)) ?_
    refine Run.q (v := uw) rfl (OpQ.y (OpY.pure rfl)) ?_
    refine Run.q (v := .bool (symOk N es m)) rfl (OpQ.y (OpY.pure rfl)) ?_
    refine Run.q (v := uw) rfl (OpQ.y (OpY.pure rfl)) ?_
    refine Run.q (v := .bool (symOk N es m)) rfl (OpQ.y (OpY.pure rfl)) ?_
    refine Run.done ?_
    refine Run.seq ?_
    refine Run.region ?_
    refine Run.q (v := .slice Bc m0 dd) rfl (OpQ.y (OpY.pure rfl)) ?_
    refine Run.step rfl (OpStep.call (vs := [.slice Bc m0 dd]) (caps := []) Tcall_9 rfl rfl (fun w hs => DrawLineGraph_spec (hs.sl hb) hbz) ?_)
    rintro _ _ ⟨k, hk, rfl, rfl⟩
    show Run _ _ (putF _ _ _ (.int .i64 k)) [.own (.slice A_u1 m c_u1) 64 2 m (ints es), .own uw 34 1 (rs.length) (oc rs), .grp 3 1 (gl rs), .own up 34 1 (ps.length) (oc ps), .grp 3 1 (gl ps), .blk b1 25 [.int .i64 N, .slice A_u1 m c_u1]]
    refine Run.q (v := .int .i64 k) rfl (OpQ.y (OpY.pure rfl)) ?_
    refine Run.done ?_
    refine Run.seq ?_
    refine Run.region ?_
    refine Run.q (v := .int .i64 k) rfl (OpQ.y (OpY.pure rfl)) ?_
    refine Run.step rfl (OpStep.call (vs := [.int .i64 k]) (caps := []) Tcall_10 rfl rfl (fun w hs => LineGraph_spec k w) ?_)
    rintro _ _ ⟨ul, rfl, rfl⟩
    show Run _ _ (putF _ _ _ (.tuple #[.agg #[.int .i64 (gridN 1 k), ul], .bool (gridOk 1 k)])) [.own ul 64 2 ((gridE 1 k).length) (ints (fl2 (gridE 1 k))), .own (.slice A_u1 m c_u1) 64 2 m (ints es), .own uw 34 1 (rs.length) (oc rs), .grp 3 1 (gl rs), .own up 34 1 (ps.length) (oc ps), .grp 3 1 (gl ps), .blk b1 25 [.int .i64 N, .slice A_u1 m c_u1]]
    refine Run.q (v := .tuple #[.agg #[.int .i64 (gridN 1 k), ul], .bool (gridOk 1 k)]) rfl (OpQ.y (OpY.pure rfl)) ?_
    refine Run.q (v := .agg #[.int .i64 (gridN 1 k), ul]) rfl (OpQ.y (OpY.pure rfl)) ?_
    refine Run.q (v := .bool (gridOk 1 k)) rfl (OpQ.y (OpY.pure rfl)) ?_
    refine Run.step rfl (OpStep.alloc (zs := [.int .i64 0, .slice none 0 0]) Tzero_25 fun b2 => ?_)
    refine Run.formOwn (.tail _ (List.Mem.head _)) (fun A_ul1 c_ul1 hv hcapc_ul1 hmaxc_ul1 => ?_) (fun _ _ _ => ⟨nofun, nofun, nofun⟩)
    subst hv
    refine Run.step rfl (OpStep.storeAll (us := [.int .i64 (gridN 1 k), .slice A_ul1 ((gridE 1 k).length) c_ul1]) Tsize_25 rfl rfl rfl (.here _) rfl ?_)
    refine Run.q (v := .bool (gridOk 1 k)) rfl (OpQ.y (OpY.pure rfl)) ?_
    refine Run.done ?_
    refine Run.seq ?_
    refine Run.region ?_
    refine Run.q (v := .int .i64 k) rfl (OpQ.y (OpY.pure rfl)) ?_
    refine Run.step rfl (OpStep.call (vs := [.int .i64 k]) (caps := []) Tcall_11 rfl rfl (fun w hs => sLineGraph_spec k w) ?_)
    rintro _ _ ⟨uk, rfl, rfl⟩
    show Run _ _ (putF _ _ _ (.tuple #[.agg #[.int .i64 (gridN 1 k), uk], .bool (gridOk 1 k)])) [.own uk 64 2 ((gridE 1 k).length) (ints (fl2 (gridE 1 k))), .blk b2 25 [.int .i64 (gridN 1 k), .slice A_ul1 ((gridE 1 k).length) c_ul1], .own (.slice A_ul1 ((gridE 1 k).length) c_ul1) 64 2 ((gridE 1 k).length) (ints (fl2 (gridE 1 k))), .own (.slice A_u1 m c_u1) 64 2 m (ints es), .own uw 34 1 (rs.length) (oc rs), .grp 3 1 (gl rs), .own up 34 1 (ps.length) (oc ps), .grp 3 1 (gl ps), .blk b1 25 [.int .i64 N, .slice A_u1 m c_u1]]
    refine Run.q (v := .tuple #[.agg #[.int .i64 (gridN 1 k), uk], .bool (gridOk 1 k)]) rfl (OpQ.y (OpY.pure rfl)) ?_
    refine Run.q (v := .agg #[.int .i64 (gridN 1 k), uk]) rfl (OpQ.y (OpY.pure rfl)) ?_
    refine Run.q (v := .bool (gridOk 1 k)) rfl (OpQ.y (OpY.pure rfl)) ?_
    refine Run.step rfl (OpStep.alloc (zs := [.int .i64 0, .slice none 0 0]) Tzero_25 fun b3 => ?_)
    refine Run.formOwn (.tail _ (List.Mem.head _)) (fun A_uk1 c_uk1 hv hcapc_uk1 hmaxc_uk1 => ?_) (fun _ _ _ => ⟨nofun, nofun, nofun⟩)
    subst hv
    refine Run.step rfl (OpStep.storeAll (us := [.int .i64 (gridN 1 k), .slice A_uk1 ((gridE 1 k).length) c_uk1]) Tsize_25 rfl rfl rfl (.here _) rfl ?_)
    refine Run.q (v := .bool (gridOk 1 k)) rfl (OpQ.y (OpY.pure rfl)) ?_
    refine Run.done ?_
    refine Run.seq ?_
    refine Run.seq ?_
    refine Run.region ?_
    refine Run.q (v := .bool (symOk N es m)) rfl (OpQ.y (OpY.pure rfl)) ?_
    refine Run.q (v := .bool (symOk N es m)) rfl (OpQ.y (OpY.pure rfl)) ?_
    refine Run.q (v := .bool false) rfl (OpQ.y (OpY.neqBSame Tbool_4 rfl rfl rfl)) ?_
    refine Run.q (v := .bool false) rfl (OpQ.y (OpY.pure rfl)) ?_
    refine Run.q (v := up) rfl (OpQ.y (OpY.pure rfl)) ?_
    refine Run.formOwn (.tail _ (.tail _ (.tail _ (.tail _ (.tail _ (.tail _ (.tail _ (List.Mem.head _)))))))) (fun A_up1 c_up1 hv hcapc_up1 hmaxc_up1 => ?_) (fun _ _ _ => ⟨nofun, nofun, nofun⟩)
    subst hv
    refine Run.q (v := .int .i64 (((ps.length : Nat) : Int))) rfl (OpQ.y (OpY.len Tsl_27 rfl)) ?_
    refine Run.q (v := uw) rfl (OpQ.y (OpY.pure rfl)) ?_
    refine Run.formOwn (.tail _ (.tail _ (.tail _ (.tail _ (.tail _ (List.Mem.head _)))))) (fun A_uw1 c_uw1 hv hcapc_uw1 hmaxc_uw1 => ?_) (fun _ _ _ => ⟨nofun, nofun, nofun⟩)
    subst hv
    refine Run.q (v := .int .i64 (((rs.length : Nat) : Int))) rfl (OpQ.y (OpY.len Tsl_27 rfl)) ?_
    refine Run.q (v := .bool ((((ps.length : Nat) : Int)) != (((rs.length : Nat) : Int)))) rfl (OpQ.y (OpY.pure rfl)) ?_
    refine Run.q (v := .bool ((((ps.length : Nat) : Int)) != (((rs.length : Nat) : Int)))) rfl (OpQ.y (OpY.pure rfl)) ?_
    rcases Bool.eq_false_or_eq_true ((((ps.length : Nat) : Int)) != (((rs.length : Nat) : Int))) with h69 | h69
    · refine Run.q (v := .bool true) rfl (OpQ.y (OpY.moveB rfl h69)) ?_
      have p69 := h69; try simp only [decide_eq_true_eq, decide_eq_false_iff_not, beq_iff_eq, bne_iff_ne, beq_eq_false_iff_ne, ne_eq, gt_iff_lt, ge_iff_le, Int.not_lt, Int.not_le, bne_eq_false_iff_eq, Bool.not_eq_true', Bool.not_eq_false', Bool.and_eq_true, Bool.and_eq_false_iff, Bool.or_eq_true, Bool.or_eq_false_iff, Decidable.not_not, List.cons.injEq, and_true] at p69
      exact absurd h69 (by rw [hlen]; simp) --DONE
    · refine Run.q (v := .bool false) rfl (OpQ.y (OpY.moveB rfl h69)) ?_
      have p69 := h69; try simp only [decide_eq_true_eq, decide_eq_false_iff_not, beq_iff_eq, bne_iff_ne, beq_eq_false_iff_ne, ne_eq, gt_iff_lt, ge_iff_le, Int.not_lt, Int.not_le, bne_eq_false_iff_eq, Bool.not_eq_true', Bool.not_eq_false', Bool.and_eq_true, Bool.and_eq_false_iff, Bool.or_eq_true, Bool.or_eq_false_iff, Decidable.not_not, List.cons.injEq, and_true] at p69
      refine Run.q (v := .bool (gridOk 1 k)) rfl (OpQ.y (OpY.pure rfl)) ?_
      refine Run.q (v := .bool (gridOk 1 k)) rfl (OpQ.y (OpY.pure rfl)) ?_
      refine Run.q (v := .bool false) rfl (OpQ.y (OpY.neqBSame Tbool_4 rfl rfl rfl)) ?_
      refine Run.q (v := .bool false) rfl (OpQ.y (OpY.pure rfl)) ?_
      refine Run.q (v := .bool false) rfl (OpQ.y (OpY.pure rfl)) ?_
      refine Run.q (v := .pointer (some ⟨b2, 0, none⟩)) rfl (OpQ.y (OpY.fieldAddr Tfo_25_0 rfl rfl)) ?_
      refine Run.q (v := .int .i64 (gridN 1 k)) rfl (OpQ.y (OpY.load1 Tone_3 rfl (Cells.blk (.tail _ (.tail _ (List.Mem.head _))) ⟨rfl, trivial⟩))) ?_
      refine Run.q (v := .pointer (some ⟨b3, 0, none⟩)) rfl (OpQ.y (OpY.fieldAddr Tfo_25_0 rfl rfl)) ?_
      refine Run.q (v := .int .i64 (gridN 1 k)) rfl (OpQ.y (OpY.load1 Tone_3 rfl (Cells.blk (.head _) ⟨rfl, trivial⟩))) ?_
      refine Run.q (v := .bool false) rfl (OpQ.y (OpY.neqSame rfl rfl rfl)) ?_
      refine Run.q (v := .bool false) rfl (OpQ.y (OpY.pure rfl)) ?_
      refine Run.q (v := .bool false) rfl (OpQ.y (OpY.pure rfl)) ?_
      refine Run.q (v := .pointer (some ⟨b2, 1, none⟩)) rfl (OpQ.y (OpY.fieldAddr Tfo_25_1 rfl rfl)) ?_
      refine Run.q (v := .slice A_ul1 ((gridE 1 k).length) c_ul1) rfl (OpQ.y (OpY.load1 Tone_23 rfl (Cells.blk (.tail _ (.tail _ (List.Mem.head _))) ⟨rfl, trivial⟩))) ?_
      refine Run.q (v := .int .i64 ((((gridE 1 k).length : Nat) : Int))) rfl (OpQ.y (OpY.len Tsl_23 rfl)) ?_
      refine Run.q (v := .pointer (some ⟨b3, 1, none⟩)) rfl (OpQ.y (OpY.fieldAddr Tfo_25_1 rfl rfl)) ?_
      refine Run.q (v := .slice A_uk1 ((gridE 1 k).length) c_uk1) rfl (OpQ.y (OpY.load1 Tone_23 rfl (Cells.blk (.head _) ⟨rfl, trivial⟩))) ?_
      refine Run.q (v := .int .i64 ((((gridE 1 k).length : Nat) : Int))) rfl (OpQ.y (OpY.len Tsl_23 rfl)) ?_
      refine Run.q (v := .bool false) rfl (OpQ.y (OpY.neqSame rfl rfl rfl)) ?_
      refine Run.q (v := .bool false) rfl (OpQ.y (OpY.pure rfl)) ?_
      refine Run.done ?_
      refine Run.cond (b := false) rfl (fun h => nomatch h) (fun _ => ?_)
      refine Run.skip ?_
      refine Run.seq ?_
      refine Run.seq ?_
      refine Run.region ?_
      refine Run.q (v := .slice A_up1 (ps.length) c_up1) rfl (OpQ.y (OpY.pure rfl)) ?_
      refine Run.q (v := .int .i64 (((ps.length : Nat) : Int))) rfl (OpQ.y (OpY.len Tsl_27 rfl)) ?_
      refine Run.q (v := .int .i64 0) rfl (OpQ.y (OpY.pure rfl)) ?_
      refine Run.done ?_
      refine Run.block ?_
      refine Run.loop (ι := Nat) [4, 15, 92, 93, 94, 95, 96, 97, 98, 99, 100, 101, 102, 103, 104, 105] (fun i => [(92, .int .i64 (((i : Nat) : Int)))]) (fun i => [.blk b3 25 [.int .i64 (gridN 1 k), .slice A_uk1 ((gridE 1 k).length) c_uk1], .own (.slice A_uk1 ((gridE 1 k).length) c_uk1) 64 2 ((gridE 1 k).length) (ints (fl2 (gridE 1 k))), .blk b2 25 [.int .i64 (gridN 1 k), .slice A_ul1 ((gridE 1 k).length) c_ul1], .own (.slice A_ul1 ((gridE 1 k).length) c_ul1) 64 2 ((gridE 1 k).length) (ints (fl2 (gridE 1 k))), .own (.slice A_u1 m c_u1) 64 2 m (ints es), .own (.slice A_uw1 (rs.length) c_uw1) 34 1 (rs.length) (oc rs), .grp 3 1 (gl rs), .own (.slice A_up1 (ps.length) c_up1) 34 1 (ps.length) (oc ps), .grp 3 1 (gl ps), .blk b1 25 [.int .i64 N, .slice A_u1 m c_u1]]) (fun i => i ≤ ps.length) (fun i => ps.length - i) 0 ?_ ?_ ?_ ?_
      · exact Nat.zero_le _
      · exact ⟨rfl, trivial⟩
      · exact (Some'.weak (.take (.take (.take (.take (.take (.take (.take (.take (.take (.take (.nil _))))))))))))
      · rintro i fr hinv
        show Run _ _ (over _ _ [(92, .int .i64 (((i : Nat) : Int)))] fr) [.blk b3 25 [.int .i64 (gridN 1 k), .slice A_uk1 ((gridE 1 k).length) c_uk1], .own (.slice A_uk1 ((gridE 1 k).length) c_uk1) 64 2 ((gridE 1 k).length) (ints (fl2 (gridE 1 k))), .blk b2 25 [.int .i64 (gridN 1 k), .slice A_ul1 ((gridE 1 k).length) c_ul1], .own (.slice A_ul1 ((gridE 1 k).length) c_ul1) 64 2 ((gridE 1 k).length) (ints (fl2 (gridE 1 k))), .own (.slice A_u1 m c_u1) 64 2 m (ints es), .own (.slice A_uw1 (rs.length) c_uw1) 34 1 (rs.length) (oc rs), .grp 3 1 (gl rs), .own (.slice A_up1 (ps.length) c_up1) 34 1 (ps.length) (oc ps), .grp 3 1 (gl ps), .blk b1 25 [.int .i64 N, .slice A_u1 m c_u1]]
        try dsimp only at hinv
        refine Run.seq ?_
        refine Run.region ?_
        refine Run.q (v := .bool (decide ((((i : Nat) : Int)) < (((ps.length : Nat) : Int))))) rfl (OpQ.y (OpY.pure rfl)) ?_
        refine Run.done ?_
        refine Run.seq ?_
        refine Run.cond (b := decide ((((i : Nat) : Int)) < (((ps.length : Nat) : Int)))) rfl (fun h93 => ?_) (fun h93 => ?_)
        · have p93 := h93; try simp only [decide_eq_true_eq, decide_eq_false_iff_not, beq_iff_eq, bne_iff_ne, beq_eq_false_iff_ne, ne_eq, gt_iff_lt, ge_iff_le, Int.not_lt, Int.not_le, bne_eq_false_iff_eq, Bool.not_eq_true', Bool.not_eq_false', Bool.and_eq_true, Bool.and_eq_false_iff, Bool.or_eq_true, Bool.or_eq_false_iff, Decidable.not_not, List.cons.injEq, and_true] at p93
          have hlti : i < ps.length := by omega
          refine Run.openOwn (.tail _ (.tail _ (.tail _ (.tail _ (.tail _ (.tail _ (.tail _ (List.Mem.head _)))))))) (by omega) (fun gp cgp hvgp hcapgp _ => ?_) (fun _ _ _ => ⟨nofun, nofun, nofun⟩)
          injection hvgp with hAgp _ hcgp; subst hAgp; subst hcgp
          refine Run.openOwn (.tail _ (.tail _ (.tail _ (.tail _ (.tail _ (List.Mem.head _)))))) (by omega) (fun gr cgr hvgr hcapgr _ => ?_) (fun _ _ _ => ⟨nofun, nofun, nofun⟩)
          injection hvgr with hAgr _ hcgr; subst hAgr; subst hcgr
          refine Run.skip ?_
          refine Run.seq ?_
          refine Run.block ?_
          refine Run.seq ?_
          refine Run.region ?_
          refine Run.q (v := .int .i64 (((i : Nat) : Int))) rfl (OpQ.y (OpY.pure rfl)) ?_
          refine Run.q (v := .int .i64 (((i : Nat) : Int))) rfl (OpQ.y (OpY.pure rfl)) ?_
          refine Run.done ?_
          refine Run.seq ?_
          refine Run.draws (by kernel_rfl) (by kernel_rfl) ?_
          refine Lex.q (v := .slice (some ⟨gp, 0, none⟩) (ps.length) c_up1) rfl (OpQ.y (OpY.pure rfl)) ?_
          refine Lex.q (v := .int .i64 (((i : Nat) : Int))) rfl (OpQ.y (OpY.pure rfl)) ?_
          refine Lex.q (v := .pointer (some ⟨gp, i, none⟩)) rfl (OpQ.y (OpY.index (kk := i) Tsl_27 rfl rfl (by omega) (by omega) (by first | rfl | omega))) ?_
          refine Lex.q (v := (vx ps (i))) rfl (OpQ.y (OpY.load1 Tone_34 rfl (Cells.own0 (.tail _ (.tail _ (.tail _ (.tail _ (.tail _ (.tail _ (.tail _ (List.Mem.head _)))))))) (preO (by omega))))) ?_
          refine Lex.q (v := .slice (some ⟨gr, 0, none⟩) (rs.length) c_uw1) rfl (OpQ.y (OpY.pure rfl)) ?_
          refine Lex.q (v := .int .i64 (((i : Nat) : Int))) rfl (OpQ.y (OpY.pure rfl)) ?_
          refine Lex.q (v := .pointer (some ⟨gr, i, none⟩)) rfl (OpQ.y (OpY.index (kk := i) Tsl_27 rfl rfl (by omega) (by omega) (by first | rfl | omega))) ?_
          refine Lex.q (v := (vx rs (i))) rfl (OpQ.y (OpY.load1 Tone_34 rfl (Cells.own0 (.tail _ (.tail _ (.tail _ (.tail _ (.tail _ (List.Mem.head _)))))) (preO (by omega))))) ?_
          refine Lex.q (v := .bool true) rfl (OpQ.call (vs := [(vx ps (i)), (vx rs (i))]) (caps := []) Tcall_12 rfl rfl (fun w hs => (by have h := qInts_spec (hs.grpSl (.tail _ (.tail _ (.tail _ (.tail _ (.tail _ (.tail _ (.tail _ (.tail _ (List.Mem.head _))))))))) i hlti) (hs.grpSl (.tail _ (.tail _ (.tail _ (.tail _ (.tail _ (.tail _ (List.Mem.head _))))))) i (by omega)); rw [decide_eq_true (lx_of hpr i)] at h; exact h))) ?_
          refine Lex.q (v := .bool false) rfl (OpQ.y (OpY.pure rfl)) ?_
          refine Lex.done ?_
          refine Run.cond (b := false) rfl (fun h => nomatch h) (fun _ => ?_)
          refine Run.skip ?_
          refine Run.blockEnd ?_
          refine Run.region ?_
          refine Run.q (v := .int .i64 ((((i : Nat) : Int)) + 1)) rfl (OpQ.y (OpY.add rfl rfl rfl (by omega) (by omega))) ?_
          refine Run.q (v := .int .i64 ((((i : Nat) : Int)) + 1)) rfl (OpQ.y (OpY.pure rfl)) ?_
          refine Run.done ?_
          refine Run.goal ⟨(by repeat (first | exact Same.refl _ _ | refine Same.put rfl ?_ | refine Same.over rfl rfl ?_)), i + 1, ?_, ?_, ?_, ?_⟩
          · omega
          · omega
          · exact ⟨(by first | rfl | (congr 1; omega) | simp), trivial⟩
          · exact (Some'.weak (.take (.takeEq (by first | rfl | simp) (.take (.takeEq (by first | rfl | simp) (.takeEq (by first | rfl | simp) (.takeEq (by first | rfl | simp) (.takeEq (by first | rfl | simp) (.takeEq (by first | rfl | simp) (.takeEq (by first | rfl | simp) (.take (.nil _))))))))))))
        · have p93 := h93; try simp only [decide_eq_true_eq, decide_eq_false_iff_not, beq_iff_eq, bne_iff_ne, beq_eq_false_iff_ne, ne_eq, gt_iff_lt, ge_iff_le, Int.not_lt, Int.not_le, bne_eq_false_iff_eq, Bool.not_eq_true', Bool.not_eq_false', Bool.and_eq_true, Bool.and_eq_false_iff, Bool.or_eq_true, Bool.or_eq_false_iff, Decidable.not_not, List.cons.injEq, and_true] at p93
          refine Run.exit rfl ?_
          refine Run.seq ?_
          refine Run.seq ?_
          refine Run.region ?_
          refine Run.q (v := .bool (gridOk 1 k)) rfl (OpQ.y (OpY.pure rfl)) ?_
          refine Run.done ?_
          refine Run.cut (ι := Nat) [4, 16, 17, 107, 108, 109, 110, 111, 112, 113, 114, 115, 116, 117, 118, 119, 120, 121, 122, 123, 124] (fun t9 => []) (fun t9 => [.blk b3 25 [.int .i64 (gridN 1 k), .slice A_uk1 ((gridE 1 k).length) c_uk1], .own (.slice A_uk1 ((gridE 1 k).length) c_uk1) 64 2 ((gridE 1 k).length) (ints (fl2 (gridE 1 k))), .blk b2 25 [.int .i64 (gridN 1 k), .slice A_ul1 ((gridE 1 k).length) c_ul1], .own (.slice A_ul1 ((gridE 1 k).length) c_ul1) 64 2 ((gridE 1 k).length) (ints (fl2 (gridE 1 k))), .own (.slice A_u1 m c_u1) 64 2 m (ints es), .own (.slice A_uw1 (rs.length) c_uw1) 34 1 (rs.length) (oc rs), .grp 3 1 (gl rs), .own (.slice A_up1 (ps.length) c_up1) 34 1 (ps.length) (oc ps), .grp 3 1 (gl ps), .blk b1 25 [.int .i64 N, .slice A_u1 m c_u1]]) (fun t9 => True) ?_ ?_
          · refine Run.cond (b := gridOk 1 k) rfl (fun h106 => ?_) (fun h106 => ?_)
            · have p106 := h106; try simp only [decide_eq_true_eq, decide_eq_false_iff_not, beq_iff_eq, bne_iff_ne, beq_eq_false_iff_ne, ne_eq, gt_iff_lt, ge_iff_le, Int.not_lt, Int.not_le, bne_eq_false_iff_eq, Bool.not_eq_true', Bool.not_eq_false', Bool.and_eq_true, Bool.and_eq_false_iff, Bool.or_eq_true, Bool.or_eq_false_iff, Decidable.not_not, List.cons.injEq, and_true] at p106
              have hone : gridOk 1 k = true := h106
              refine Run.seq ?_
              refine Run.region ?_
              refine Run.q (v := .agg #[.int .i64 (gridN 1 k), .slice A_ul1 ((gridE 1 k).length) c_ul1]) rfl (OpQ.y (OpY.loadN (cs := [.int .i64 (gridN 1 k), .slice A_ul1 ((gridE 1 k).length) c_ul1]) Tagg_25 rfl (Cells.blk (.tail _ (.tail _ (List.Mem.head _))) ⟨rfl, rfl, trivial⟩))) ?_
              refine Run.q (v := .tuple #[.int .i64 (k - 1), .bool true]) rfl (OpQ.call (vs := [.agg #[.int .i64 (gridN 1 k), .slice A_ul1 ((gridE 1 k).length) c_ul1]]) (caps := []) Tcall_13 rfl rfl (fun w hs => (by have h := DiameterOf_spec (N := gridN 1 k) (hs.slOwn (.tail _ (.tail _ (.tail _ (List.Mem.head _))))); rw [line_di hone, line_dv hone] at h; exact h))) ?_
              refine Run.q (v := .tuple #[.int .i64 (k - 1), .bool true]) rfl (OpQ.y (OpY.pure rfl)) ?_
              refine Run.q (v := .int .i64 (k - 1)) rfl (OpQ.y (OpY.pure rfl)) ?_
              refine Run.q (v := .bool true) rfl (OpQ.y (OpY.pure rfl)) ?_
              refine Run.q (v := .int .i64 (k - 1)) rfl (OpQ.y (OpY.pure rfl)) ?_
              refine Run.q (v := .bool true) rfl (OpQ.y (OpY.pure rfl)) ?_
              refine Run.done ?_
              refine Run.seq ?_
              refine Run.region ?_
              refine Run.q (v := .bool true) rfl (OpQ.y (OpY.pure rfl)) ?_
              refine Run.q (v := .bool false) rfl (OpQ.y (OpY.pure rfl)) ?_
              refine Run.q (v := .bool false) rfl (OpQ.y (OpY.pure rfl)) ?_
              refine Run.q (v := .int .i64 (k - 1)) rfl (OpQ.y (OpY.pure rfl)) ?_
              refine Run.q (v := .int .i64 k) rfl (OpQ.y (OpY.pure rfl)) ?_
              refine Run.q (v := .int .i64 (k - 1)) rfl (OpQ.y (OpY.sub rfl rfl rfl (by omega) (by omega))) ?_
              refine Run.q (v := .bool false) rfl (OpQ.y (OpY.neqSame rfl rfl rfl)) ?_
              refine Run.q (v := .bool false) rfl (OpQ.y (OpY.pure rfl)) ?_
              refine Run.q (v := .bool false) rfl (OpQ.y (OpY.pure rfl)) ?_
              refine Run.q (v := .agg #[.int .i64 (gridN 1 k), .slice A_ul1 ((gridE 1 k).length) c_ul1]) rfl (OpQ.y (OpY.loadN (cs := [.int .i64 (gridN 1 k), .slice A_ul1 ((gridE 1 k).length) c_ul1]) Tagg_25 rfl (Cells.blk (.tail _ (.tail _ (List.Mem.head _))) ⟨rfl, rfl, trivial⟩))) ?_
              refine Run.q (v := .bool true) rfl (OpQ.call (vs := [.agg #[.int .i64 (gridN 1 k), .slice A_ul1 ((gridE 1 k).length) c_ul1]]) (caps := []) Tcall_14 rfl rfl (fun w hs => (by have h := IsValidCouplingGraph_spec (N := gridN 1 k) (hs.slOwn (.tail _ (.tail _ (.tail _ (List.Mem.head _))))); rw [line_cgOk hone] at h; exact h))) ?_
              refine Run.q (v := .bool false) rfl (OpQ.y (OpY.pure rfl)) ?_
              refine Run.q (v := .bool false) rfl (OpQ.y (OpY.pure rfl)) ?_
              refine Run.done ?_
              refine Run.cond (b := false) rfl (fun h => nomatch h) (fun _ => ?_)
              refine Run.skip ?_
              refine Run.goal ⟨(by repeat (first | exact Same.refl _ _ | refine Same.put rfl ?_ | refine Same.over rfl rfl ?_)), 0, ?_, ?_, ?_⟩
              · trivial
              · exact trivial
              · exact (Some'.weak (.take (.takeEq (by first | rfl | simp) (.take (.takeEq (by first | rfl | simp) (.takeEq (by first | rfl | simp) (.takeEq (by first | rfl | simp) (.takeEq (by first | rfl | simp) (.takeEq (by first | rfl | simp) (.takeEq (by first | rfl | simp) (.take (.nil _))))))))))))
            · have p106 := h106; try simp only [decide_eq_true_eq, decide_eq_false_iff_not, beq_iff_eq, bne_iff_ne, beq_eq_false_iff_ne, ne_eq, gt_iff_lt, ge_iff_le, Int.not_lt, Int.not_le, bne_eq_false_iff_eq, Bool.not_eq_true', Bool.not_eq_false', Bool.and_eq_true, Bool.and_eq_false_iff, Bool.or_eq_true, Bool.or_eq_false_iff, Decidable.not_not, List.cons.injEq, and_true] at p106
              refine Run.skip ?_
              refine Run.goal ⟨(by repeat (first | exact Same.refl _ _ | refine Same.put rfl ?_ | refine Same.over rfl rfl ?_)), 0, ?_, ?_, ?_⟩
              · trivial
              · exact trivial
              · exact (Some'.weak (.take (.takeEq (by first | rfl | simp) (.take (.takeEq (by first | rfl | simp) (.takeEq (by first | rfl | simp) (.takeEq (by first | rfl | simp) (.takeEq (by first | rfl | simp) (.takeEq (by first | rfl | simp) (.takeEq (by first | rfl | simp) (.take (.nil _))))))))))))
          · rintro t9 fr hcut
            show Run _ _ (over _ _ [] fr) [.blk b3 25 [.int .i64 (gridN 1 k), .slice A_uk1 ((gridE 1 k).length) c_uk1], .own (.slice A_uk1 ((gridE 1 k).length) c_uk1) 64 2 ((gridE 1 k).length) (ints (fl2 (gridE 1 k))), .blk b2 25 [.int .i64 (gridN 1 k), .slice A_ul1 ((gridE 1 k).length) c_ul1], .own (.slice A_ul1 ((gridE 1 k).length) c_ul1) 64 2 ((gridE 1 k).length) (ints (fl2 (gridE 1 k))), .own (.slice A_u1 m c_u1) 64 2 m (ints es), .own (.slice A_uw1 (rs.length) c_uw1) 34 1 (rs.length) (oc rs), .grp 3 1 (gl rs), .own (.slice A_up1 (ps.length) c_up1) 34 1 (ps.length) (oc ps), .grp 3 1 (gl ps), .blk b1 25 [.int .i64 N, .slice A_u1 m c_u1]]
            refine Run.seq ?_
            refine Run.seq ?_
            refine Run.region ?_
            refine Run.q (v := .bool (symOk N es m)) rfl (OpQ.y (OpY.pure rfl)) ?_
            refine Run.q (v := .bool (!(symOk N es m))) rfl (OpQ.y (OpY.pure rfl)) ?_
            refine Run.done ?_
            refine Run.cond (b := !(symOk N es m)) rfl (fun h126 => ?_) (fun h126 => ?_)
            · have p126 := h126; try simp only [decide_eq_true_eq, decide_eq_false_iff_not, beq_iff_eq, bne_iff_ne, beq_eq_false_iff_ne, ne_eq, gt_iff_lt, ge_iff_le, Int.not_lt, Int.not_le, bne_eq_false_iff_eq, Bool.not_eq_true', Bool.not_eq_false', Bool.and_eq_true, Bool.and_eq_false_iff, Bool.or_eq_true, Bool.or_eq_false_iff, Decidable.not_not, List.cons.injEq, and_true] at p126
              refine Run.seq ?_
              refine Run.region ?_
              refine Run.q (v := .bool true) rfl (OpQ.y (OpY.pure rfl)) ?_
              refine Run.done ?_
              refine Run.ret ?_
              refine ⟨.bool true, [], Out.one rfl rfl, (Some'.weak (.nil _)), ?_⟩
              rfl
            · have p126 := h126; try simp only [decide_eq_true_eq, decide_eq_false_iff_not, beq_iff_eq, bne_iff_ne, beq_eq_false_iff_ne, ne_eq, gt_iff_lt, ge_iff_le, Int.not_lt, Int.not_le, bne_eq_false_iff_eq, Bool.not_eq_true', Bool.not_eq_false', Bool.and_eq_true, Bool.and_eq_false_iff, Bool.or_eq_true, Bool.or_eq_false_iff, Decidable.not_not, List.cons.injEq, and_true] at p126
              have hok : symOk N es m = true := by simpa using h126
              have hcg : cgOk N es m = true := by have h := hok; rw [symOk, Bool.and_eq_true] at h; exact h.1
              have hN6 : N ≤ 6 := by have h := hok; rw [symOk, Bool.and_eq_true] at h; exact of_decide_eq_true h.2
              have hcN := cgOk_N hcg
              have he := cgOk_edges hcg
              obtain ⟨tl, htl⟩ := symR_first hok
              have hpl : 0 < ps.length := by
                have h := congrArg List.length hps
                rw [htl] at h; simp at h; omega
              have hfirst : lx ps 0 = idl N.toNat := by rw [lx, hps, htl]; rfl
              obtain ⟨LL, hLL⟩ : ∃ LL, lx ps (ps.length - 1) = LL := ⟨_, rfl⟩
              have hin : ∀ i, i < ps.length → lx ps i ∈ symR N es m := fun i hi => by rw [← hps]; exact List.mem_map.2 ⟨_, px_eq hi, rfl⟩
              have hau : Aut es m N.toNat LL := (mem_symR hok).1 (hLL ▸ hin _ (by omega))
              have hal := hau.len
              have hlL : (lx ps (ps.length - 1)).length = N.toNat := by rw [hLL]; exact hal
              have hl0 : (lx ps 0).length = N.toNat := by rw [hfirst]; simp
              refine Run.skip ?_
              refine Run.seq ?_
              refine Run.region ?_
              refine Run.q (v := .slice none 0 0) rfl (OpQ.y (OpY.pure rfl)) ?_
              refine Run.done ?_
              refine Run.seq ?_
              refine Run.seq ?_
              refine Run.region ?_
              refine Run.q (v := .int .i64 0) rfl (OpQ.y (OpY.pure rfl)) ?_
              refine Run.done ?_
              refine Run.block ?_
              refine Run.weak (H' := [.grp 3 1 (gl ([])), .blk b3 25 [.int .i64 (gridN 1 k), .slice A_uk1 ((gridE 1 k).length) c_uk1], .own (.slice A_uk1 ((gridE 1 k).length) c_uk1) 64 2 ((gridE 1 k).length) (ints (fl2 (gridE 1 k))), .blk b2 25 [.int .i64 (gridN 1 k), .slice A_ul1 ((gridE 1 k).length) c_ul1], .own (.slice A_ul1 ((gridE 1 k).length) c_ul1) 64 2 ((gridE 1 k).length) (ints (fl2 (gridE 1 k))), .own (.slice A_u1 m c_u1) 64 2 m (ints es), .own (.slice A_uw1 (rs.length) c_uw1) 34 1 (rs.length) (oc rs), .grp 3 1 (gl rs), .own (.slice A_up1 (ps.length) c_up1) 34 1 (ps.length) (oc ps), .grp 3 1 (gl ps), .blk b1 25 [.int .i64 N, .slice A_u1 m c_u1]]) (Weak.grpNil _ _) ?_ ⟨_, _, rfl, fun _ => nofun, fun _ => nofun⟩
              refine Run.weak (H' := [.own (.slice none 0 0) 34 1 0 ([]), .grp 3 1 (gl ([])), .blk b3 25 [.int .i64 (gridN 1 k), .slice A_uk1 ((gridE 1 k).length) c_uk1], .own (.slice A_uk1 ((gridE 1 k).length) c_uk1) 64 2 ((gridE 1 k).length) (ints (fl2 (gridE 1 k))), .blk b2 25 [.int .i64 (gridN 1 k), .slice A_ul1 ((gridE 1 k).length) c_ul1], .own (.slice A_ul1 ((gridE 1 k).length) c_ul1) 64 2 ((gridE 1 k).length) (ints (fl2 (gridE 1 k))), .own (.slice A_u1 m c_u1) 64 2 m (ints es), .own (.slice A_uw1 (rs.length) c_uw1) 34 1 (rs.length) (oc rs), .grp 3 1 (gl rs), .own (.slice A_up1 (ps.length) c_up1) 34 1 (ps.length) (oc ps), .grp 3 1 (gl ps), .blk b1 25 [.int .i64 N, .slice A_u1 m c_u1]]) (Weak.nilOwn _ _) ?_ ⟨_, _, rfl, fun _ => nofun, fun _ => nofun⟩
              refine Run.loop (ι := Nat × Value × List (Value × List Int)) [4, 18, 19, 20, 21, 127, 128, 129, 130, 131, 132, 133, 134, 135, 136, 137, 138, 139, 140, 141, 142, 143, 144, 145, 146, 147, 148, 149, 150, 151] (fun ⟨v, vf, qs⟩ => [(18, vf), (19, .int .i64 (((v : Nat) : Int)))]) (fun ⟨v, vf, qs⟩ => [.own vf 34 1 (qs.length) (oc qs), .grp 3 1 (gl qs), .blk b3 25 [.int .i64 (gridN 1 k), .slice A_uk1 ((gridE 1 k).length) c_uk1], .own (.slice A_uk1 ((gridE 1 k).length) c_uk1) 64 2 ((gridE 1 k).length) (ints (fl2 (gridE 1 k))), .blk b2 25 [.int .i64 (gridN 1 k), .slice A_ul1 ((gridE 1 k).length) c_ul1], .own (.slice A_ul1 ((gridE 1 k).length) c_ul1) 64 2 ((gridE 1 k).length) (ints (fl2 (gridE 1 k))), .own (.slice A_u1 m c_u1) 64 2 m (ints es), .own (.slice A_uw1 (rs.length) c_uw1) 34 1 (rs.length) (oc rs), .grp 3 1 (gl rs), .own (.slice A_up1 (ps.length) c_up1) 34 1 (ps.length) (oc ps), .grp 3 1 (gl ps), .blk b1 25 [.int .i64 N, .slice A_u1 m c_u1]]) (fun ⟨v, vf, qs⟩ => v ≤ N.toNat ∧ qs.map (·.2) = (List.range v).map (fun s => distL es m N.toNat s)) (fun ⟨v, vf, qs⟩ => N.toNat - v) (0, .slice none 0 0, []) ?_ ?_ ?_ ?_
              · exact ⟨Nat.zero_le _, rfl⟩
              · exact ⟨rfl, rfl, trivial⟩
              · exact (((((((((((((Weak.front [.own (.slice none 0 0) 34 1 0 ([]), .grp 3 1 (gl ([])), .blk b3 25 [.int .i64 (gridN 1 k), .slice A_uk1 ((gridE 1 k).length) c_uk1], .own (.slice A_uk1 ((gridE 1 k).length) c_uk1) 64 2 ((gridE 1 k).length) (ints (fl2 (gridE 1 k))), .blk b2 25 [.int .i64 (gridN 1 k), .slice A_ul1 ((gridE 1 k).length) c_ul1], .own (.slice A_ul1 ((gridE 1 k).length) c_ul1) 64 2 ((gridE 1 k).length) (ints (fl2 (gridE 1 k))), .own (.slice A_u1 m c_u1) 64 2 m (ints es), .own (.slice A_uw1 (rs.length) c_uw1) 34 1 (rs.length) (oc rs), .grp 3 1 (gl rs), .own (.slice A_up1 (ps.length) c_up1) 34 1 (ps.length) (oc ps), .grp 3 1 (gl ps)] (.blk b1 25 [.int .i64 N, .slice A_u1 m c_u1]) []).trans (Weak.front [.blk b1 25 [.int .i64 N, .slice A_u1 m c_u1], .own (.slice none 0 0) 34 1 0 ([]), .grp 3 1 (gl ([])), .blk b3 25 [.int .i64 (gridN 1 k), .slice A_uk1 ((gridE 1 k).length) c_uk1], .own (.slice A_uk1 ((gridE 1 k).length) c_uk1) 64 2 ((gridE 1 k).length) (ints (fl2 (gridE 1 k))), .blk b2 25 [.int .i64 (gridN 1 k), .slice A_ul1 ((gridE 1 k).length) c_ul1], .own (.slice A_ul1 ((gridE 1 k).length) c_ul1) 64 2 ((gridE 1 k).length) (ints (fl2 (gridE 1 k))), .own (.slice A_u1 m c_u1) 64 2 m (ints es), .own (.slice A_uw1 (rs.length) c_uw1) 34 1 (rs.length) (oc rs), .grp 3 1 (gl rs), .own (.slice A_up1 (ps.length) c_up1) 34 1 (ps.length) (oc ps)] (.grp 3 1 (gl ps)) [])).trans (Weak.front [.grp 3 1 (gl ps), .blk b1 25 [.int .i64 N, .slice A_u1 m c_u1], .own (.slice none 0 0) 34 1 0 ([]), .grp 3 1 (gl ([])), .blk b3 25 [.int .i64 (gridN 1 k), .slice A_uk1 ((gridE 1 k).length) c_uk1], .own (.slice A_uk1 ((gridE 1 k).length) c_uk1) 64 2 ((gridE 1 k).length) (ints (fl2 (gridE 1 k))), .blk b2 25 [.int .i64 (gridN 1 k), .slice A_ul1 ((gridE 1 k).length) c_ul1], .own (.slice A_ul1 ((gridE 1 k).length) c_ul1) 64 2 ((gridE 1 k).length) (ints (fl2 (gridE 1 k))), .own (.slice A_u1 m c_u1) 64 2 m (ints es), .own (.slice A_uw1 (rs.length) c_uw1) 34 1 (rs.length) (oc rs), .grp 3 1 (gl rs)] (.own (.slice A_up1 (ps.length) c_up1) 34 1 (ps.length) (oc ps)) [])).trans (Weak.front [.own (.slice A_up1 (ps.length) c_up1) 34 1 (ps.length) (oc ps), .grp 3 1 (gl ps), .blk b1 25 [.int .i64 N, .slice A_u1 m c_u1], .own (.slice none 0 0) 34 1 0 ([]), .grp 3 1 (gl ([])), .blk b3 25 [.int .i64 (gridN 1 k), .slice A_uk1 ((gridE 1 k).length) c_uk1], .own (.slice A_uk1 ((gridE 1 k).length) c_uk1) 64 2 ((gridE 1 k).length) (ints (fl2 (gridE 1 k))), .blk b2 25 [.int .i64 (gridN 1 k), .slice A_ul1 ((gridE 1 k).length) c_ul1], .own (.slice A_ul1 ((gridE 1 k).length) c_ul1) 64 2 ((gridE 1 k).length) (ints (fl2 (gridE 1 k))), .own (.slice A_u1 m c_u1) 64 2 m (ints es), .own (.slice A_uw1 (rs.length) c_uw1) 34 1 (rs.length) (oc rs)] (.grp 3 1 (gl rs)) [])).trans (Weak.front [.grp 3 1 (gl rs), .own (.slice A_up1 (ps.length) c_up1) 34 1 (ps.length) (oc ps), .grp 3 1 (gl ps), .blk b1 25 [.int .i64 N, .slice A_u1 m c_u1], .own (.slice none 0 0) 34 1 0 ([]), .grp 3 1 (gl ([])), .blk b3 25 [.int .i64 (gridN 1 k), .slice A_uk1 ((gridE 1 k).length) c_uk1], .own (.slice A_uk1 ((gridE 1 k).length) c_uk1) 64 2 ((gridE 1 k).length) (ints (fl2 (gridE 1 k))), .blk b2 25 [.int .i64 (gridN 1 k), .slice A_ul1 ((gridE 1 k).length) c_ul1], .own (.slice A_ul1 ((gridE 1 k).length) c_ul1) 64 2 ((gridE 1 k).length) (ints (fl2 (gridE 1 k))), .own (.slice A_u1 m c_u1) 64 2 m (ints es)] (.own (.slice A_uw1 (rs.length) c_uw1) 34 1 (rs.length) (oc rs)) [])).trans (Weak.front [.own (.slice A_uw1 (rs.length) c_uw1) 34 1 (rs.length) (oc rs), .grp 3 1 (gl rs), .own (.slice A_up1 (ps.length) c_up1) 34 1 (ps.length) (oc ps), .grp 3 1 (gl ps), .blk b1 25 [.int .i64 N, .slice A_u1 m c_u1], .own (.slice none 0 0) 34 1 0 ([]), .grp 3 1 (gl ([])), .blk b3 25 [.int .i64 (gridN 1 k), .slice A_uk1 ((gridE 1 k).length) c_uk1], .own (.slice A_uk1 ((gridE 1 k).length) c_uk1) 64 2 ((gridE 1 k).length) (ints (fl2 (gridE 1 k))), .blk b2 25 [.int .i64 (gridN 1 k), .slice A_ul1 ((gridE 1 k).length) c_ul1], .own (.slice A_ul1 ((gridE 1 k).length) c_ul1) 64 2 ((gridE 1 k).length) (ints (fl2 (gridE 1 k)))] (.own (.slice A_u1 m c_u1) 64 2 m (ints es)) [])).trans (Weak.front [.own (.slice A_u1 m c_u1) 64 2 m (ints es), .own (.slice A_uw1 (rs.length) c_uw1) 34 1 (rs.length) (oc rs), .grp 3 1 (gl rs), .own (.slice A_up1 (ps.length) c_up1) 34 1 (ps.length) (oc ps), .grp 3 1 (gl ps), .blk b1 25 [.int .i64 N, .slice A_u1 m c_u1], .own (.slice none 0 0) 34 1 0 ([]), .grp 3 1 (gl ([])), .blk b3 25 [.int .i64 (gridN 1 k), .slice A_uk1 ((gridE 1 k).length) c_uk1], .own (.slice A_uk1 ((gridE 1 k).length) c_uk1) 64 2 ((gridE 1 k).length) (ints (fl2 (gridE 1 k))), .blk b2 25 [.int .i64 (gridN 1 k), .slice A_ul1 ((gridE 1 k).length) c_ul1]] (.own (.slice A_ul1 ((gridE 1 k).length) c_ul1) 64 2 ((gridE 1 k).length) (ints (fl2 (gridE 1 k)))) [])).trans (Weak.front [.own (.slice A_ul1 ((gridE 1 k).length) c_ul1) 64 2 ((gridE 1 k).length) (ints (fl2 (gridE 1 k))), .own (.slice A_u1 m c_u1) 64 2 m (ints es), .own (.slice A_uw1 (rs.length) c_uw1) 34 1 (rs.length) (oc rs), .grp 3 1 (gl rs), .own (.slice A_up1 (ps.length) c_up1) 34 1 (ps.length) (oc ps), .grp 3 1 (gl ps), .blk b1 25 [.int .i64 N, .slice A_u1 m c_u1], .own (.slice none 0 0) 34 1 0 ([]), .grp 3 1 (gl ([])), .blk b3 25 [.int .i64 (gridN 1 k), .slice A_uk1 ((gridE 1 k).length) c_uk1], .own (.slice A_uk1 ((gridE 1 k).length) c_uk1) 64 2 ((gridE 1 k).length) (ints (fl2 (gridE 1 k)))] (.blk b2 25 [.int .i64 (gridN 1 k), .slice A_ul1 ((gridE 1 k).length) c_ul1]) [])).trans (Weak.front [.blk b2 25 [.int .i64 (gridN 1 k), .slice A_ul1 ((gridE 1 k).length) c_ul1], .own (.slice A_ul1 ((gridE 1 k).length) c_ul1) 64 2 ((gridE 1 k).length) (ints (fl2 (gridE 1 k))), .own (.slice A_u1 m c_u1) 64 2 m (ints es), .own (.slice A_uw1 (rs.length) c_uw1) 34 1 (rs.length) (oc rs), .grp 3 1 (gl rs), .own (.slice A_up1 (ps.length) c_up1) 34 1 (ps.length) (oc ps), .grp 3 1 (gl ps), .blk b1 25 [.int .i64 N, .slice A_u1 m c_u1], .own (.slice none 0 0) 34 1 0 ([]), .grp 3 1 (gl ([])), .blk b3 25 [.int .i64 (gridN 1 k), .slice A_uk1 ((gridE 1 k).length) c_uk1]] (.own (.slice A_uk1 ((gridE 1 k).length) c_uk1) 64 2 ((gridE 1 k).length) (ints (fl2 (gridE 1 k)))) [])).trans (Weak.front [.own (.slice A_uk1 ((gridE 1 k).length) c_uk1) 64 2 ((gridE 1 k).length) (ints (fl2 (gridE 1 k))), .blk b2 25 [.int .i64 (gridN 1 k), .slice A_ul1 ((gridE 1 k).length) c_ul1], .own (.slice A_ul1 ((gridE 1 k).length) c_ul1) 64 2 ((gridE 1 k).length) (ints (fl2 (gridE 1 k))), .own (.slice A_u1 m c_u1) 64 2 m (ints es), .own (.slice A_uw1 (rs.length) c_uw1) 34 1 (rs.length) (oc rs), .grp 3 1 (gl rs), .own (.slice A_up1 (ps.length) c_up1) 34 1 (ps.length) (oc ps), .grp 3 1 (gl ps), .blk b1 25 [.int .i64 N, .slice A_u1 m c_u1], .own (.slice none 0 0) 34 1 0 ([]), .grp 3 1 (gl ([]))] (.blk b3 25 [.int .i64 (gridN 1 k), .slice A_uk1 ((gridE 1 k).length) c_uk1]) [])).trans (Weak.front [.blk b3 25 [.int .i64 (gridN 1 k), .slice A_uk1 ((gridE 1 k).length) c_uk1], .own (.slice A_uk1 ((gridE 1 k).length) c_uk1) 64 2 ((gridE 1 k).length) (ints (fl2 (gridE 1 k))), .blk b2 25 [.int .i64 (gridN 1 k), .slice A_ul1 ((gridE 1 k).length) c_ul1], .own (.slice A_ul1 ((gridE 1 k).length) c_ul1) 64 2 ((gridE 1 k).length) (ints (fl2 (gridE 1 k))), .own (.slice A_u1 m c_u1) 64 2 m (ints es), .own (.slice A_uw1 (rs.length) c_uw1) 34 1 (rs.length) (oc rs), .grp 3 1 (gl rs), .own (.slice A_up1 (ps.length) c_up1) 34 1 (ps.length) (oc ps), .grp 3 1 (gl ps), .blk b1 25 [.int .i64 N, .slice A_u1 m c_u1], .own (.slice none 0 0) 34 1 0 ([])] (.grp 3 1 (gl ([]))) [])).trans (Weak.front [.grp 3 1 (gl ([])), .blk b3 25 [.int .i64 (gridN 1 k), .slice A_uk1 ((gridE 1 k).length) c_uk1], .own (.slice A_uk1 ((gridE 1 k).length) c_uk1) 64 2 ((gridE 1 k).length) (ints (fl2 (gridE 1 k))), .blk b2 25 [.int .i64 (gridN 1 k), .slice A_ul1 ((gridE 1 k).length) c_ul1], .own (.slice A_ul1 ((gridE 1 k).length) c_ul1) 64 2 ((gridE 1 k).length) (ints (fl2 (gridE 1 k))), .own (.slice A_u1 m c_u1) 64 2 m (ints es), .own (.slice A_uw1 (rs.length) c_uw1) 34 1 (rs.length) (oc rs), .grp 3 1 (gl rs), .own (.slice A_up1 (ps.length) c_up1) 34 1 (ps.length) (oc ps), .grp 3 1 (gl ps), .blk b1 25 [.int .i64 N, .slice A_u1 m c_u1]] (.own (.slice none 0 0) 34 1 0 ([])) [])).trans (Some'.weak (.takeEq (by first | rfl | simp [gl, oc]) (.takeEq (by first | rfl | simp [gl, oc]) (.take (.take (.take (.take (.take (.take (.take (.take (.take (.take (.nil _)))))))))))))))
              · rintro ⟨v, vf, qs⟩ fr hinv
                show Run _ _ (over _ _ [(18, vf), (19, .int .i64 (((v : Nat) : Int)))] fr) [.own vf 34 1 (qs.length) (oc qs), .grp 3 1 (gl qs), .blk b3 25 [.int .i64 (gridN 1 k), .slice A_uk1 ((gridE 1 k).length) c_uk1], .own (.slice A_uk1 ((gridE 1 k).length) c_uk1) 64 2 ((gridE 1 k).length) (ints (fl2 (gridE 1 k))), .blk b2 25 [.int .i64 (gridN 1 k), .slice A_ul1 ((gridE 1 k).length) c_ul1], .own (.slice A_ul1 ((gridE 1 k).length) c_ul1) 64 2 ((gridE 1 k).length) (ints (fl2 (gridE 1 k))), .own (.slice A_u1 m c_u1) 64 2 m (ints es), .own (.slice A_uw1 (rs.length) c_uw1) 34 1 (rs.length) (oc rs), .grp 3 1 (gl rs), .own (.slice A_up1 (ps.length) c_up1) 34 1 (ps.length) (oc ps), .grp 3 1 (gl ps), .blk b1 25 [.int .i64 N, .slice A_u1 m c_u1]]
                try dsimp only at hinv
                have hinv0 := hinv
                refine Run.seq ?_
                refine Run.seq ?_
                refine Run.region ?_
                refine Run.q (v := .int .i64 (((v : Nat) : Int))) rfl (OpQ.y (OpY.pure rfl)) ?_
                refine Run.q (v := .pointer (some ⟨b1, 0, none⟩)) rfl (OpQ.y (OpY.fieldAddr Tfo_25_0 rfl rfl)) ?_
                refine Run.q (v := .int .i64 N) rfl (OpQ.y (OpY.load1 Tone_3 rfl (Cells.blk (.tail _ (.tail _ (.tail _ (.tail _ (.tail _ (.tail _ (.tail _ (.tail _ (.tail _ (.tail _ (.tail _ (List.Mem.head _)))))))))))) ⟨rfl, trivial⟩))) ?_
                refine Run.q (v := .bool (decide ((((v : Nat) : Int)) < N))) rfl (OpQ.y (OpY.pure rfl)) ?_
                refine Run.done ?_
                refine Run.cond (b := decide ((((v : Nat) : Int)) < N)) rfl (fun h130 => ?_) (fun h130 => ?_)
                · have p130 := h130; try simp only [decide_eq_true_eq, decide_eq_false_iff_not, beq_iff_eq, bne_iff_ne, beq_eq_false_iff_ne, ne_eq, gt_iff_lt, ge_iff_le, Int.not_lt, Int.not_le, bne_eq_false_iff_eq, Bool.not_eq_true', Bool.not_eq_false', Bool.and_eq_true, Bool.and_eq_false_iff, Bool.or_eq_true, Bool.or_eq_false_iff, Decidable.not_not, List.cons.injEq, and_true] at p130
                  have hvN : v < N.toNat := by omega
                  have hql : qs.length = v := by have h := congrArg List.length hinv.2; simpa using h
                  refine Run.skip ?_
                  refine Run.seq ?_
                  refine Run.block ?_
                  refine Run.seq ?_
                  refine Run.region ?_
                  refine Run.q (v := .agg #[.int .i64 N, .slice A_u1 m c_u1]) rfl (OpQ.y (OpY.loadN (cs := [.int .i64 N, .slice A_u1 m c_u1]) Tagg_25 rfl (Cells.blk (.tail _ (.tail _ (.tail _ (.tail _ (.tail _ (.tail _ (.tail _ (.tail _ (.tail _ (.tail _ (.tail _ (List.Mem.head _)))))))))))) ⟨rfl, rfl, trivial⟩))) ?_
                  refine Run.q (v := .int .i64 (((v : Nat) : Int))) rfl (OpQ.y (OpY.pure rfl)) ?_
                  refine Run.step rfl (OpStep.call (vs := [.agg #[.int .i64 N, .slice A_u1 m c_u1], .int .i64 (((v : Nat) : Int))]) (caps := []) Tcall_15 rfl rfl (fun w hs => (by have h := DistancesFrom_spec (N := N) (node := (v : Int)) (hs.slOwn (.tail _ (.tail _ (.tail _ (.tail _ (.tail _ (.tail _ (List.Mem.head _)))))))); rw [nbOk_of hcg ⟨by omega, by omega⟩, distR_of hcg ⟨by omega, by omega⟩, Int.toNat_natCast] at h; exact h)) ?_)
                  rintro _ _ ⟨uf, hlf, rfl, rfl⟩
                  show Run _ _ (putF _ _ _ (.tuple #[uf, .bool true])) [.own uf 3 1 ((distL es m N.toNat v).length) (ints (distL es m N.toNat v)), .own vf 34 1 (qs.length) (oc qs), .grp 3 1 (gl qs), .blk b3 25 [.int .i64 (gridN 1 k), .slice A_uk1 ((gridE 1 k).length) c_uk1], .own (.slice A_uk1 ((gridE 1 k).length) c_uk1) 64 2 ((gridE 1 k).length) (ints (fl2 (gridE 1 k))), .blk b2 25 [.int .i64 (gridN 1 k), .slice A_ul1 ((gridE 1 k).length) c_ul1], .own (.slice A_ul1 ((gridE 1 k).length) c_ul1) 64 2 ((gridE 1 k).length) (ints (fl2 (gridE 1 k))), .own (.slice A_u1 m c_u1) 64 2 m (ints es), .own (.slice A_uw1 (rs.length) c_uw1) 34 1 (rs.length) (oc rs), .grp 3 1 (gl rs), .own (.slice A_up1 (ps.length) c_up1) 34 1 (ps.length) (oc ps), .grp 3 1 (gl ps), .blk b1 25 [.int .i64 N, .slice A_u1 m c_u1]]
                  have hlD : (distL es m N.toNat v).length = N.toNat := distL_len (by omega)
                  refine Run.q (v := .tuple #[uf, .bool true]) rfl (OpQ.y (OpY.pure rfl)) ?_
                  refine Run.q (v := uf) rfl (OpQ.y (OpY.pure rfl)) ?_
                  refine Run.q (v := .bool true) rfl (OpQ.y (OpY.pure rfl)) ?_
                  refine Run.q (v := uf) rfl (OpQ.y (OpY.pure rfl)) ?_
                  refine Run.q (v := .bool true) rfl (OpQ.y (OpY.pure rfl)) ?_
                  refine Run.done ?_
                  refine Run.seq ?_
                  refine Run.seq ?_
                  refine Run.region ?_
                  refine Run.q (v := .bool true) rfl (OpQ.y (OpY.pure rfl)) ?_
                  refine Run.q (v := .bool false) rfl (OpQ.y (OpY.pure rfl)) ?_
                  refine Run.q (v := .bool false) rfl (OpQ.y (OpY.pure rfl)) ?_
                  refine Run.q (v := uf) rfl (OpQ.y (OpY.pure rfl)) ?_
                  refine Run.formOwn (.head _) (fun A_uf1 c_uf1 hv hcapc_uf1 hmaxc_uf1 => ?_) (fun _ _ _ => ⟨nofun, nofun, nofun⟩)
                  subst hv
                  refine Run.q (v := .int .i64 ((((distL es m N.toNat v).length : Nat) : Int))) rfl (OpQ.y (OpY.len Tsl_34 rfl)) ?_
                  refine Run.q (v := .pointer (some ⟨b1, 0, none⟩)) rfl (OpQ.y (OpY.fieldAddr Tfo_25_0 rfl rfl)) ?_
                  refine Run.q (v := .int .i64 N) rfl (OpQ.y (OpY.load1 Tone_3 rfl (Cells.blk (.tail _ (.tail _ (.tail _ (.tail _ (.tail _ (.tail _ (.tail _ (.tail _ (.tail _ (.tail _ (.tail _ (.tail _ (List.Mem.head _))))))))))))) ⟨rfl, trivial⟩))) ?_
                  refine Run.q (v := .bool (((((distL es m N.toNat v).length : Nat) : Int)) != N)) rfl (OpQ.y (OpY.pure rfl)) ?_
                  refine Run.q (v := .bool (((((distL es m N.toNat v).length : Nat) : Int)) != N)) rfl (OpQ.y (OpY.pure rfl)) ?_
                  refine Run.done ?_
                  refine Run.cond (b := ((((distL es m N.toNat v).length : Nat) : Int)) != N) rfl (fun h147 => ?_) (fun h147 => ?_)
                  · exact absurd h147 (by rw [hlD]; simp; omega) --DONE
                  · have p147 := h147; try simp only [decide_eq_true_eq, decide_eq_false_iff_not, beq_iff_eq, bne_iff_ne, beq_eq_false_iff_ne, ne_eq, gt_iff_lt, ge_iff_le, Int.not_lt, Int.not_le, bne_eq_false_iff_eq, Bool.not_eq_true', Bool.not_eq_false', Bool.and_eq_true, Bool.and_eq_false_iff, Bool.or_eq_true, Bool.or_eq_false_iff, Decidable.not_not, List.cons.injEq, and_true] at p147
                    refine Run.skip ?_
                    refine Run.region ?_
                    refine Run.q (v := vf) rfl (OpQ.y (OpY.pure rfl)) ?_
                    refine Run.q (v := .slice A_uf1 ((distL es m N.toNat v).length) c_uf1) rfl (OpQ.y (OpY.pure rfl)) ?_
                    refine Run.step rfl (OpStep.buildSlice (us := [.slice A_uf1 ((distL es m N.toNat v).length) c_uf1]) Tsl_27 (by decide) (by decide) ⟨rfl, [.slice A_uf1 ((distL es m N.toNat v).length) c_uf1], _, rfl, rfl, rfl, rfl⟩ rfl fun b4 => ?_)
                    refine Run.step rfl (OpStep.append (H1 := [.own (.slice (some ⟨b4, 0, none⟩) 1 1) 34 1 1 ([.slice A_uf1 ((distL es m N.toNat v).length) c_uf1]), .own (.slice A_uf1 ((distL es m N.toNat v).length) c_uf1) 3 1 ((distL es m N.toNat v).length) (ints (distL es m N.toNat v))]) (H2 := [.grp 3 1 (gl qs), .blk b3 25 [.int .i64 (gridN 1 k), .slice A_uk1 ((gridE 1 k).length) c_uk1], .own (.slice A_uk1 ((gridE 1 k).length) c_uk1) 64 2 ((gridE 1 k).length) (ints (fl2 (gridE 1 k))), .blk b2 25 [.int .i64 (gridN 1 k), .slice A_ul1 ((gridE 1 k).length) c_ul1], .own (.slice A_ul1 ((gridE 1 k).length) c_ul1) 64 2 ((gridE 1 k).length) (ints (fl2 (gridE 1 k))), .own (.slice A_u1 m c_u1) 64 2 m (ints es), .own (.slice A_uw1 (rs.length) c_uw1) 34 1 (rs.length) (oc rs), .grp 3 1 (gl rs), .own (.slice A_up1 (ps.length) c_up1) 34 1 (ps.length) (oc ps), .grp 3 1 (gl ps), .blk b1 25 [.int .i64 N, .slice A_u1 m c_u1]]) (v := vf) (u := .slice (some ⟨b4, 0, none⟩) 1 1) (n := qs.length) (m := 1) (xs := oc qs) (ys := [.slice A_uf1 ((distL es m N.toNat v).length) c_uf1]) Tsl_27 (by decide) rfl rfl rfl rfl (fun w hs => hs.slOwn (.head _)) (by simp [Value.oneCell']) (by omega) (by simp only [maxLen]; omega) fun av1 hnav1 => ?_)
                    refine Run.weak (H' := [.own (.slice (some ⟨b4, 0, none⟩) 1 1) 34 1 1 ([.slice A_uf1 ((distL es m N.toNat v).length) c_uf1]), .own (.slice A_uf1 ((distL es m N.toNat v).length) c_uf1) 3 1 ((distL es m N.toNat v).length) (ints (distL es m N.toNat v)), .own av1 34 1 ((qs ++ [((.slice A_uf1 ((distL es m N.toNat v).length) c_uf1 : Value), distL es m N.toNat v)]).length) (oc (qs ++ [((.slice A_uf1 ((distL es m N.toNat v).length) c_uf1 : Value), distL es m N.toNat v)])), .grp 3 1 (gl qs), .blk b3 25 [.int .i64 (gridN 1 k), .slice A_uk1 ((gridE 1 k).length) c_uk1], .own (.slice A_uk1 ((gridE 1 k).length) c_uk1) 64 2 ((gridE 1 k).length) (ints (fl2 (gridE 1 k))), .blk b2 25 [.int .i64 (gridN 1 k), .slice A_ul1 ((gridE 1 k).length) c_ul1], .own (.slice A_ul1 ((gridE 1 k).length) c_ul1) 64 2 ((gridE 1 k).length) (ints (fl2 (gridE 1 k))), .own (.slice A_u1 m c_u1) 64 2 m (ints es), .own (.slice A_uw1 (rs.length) c_uw1) 34 1 (rs.length) (oc rs), .grp 3 1 (gl rs), .own (.slice A_up1 (ps.length) c_up1) 34 1 (ps.length) (oc ps), .grp 3 1 (gl ps), .blk b1 25 [.int .i64 N, .slice A_u1 m c_u1]]) (Some'.weak (.take (.take (.takeEq (by simp [oc]) (.take (.take (.take (.take (.take (.take (.take (.take (.take (.take (.take (.nil _)))))))))))))))) ?_ ⟨_, _, rfl, fun _ => nofun, fun _ => nofun⟩
                    refine Run.weak (H' := [.grp 3 1 (gl (qs ++ [((.slice A_uf1 ((distL es m N.toNat v).length) c_uf1 : Value), distL es m N.toNat v)])), .own (.slice (some ⟨b4, 0, none⟩) 1 1) 34 1 1 ([.slice A_uf1 ((distL es m N.toNat v).length) c_uf1]), .own av1 34 1 ((qs ++ [((.slice A_uf1 ((distL es m N.toNat v).length) c_uf1 : Value), distL es m N.toNat v)]).length) (oc (qs ++ [((.slice A_uf1 ((distL es m N.toNat v).length) c_uf1 : Value), distL es m N.toNat v)])), .blk b3 25 [.int .i64 (gridN 1 k), .slice A_uk1 ((gridE 1 k).length) c_uk1], .own (.slice A_uk1 ((gridE 1 k).length) c_uk1) 64 2 ((gridE 1 k).length) (ints (fl2 (gridE 1 k))), .blk b2 25 [.int .i64 (gridN 1 k), .slice A_ul1 ((gridE 1 k).length) c_ul1], .own (.slice A_ul1 ((gridE 1 k).length) c_ul1) 64 2 ((gridE 1 k).length) (ints (fl2 (gridE 1 k))), .own (.slice A_u1 m c_u1) 64 2 m (ints es), .own (.slice A_uw1 (rs.length) c_uw1) 34 1 (rs.length) (oc rs), .grp 3 1 (gl rs), .own (.slice A_up1 (ps.length) c_up1) 34 1 (ps.length) (oc ps), .grp 3 1 (gl ps), .blk b1 25 [.int .i64 N, .slice A_u1 m c_u1]]) (((Weak.front [.own (.slice (some ⟨b4, 0, none⟩) 1 1) 34 1 1 ([.slice A_uf1 ((distL es m N.toNat v).length) c_uf1]), .own (.slice A_uf1 ((distL es m N.toNat v).length) c_uf1) 3 1 ((distL es m N.toNat v).length) (ints (distL es m N.toNat v)), .own av1 34 1 ((qs ++ [((.slice A_uf1 ((distL es m N.toNat v).length) c_uf1 : Value), distL es m N.toNat v)]).length) (oc (qs ++ [((.slice A_uf1 ((distL es m N.toNat v).length) c_uf1 : Value), distL es m N.toNat v)]))] (.grp 3 1 (gl qs)) [.blk b3 25 [.int .i64 (gridN 1 k), .slice A_uk1 ((gridE 1 k).length) c_uk1], .own (.slice A_uk1 ((gridE 1 k).length) c_uk1) 64 2 ((gridE 1 k).length) (ints (fl2 (gridE 1 k))), .blk b2 25 [.int .i64 (gridN 1 k), .slice A_ul1 ((gridE 1 k).length) c_ul1], .own (.slice A_ul1 ((gridE 1 k).length) c_ul1) 64 2 ((gridE 1 k).length) (ints (fl2 (gridE 1 k))), .own (.slice A_u1 m c_u1) 64 2 m (ints es), .own (.slice A_uw1 (rs.length) c_uw1) 34 1 (rs.length) (oc rs), .grp 3 1 (gl rs), .own (.slice A_up1 (ps.length) c_up1) 34 1 (ps.length) (oc ps), .grp 3 1 (gl ps), .blk b1 25 [.int .i64 N, .slice A_u1 m c_u1]]).trans (Weak.front [.grp 3 1 (gl qs), .own (.slice (some ⟨b4, 0, none⟩) 1 1) 34 1 1 ([.slice A_uf1 ((distL es m N.toNat v).length) c_uf1])] (.own (.slice A_uf1 ((distL es m N.toNat v).length) c_uf1) 3 1 ((distL es m N.toNat v).length) (ints (distL es m N.toNat v))) [.own av1 34 1 ((qs ++ [((.slice A_uf1 ((distL es m N.toNat v).length) c_uf1 : Value), distL es m N.toNat v)]).length) (oc (qs ++ [((.slice A_uf1 ((distL es m N.toNat v).length) c_uf1 : Value), distL es m N.toNat v)])), .blk b3 25 [.int .i64 (gridN 1 k), .slice A_uk1 ((gridE 1 k).length) c_uk1], .own (.slice A_uk1 ((gridE 1 k).length) c_uk1) 64 2 ((gridE 1 k).length) (ints (fl2 (gridE 1 k))), .blk b2 25 [.int .i64 (gridN 1 k), .slice A_ul1 ((gridE 1 k).length) c_ul1], .own (.slice A_ul1 ((gridE 1 k).length) c_ul1) 64 2 ((gridE 1 k).length) (ints (fl2 (gridE 1 k))), .own (.slice A_u1 m c_u1) 64 2 m (ints es), .own (.slice A_uw1 (rs.length) c_uw1) 34 1 (rs.length) (oc rs), .grp 3 1 (gl rs), .own (.slice A_up1 (ps.length) c_up1) 34 1 (ps.length) (oc ps), .grp 3 1 (gl ps), .blk b1 25 [.int .i64 N, .slice A_u1 m c_u1]])).trans Weak.grpSnoc) ?_ ⟨_, _, rfl, fun _ => nofun, fun _ => nofun⟩
                    refine Run.q (v := av1) rfl (OpQ.y (OpY.pure rfl)) ?_
                    refine Run.done ?_
                    refine Run.blockEnd ?_
                    refine Run.region ?_
                    refine Run.q (v := .int .i64 (((v : Nat) : Int))) rfl (OpQ.y (OpY.pure rfl)) ?_
                    refine Run.q (v := .int .i64 ((((v : Nat) : Int)) + 1)) rfl (OpQ.y (OpY.add rfl rfl rfl (by omega) (by omega))) ?_
                    refine Run.q (v := .int .i64 ((((v : Nat) : Int)) + 1)) rfl (OpQ.y (OpY.pure rfl)) ?_
                    refine Run.done ?_
                    refine Run.goal ⟨(by repeat (first | exact Same.refl _ _ | refine Same.put rfl ?_ | refine Same.over rfl rfl ?_)), (v + 1, av1, qs ++ [((.slice A_uf1 ((distL es m N.toNat v).length) c_uf1 : Value), distL es m N.toNat v)]), ?_, ?_, ?_, ?_⟩
                    · exact ⟨hvN, by rw [List.map_append, hinv0.2, List.range_succ, List.map_append]; rfl⟩
                    · show N.toNat - (v + 1) < N.toNat - v; omega
                    · exact ⟨(by first | rfl | (congr 1; omega) | simp), (by first | rfl | (congr 1; omega) | simp), trivial⟩
                    · exact (((((((((((((Weak.front [.grp 3 1 (gl (qs ++ [((.slice A_uf1 ((distL es m N.toNat v).length) c_uf1 : Value), distL es m N.toNat v)])), .own (.slice (some ⟨b4, 0, none⟩) 1 1) 34 1 1 ([.slice A_uf1 ((distL es m N.toNat v).length) c_uf1]), .own av1 34 1 ((qs ++ [((.slice A_uf1 ((distL es m N.toNat v).length) c_uf1 : Value), distL es m N.toNat v)]).length) (oc (qs ++ [((.slice A_uf1 ((distL es m N.toNat v).length) c_uf1 : Value), distL es m N.toNat v)])), .blk b3 25 [.int .i64 (gridN 1 k), .slice A_uk1 ((gridE 1 k).length) c_uk1], .own (.slice A_uk1 ((gridE 1 k).length) c_uk1) 64 2 ((gridE 1 k).length) (ints (fl2 (gridE 1 k))), .blk b2 25 [.int .i64 (gridN 1 k), .slice A_ul1 ((gridE 1 k).length) c_ul1], .own (.slice A_ul1 ((gridE 1 k).length) c_ul1) 64 2 ((gridE 1 k).length) (ints (fl2 (gridE 1 k))), .own (.slice A_u1 m c_u1) 64 2 m (ints es), .own (.slice A_uw1 (rs.length) c_uw1) 34 1 (rs.length) (oc rs), .grp 3 1 (gl rs), .own (.slice A_up1 (ps.length) c_up1) 34 1 (ps.length) (oc ps), .grp 3 1 (gl ps)] (.blk b1 25 [.int .i64 N, .slice A_u1 m c_u1]) []).trans (Weak.front [.blk b1 25 [.int .i64 N, .slice A_u1 m c_u1], .grp 3 1 (gl (qs ++ [((.slice A_uf1 ((distL es m N.toNat v).length) c_uf1 : Value), distL es m N.toNat v)])), .own (.slice (some ⟨b4, 0, none⟩) 1 1) 34 1 1 ([.slice A_uf1 ((distL es m N.toNat v).length) c_uf1]), .own av1 34 1 ((qs ++ [((.slice A_uf1 ((distL es m N.toNat v).length) c_uf1 : Value), distL es m N.toNat v)]).length) (oc (qs ++ [((.slice A_uf1 ((distL es m N.toNat v).length) c_uf1 : Value), distL es m N.toNat v)])), .blk b3 25 [.int .i64 (gridN 1 k), .slice A_uk1 ((gridE 1 k).length) c_uk1], .own (.slice A_uk1 ((gridE 1 k).length) c_uk1) 64 2 ((gridE 1 k).length) (ints (fl2 (gridE 1 k))), .blk b2 25 [.int .i64 (gridN 1 k), .slice A_ul1 ((gridE 1 k).length) c_ul1], .own (.slice A_ul1 ((gridE 1 k).length) c_ul1) 64 2 ((gridE 1 k).length) (ints (fl2 (gridE 1 k))), .own (.slice A_u1 m c_u1) 64 2 m (ints es), .own (.slice A_uw1 (rs.length) c_uw1) 34 1 (rs.length) (oc rs), .grp 3 1 (gl rs), .own (.slice A_up1 (ps.length) c_up1) 34 1 (ps.length) (oc ps)] (.grp 3 1 (gl ps)) [])).trans (Weak.front [.grp 3 1 (gl ps), .blk b1 25 [.int .i64 N, .slice A_u1 m c_u1], .grp 3 1 (gl (qs ++ [((.slice A_uf1 ((distL es m N.toNat v).length) c_uf1 : Value), distL es m N.toNat v)])), .own (.slice (some ⟨b4, 0, none⟩) 1 1) 34 1 1 ([.slice A_uf1 ((distL es m N.toNat v).length) c_uf1]), .own av1 34 1 ((qs ++ [((.slice A_uf1 ((distL es m N.toNat v).length) c_uf1 : Value), distL es m N.toNat v)]).length) (oc (qs ++ [((.slice A_uf1 ((distL es m N.toNat v).length) c_uf1 : Value), distL es m N.toNat v)])), .blk b3 25 [.int .i64 (gridN 1 k), .slice A_uk1 ((gridE 1 k).length) c_uk1], .own (.slice A_uk1 ((gridE 1 k).length) c_uk1) 64 2 ((gridE 1 k).length) (ints (fl2 (gridE 1 k))), .blk b2 25 [.int .i64 (gridN 1 k), .slice A_ul1 ((gridE 1 k).length) c_ul1], .own (.slice A_ul1 ((gridE 1 k).length) c_ul1) 64 2 ((gridE 1 k).length) (ints (fl2 (gridE 1 k))), .own (.slice A_u1 m c_u1) 64 2 m (ints es), .own (.slice A_uw1 (rs.length) c_uw1) 34 1 (rs.length) (oc rs), .grp 3 1 (gl rs)] (.own (.slice A_up1 (ps.length) c_up1) 34 1 (ps.length) (oc ps)) [])).trans (Weak.front [.own (.slice A_up1 (ps.length) c_up1) 34 1 (ps.length) (oc ps), .grp 3 1 (gl ps), .blk b1 25 [.int .i64 N, .slice A_u1 m c_u1], .grp 3 1 (gl (qs ++ [((.slice A_uf1 ((distL es m N.toNat v).length) c_uf1 : Value), distL es m N.toNat v)])), .own (.slice (some ⟨b4, 0, none⟩) 1 1) 34 1 1 ([.slice A_uf1 ((distL es m N.toNat v).length) c_uf1]), .own av1 34 1 ((qs ++ [((.slice A_uf1 ((distL es m N.toNat v).length) c_uf1 : Value), distL es m N.toNat v)]).length) (oc (qs ++ [((.slice A_uf1 ((distL es m N.toNat v).length) c_uf1 : Value), distL es m N.toNat v)])), .blk b3 25 [.int .i64 (gridN 1 k), .slice A_uk1 ((gridE 1 k).length) c_uk1], .own (.slice A_uk1 ((gridE 1 k).length) c_uk1) 64 2 ((gridE 1 k).length) (ints (fl2 (gridE 1 k))), .blk b2 25 [.int .i64 (gridN 1 k), .slice A_ul1 ((gridE 1 k).length) c_ul1], .own (.slice A_ul1 ((gridE 1 k).length) c_ul1) 64 2 ((gridE 1 k).length) (ints (fl2 (gridE 1 k))), .own (.slice A_u1 m c_u1) 64 2 m (ints es), .own (.slice A_uw1 (rs.length) c_uw1) 34 1 (rs.length) (oc rs)] (.grp 3 1 (gl rs)) [])).trans (Weak.front [.grp 3 1 (gl rs), .own (.slice A_up1 (ps.length) c_up1) 34 1 (ps.length) (oc ps), .grp 3 1 (gl ps), .blk b1 25 [.int .i64 N, .slice A_u1 m c_u1], .grp 3 1 (gl (qs ++ [((.slice A_uf1 ((distL es m N.toNat v).length) c_uf1 : Value), distL es m N.toNat v)])), .own (.slice (some ⟨b4, 0, none⟩) 1 1) 34 1 1 ([.slice A_uf1 ((distL es m N.toNat v).length) c_uf1]), .own av1 34 1 ((qs ++ [((.slice A_uf1 ((distL es m N.toNat v).length) c_uf1 : Value), distL es m N.toNat v)]).length) (oc (qs ++ [((.slice A_uf1 ((distL es m N.toNat v).length) c_uf1 : Value), distL es m N.toNat v)])), .blk b3 25 [.int .i64 (gridN 1 k), .slice A_uk1 ((gridE 1 k).length) c_uk1], .own (.slice A_uk1 ((gridE 1 k).length) c_uk1) 64 2 ((gridE 1 k).length) (ints (fl2 (gridE 1 k))), .blk b2 25 [.int .i64 (gridN 1 k), .slice A_ul1 ((gridE 1 k).length) c_ul1], .own (.slice A_ul1 ((gridE 1 k).length) c_ul1) 64 2 ((gridE 1 k).length) (ints (fl2 (gridE 1 k))), .own (.slice A_u1 m c_u1) 64 2 m (ints es)] (.own (.slice A_uw1 (rs.length) c_uw1) 34 1 (rs.length) (oc rs)) [])).trans (Weak.front [.own (.slice A_uw1 (rs.length) c_uw1) 34 1 (rs.length) (oc rs), .grp 3 1 (gl rs), .own (.slice A_up1 (ps.length) c_up1) 34 1 (ps.length) (oc ps), .grp 3 1 (gl ps), .blk b1 25 [.int .i64 N, .slice A_u1 m c_u1], .grp 3 1 (gl (qs ++ [((.slice A_uf1 ((distL es m N.toNat v).length) c_uf1 : Value), distL es m N.toNat v)])), .own (.slice (some ⟨b4, 0, none⟩) 1 1) 34 1 1 ([.slice A_uf1 ((distL es m N.toNat v).length) c_uf1]), .own av1 34 1 ((qs ++ [((.slice A_uf1 ((distL es m N.toNat v).length) c_uf1 : Value), distL es m N.toNat v)]).length) (oc (qs ++ [((.slice A_uf1 ((distL es m N.toNat v).length) c_uf1 : Value), distL es m N.toNat v)])), .blk b3 25 [.int .i64 (gridN 1 k), .slice A_uk1 ((gridE 1 k).length) c_uk1], .own (.slice A_uk1 ((gridE 1 k).length) c_uk1) 64 2 ((gridE 1 k).length) (ints (fl2 (gridE 1 k))), .blk b2 25 [.int .i64 (gridN 1 k), .slice A_ul1 ((gridE 1 k).length) c_ul1], .own (.slice A_ul1 ((gridE 1 k).length) c_ul1) 64 2 ((gridE 1 k).length) (ints (fl2 (gridE 1 k)))] (.own (.slice A_u1 m c_u1) 64 2 m (ints es)) [])).trans (Weak.front [.own (.slice A_u1 m c_u1) 64 2 m (ints es), .own (.slice A_uw1 (rs.length) c_uw1) 34 1 (rs.length) (oc rs), .grp 3 1 (gl rs), .own (.slice A_up1 (ps.length) c_up1) 34 1 (ps.length) (oc ps), .grp 3 1 (gl ps), .blk b1 25 [.int .i64 N, .slice A_u1 m c_u1], .grp 3 1 (gl (qs ++ [((.slice A_uf1 ((distL es m N.toNat v).length) c_uf1 : Value), distL es m N.toNat v)])), .own (.slice (some ⟨b4, 0, none⟩) 1 1) 34 1 1 ([.slice A_uf1 ((distL es m N.toNat v).length) c_uf1]), .own av1 34 1 ((qs ++ [((.slice A_uf1 ((distL es m N.toNat v).length) c_uf1 : Value), distL es m N.toNat v)]).length) (oc (qs ++ [((.slice A_uf1 ((distL es m N.toNat v).length) c_uf1 : Value), distL es m N.toNat v)])), .blk b3 25 [.int .i64 (gridN 1 k), .slice A_uk1 ((gridE 1 k).length) c_uk1], .own (.slice A_uk1 ((gridE 1 k).length) c_uk1) 64 2 ((gridE 1 k).length) (ints (fl2 (gridE 1 k))), .blk b2 25 [.int .i64 (gridN 1 k), .slice A_ul1 ((gridE 1 k).length) c_ul1]] (.own (.slice A_ul1 ((gridE 1 k).length) c_ul1) 64 2 ((gridE 1 k).length) (ints (fl2 (gridE 1 k)))) [])).trans (Weak.front [.own (.slice A_ul1 ((gridE 1 k).length) c_ul1) 64 2 ((gridE 1 k).length) (ints (fl2 (gridE 1 k))), .own (.slice A_u1 m c_u1) 64 2 m (ints es), .own (.slice A_uw1 (rs.length) c_uw1) 34 1 (rs.length) (oc rs), .grp 3 1 (gl rs), .own (.slice A_up1 (ps.length) c_up1) 34 1 (ps.length) (oc ps), .grp 3 1 (gl ps), .blk b1 25 [.int .i64 N, .slice A_u1 m c_u1], .grp 3 1 (gl (qs ++ [((.slice A_uf1 ((distL es m N.toNat v).length) c_uf1 : Value), distL es m N.toNat v)])), .own (.slice (some ⟨b4, 0, none⟩) 1 1) 34 1 1 ([.slice A_uf1 ((distL es m N.toNat v).length) c_uf1]), .own av1 34 1 ((qs ++ [((.slice A_uf1 ((distL es m N.toNat v).length) c_uf1 : Value), distL es m N.toNat v)]).length) (oc (qs ++ [((.slice A_uf1 ((distL es m N.toNat v).length) c_uf1 : Value), distL es m N.toNat v)])), .blk b3 25 [.int .i64 (gridN 1 k), .slice A_uk1 ((gridE 1 k).length) c_uk1], .own (.slice A_uk1 ((gridE 1 k).length) c_uk1) 64 2 ((gridE 1 k).length) (ints (fl2 (gridE 1 k)))] (.blk b2 25 [.int .i64 (gridN 1 k), .slice A_ul1 ((gridE 1 k).length) c_ul1]) [])).trans (Weak.front [.blk b2 25 [.int .i64 (gridN 1 k), .slice A_ul1 ((gridE 1 k).length) c_ul1], .own (.slice A_ul1 ((gridE 1 k).length) c_ul1) 64 2 ((gridE 1 k).length) (ints (fl2 (gridE 1 k))), .own (.slice A_u1 m c_u1) 64 2 m (ints es), .own (.slice A_uw1 (rs.length) c_uw1) 34 1 (rs.length) (oc rs), .grp 3 1 (gl rs), .own (.slice A_up1 (ps.length) c_up1) 34 1 (ps.length) (oc ps), .grp 3 1 (gl ps), .blk b1 25 [.int .i64 N, .slice A_u1 m c_u1], .grp 3 1 (gl (qs ++ [((.slice A_uf1 ((distL es m N.toNat v).length) c_uf1 : Value), distL es m N.toNat v)])), .own (.slice (some ⟨b4, 0, none⟩) 1 1) 34 1 1 ([.slice A_uf1 ((distL es m N.toNat v).length) c_uf1]), .own av1 34 1 ((qs ++ [((.slice A_uf1 ((distL es m N.toNat v).length) c_uf1 : Value), distL es m N.toNat v)]).length) (oc (qs ++ [((.slice A_uf1 ((distL es m N.toNat v).length) c_uf1 : Value), distL es m N.toNat v)])), .blk b3 25 [.int .i64 (gridN 1 k), .slice A_uk1 ((gridE 1 k).length) c_uk1]] (.own (.slice A_uk1 ((gridE 1 k).length) c_uk1) 64 2 ((gridE 1 k).length) (ints (fl2 (gridE 1 k)))) [])).trans (Weak.front [.own (.slice A_uk1 ((gridE 1 k).length) c_uk1) 64 2 ((gridE 1 k).length) (ints (fl2 (gridE 1 k))), .blk b2 25 [.int .i64 (gridN 1 k), .slice A_ul1 ((gridE 1 k).length) c_ul1], .own (.slice A_ul1 ((gridE 1 k).length) c_ul1) 64 2 ((gridE 1 k).length) (ints (fl2 (gridE 1 k))), .own (.slice A_u1 m c_u1) 64 2 m (ints es), .own (.slice A_uw1 (rs.length) c_uw1) 34 1 (rs.length) (oc rs), .grp 3 1 (gl rs), .own (.slice A_up1 (ps.length) c_up1) 34 1 (ps.length) (oc ps), .grp 3 1 (gl ps), .blk b1 25 [.int .i64 N, .slice A_u1 m c_u1], .grp 3 1 (gl (qs ++ [((.slice A_uf1 ((distL es m N.toNat v).length) c_uf1 : Value), distL es m N.toNat v)])), .own (.slice (some ⟨b4, 0, none⟩) 1 1) 34 1 1 ([.slice A_uf1 ((distL es m N.toNat v).length) c_uf1]), .own av1 34 1 ((qs ++ [((.slice A_uf1 ((distL es m N.toNat v).length) c_uf1 : Value), distL es m N.toNat v)]).length) (oc (qs ++ [((.slice A_uf1 ((distL es m N.toNat v).length) c_uf1 : Value), distL es m N.toNat v)]))] (.blk b3 25 [.int .i64 (gridN 1 k), .slice A_uk1 ((gridE 1 k).length) c_uk1]) [])).trans (Weak.front [.blk b3 25 [.int .i64 (gridN 1 k), .slice A_uk1 ((gridE 1 k).length) c_uk1], .own (.slice A_uk1 ((gridE 1 k).length) c_uk1) 64 2 ((gridE 1 k).length) (ints (fl2 (gridE 1 k))), .blk b2 25 [.int .i64 (gridN 1 k), .slice A_ul1 ((gridE 1 k).length) c_ul1], .own (.slice A_ul1 ((gridE 1 k).length) c_ul1) 64 2 ((gridE 1 k).length) (ints (fl2 (gridE 1 k))), .own (.slice A_u1 m c_u1) 64 2 m (ints es), .own (.slice A_uw1 (rs.length) c_uw1) 34 1 (rs.length) (oc rs), .grp 3 1 (gl rs), .own (.slice A_up1 (ps.length) c_up1) 34 1 (ps.length) (oc ps), .grp 3 1 (gl ps), .blk b1 25 [.int .i64 N, .slice A_u1 m c_u1]] (.grp 3 1 (gl (qs ++ [((.slice A_uf1 ((distL es m N.toNat v).length) c_uf1 : Value), distL es m N.toNat v)]))) [.own (.slice (some ⟨b4, 0, none⟩) 1 1) 34 1 1 ([.slice A_uf1 ((distL es m N.toNat v).length) c_uf1]), .own av1 34 1 ((qs ++ [((.slice A_uf1 ((distL es m N.toNat v).length) c_uf1 : Value), distL es m N.toNat v)]).length) (oc (qs ++ [((.slice A_uf1 ((distL es m N.toNat v).length) c_uf1 : Value), distL es m N.toNat v)]))])).trans (Weak.front [.grp 3 1 (gl (qs ++ [((.slice A_uf1 ((distL es m N.toNat v).length) c_uf1 : Value), distL es m N.toNat v)])), .blk b3 25 [.int .i64 (gridN 1 k), .slice A_uk1 ((gridE 1 k).length) c_uk1], .own (.slice A_uk1 ((gridE 1 k).length) c_uk1) 64 2 ((gridE 1 k).length) (ints (fl2 (gridE 1 k))), .blk b2 25 [.int .i64 (gridN 1 k), .slice A_ul1 ((gridE 1 k).length) c_ul1], .own (.slice A_ul1 ((gridE 1 k).length) c_ul1) 64 2 ((gridE 1 k).length) (ints (fl2 (gridE 1 k))), .own (.slice A_u1 m c_u1) 64 2 m (ints es), .own (.slice A_uw1 (rs.length) c_uw1) 34 1 (rs.length) (oc rs), .grp 3 1 (gl rs), .own (.slice A_up1 (ps.length) c_up1) 34 1 (ps.length) (oc ps), .grp 3 1 (gl ps), .blk b1 25 [.int .i64 N, .slice A_u1 m c_u1], .own (.slice (some ⟨b4, 0, none⟩) 1 1) 34 1 1 ([.slice A_uf1 ((distL es m N.toNat v).length) c_uf1])] (.own av1 34 1 ((qs ++ [((.slice A_uf1 ((distL es m N.toNat v).length) c_uf1 : Value), distL es m N.toNat v)]).length) (oc (qs ++ [((.slice A_uf1 ((distL es m N.toNat v).length) c_uf1 : Value), distL es m N.toNat v)]))) [])).trans (Some'.weak (.takeEq (by first | rfl | simp [gl, oc]) (.takeEq (by first | rfl | simp [gl, oc]) (.take (.takeEq (by first | rfl | simp [gl, oc]) (.take (.takeEq (by first | rfl | simp [gl, oc]) (.takeEq (by first | rfl | simp [gl, oc]) (.takeEq (by first | rfl | simp [gl, oc]) (.takeEq (by first | rfl | simp [gl, oc]) (.takeEq (by first | rfl | simp [gl, oc]) (.takeEq (by first | rfl | simp [gl, oc]) (.take (.nil _)))))))))))))))
                · have p130 := h130; try simp only [decide_eq_true_eq, decide_eq_false_iff_not, beq_iff_eq, bne_iff_ne, beq_eq_false_iff_ne, ne_eq, gt_iff_lt, ge_iff_le, Int.not_lt, Int.not_le, bne_eq_false_iff_eq, Bool.not_eq_true', Bool.not_eq_false', Bool.and_eq_true, Bool.and_eq_false_iff, Bool.or_eq_true, Bool.or_eq_false_iff, Decidable.not_not, List.cons.injEq, and_true] at p130
                  have hvN : v = N.toNat := by omega
                  have hql : qs.length = N.toNat := by have h := congrArg List.length hinv.2; simpa [hvN] using h
                  have hqx : ∀ s, s < N.toNat → lx qs s = distL es m N.toNat s := fun s hs => by rw [lx, hinv.2, hvN]; simp [List.getD, hs]
                  refine Run.exit rfl ?_
                  refine Run.seq ?_
                  refine Run.openOwn (.tail _ (.tail _ (.tail _ (.tail _ (.tail _ (.tail _ (.tail _ (.tail _ (.tail _ (List.Mem.head _)))))))))) (by omega) (fun gq cgq hvgq hcapgq _ => ?_) (fun _ _ _ => ⟨nofun, nofun, nofun⟩)
                  injection hvgq with hAgq _ hcgq; subst hAgq; subst hcgq
                  refine Run.formGrp (.tail _ (.tail _ (.tail _ (.tail _ (.tail _ (.tail _ (.tail _ (.tail _ (.tail _ (.tail _ (List.Mem.head _))))))))))) (i := 0) (by omega) (by omega) (fun g0 cg0 hvg0 hcapg0 _ => ?_) (fun _ _ _ => ⟨nofun, nofun, nofun⟩)
                  refine Run.formGrp (.tail _ (.tail _ (.tail _ (.tail _ (.tail _ (.tail _ (.tail _ (.tail _ (.tail _ (.tail _ (List.Mem.head _))))))))))) (i := ps.length - 1) (by omega) (by omega) (fun g1 cg1 hvg1 hcapg1 _ => ?_) (fun _ _ _ => ⟨nofun, nofun, nofun⟩)
                  refine Run.region ?_
                  refine Run.q (v := .slice (some ⟨gq, 0, none⟩) (ps.length) c_up1) rfl (OpQ.y (OpY.pure rfl)) ?_
                  refine Run.q (v := .pointer (some ⟨gq, 0, none⟩)) rfl (OpQ.y (OpY.index (kk := 0) Tsl_27 rfl rfl (by omega) (by omega) (by first | rfl | omega))) ?_
                  refine Run.q (v := .slice (some ⟨g0, 0, none⟩) ((lx ps 0).length) cg0) rfl (OpQ.y (OpY.load1 Tone_34 rfl (hvg0 ▸ Cells.own0 (.tail _ (.tail _ (.tail _ (.tail _ (.tail _ (.tail _ (.tail _ (.tail _ (.tail _ (List.Mem.head _)))))))))) (preO (by omega))))) ?_
                  refine Run.q (v := .slice (some ⟨g0, 0, none⟩) ((lx ps 0).length) cg0) rfl (OpQ.y (OpY.pure rfl)) ?_
                  refine Run.done ?_
                  refine Run.seq ?_
                  refine Run.region ?_
                  refine Run.q (v := .slice (some ⟨gq, 0, none⟩) (ps.length) c_up1) rfl (OpQ.y (OpY.pure rfl)) ?_
                  refine Run.q (v := .slice (some ⟨gq, 0, none⟩) (ps.length) c_up1) rfl (OpQ.y (OpY.pure rfl)) ?_
                  refine Run.q (v := .int .i64 (((ps.length : Nat) : Int))) rfl (OpQ.y (OpY.len Tsl_27 rfl)) ?_
                  refine Run.q (v := .int .i64 ((((ps.length : Nat) : Int)) - 1)) rfl (OpQ.y (OpY.sub rfl rfl rfl (by omega) (by omega))) ?_
                  refine Run.q (v := .pointer (some ⟨gq, ps.length - 1, none⟩)) rfl (OpQ.y (OpY.index (kk := ps.length - 1) Tsl_27 rfl rfl (by omega) (by omega) (by first | rfl | omega))) ?_
                  refine Run.q (v := .slice (some ⟨g1, 0, none⟩) ((lx ps (ps.length - 1)).length) cg1) rfl (OpQ.y (OpY.load1 Tone_34 rfl (hvg1 ▸ Cells.own0 (.tail _ (.tail _ (.tail _ (.tail _ (.tail _ (.tail _ (.tail _ (.tail _ (.tail _ (List.Mem.head _)))))))))) (preO (by omega))))) ?_
                  refine Run.q (v := .slice (some ⟨g1, 0, none⟩) ((lx ps (ps.length - 1)).length) cg1) rfl (OpQ.y (OpY.pure rfl)) ?_
                  refine Run.done ?_
                  refine Run.seq ?_
                  refine Run.region ?_
                  refine Run.q (v := .pointer (some ⟨b1, 0, none⟩)) rfl (OpQ.y (OpY.fieldAddr Tfo_25_0 rfl rfl)) ?_
                  refine Run.q (v := .int .i64 N) rfl (OpQ.y (OpY.load1 Tone_3 rfl (Cells.blk (.tail _ (.tail _ (.tail _ (.tail _ (.tail _ (.tail _ (.tail _ (.tail _ (.tail _ (.tail _ (.tail _ (List.Mem.head _)))))))))))) ⟨rfl, trivial⟩))) ?_
                  refine Run.step rfl (OpStep.makeSlice (n := N.toNat) Tsl_34 rfl (by decide) (by first | rfl | (show Value.int _ N = _; congr 1; omega) | omega) (by first | rfl | (show Value.int _ N = _; congr 1; omega) | omega) (by omega) (by simp only [maxLen]; omega) fun b5 => ?_)
                  refine Run.q (v := .slice (some ⟨b5, 0, none⟩) (N.toNat) (N.toNat)) rfl (OpQ.y (OpY.pure rfl)) ?_
                  refine Run.done ?_
                  refine Run.seq ?_
                  refine Run.seq ?_
                  refine Run.region ?_
                  refine Run.q (v := .slice (some ⟨b5, 0, none⟩) (N.toNat) (N.toNat)) rfl (OpQ.y (OpY.pure rfl)) ?_
                  refine Run.q (v := .int .i64 (((N.toNat : Nat) : Int))) rfl (OpQ.y (OpY.len Tsl_34 rfl)) ?_
                  refine Run.q (v := .int .i64 0) rfl (OpQ.y (OpY.pure rfl)) ?_
                  refine Run.done ?_
                  refine Run.block ?_
                  refine Run.loop (ι := Nat × List Int) [4, 25, 26, 166, 167, 168, 169, 170, 171, 172, 173, 174, 175, 176, 177, 178, 179, 180, 181, 182, 183, 184, 185, 186, 187, 188, 189, 190, 191, 192, 193, 194, 195, 196, 197, 198, 199, 200, 201, 202, 203, 204, 205, 206, 207, 208, 209, 210, 211, 212] (fun ⟨v, X⟩ => [(166, .int .i64 (((v : Nat) : Int)))]) (fun ⟨v, X⟩ => [.own (.slice (some ⟨b5, 0, none⟩) (N.toNat) (N.toNat)) 3 1 (N.toNat) (ints X), .own vf 34 1 (qs.length) (oc qs), .grp 3 1 (gl qs), .blk b3 25 [.int .i64 (gridN 1 k), .slice A_uk1 ((gridE 1 k).length) c_uk1], .own (.slice A_uk1 ((gridE 1 k).length) c_uk1) 64 2 ((gridE 1 k).length) (ints (fl2 (gridE 1 k))), .blk b2 25 [.int .i64 (gridN 1 k), .slice A_ul1 ((gridE 1 k).length) c_ul1], .own (.slice A_ul1 ((gridE 1 k).length) c_ul1) 64 2 ((gridE 1 k).length) (ints (fl2 (gridE 1 k))), .own (.slice A_u1 m c_u1) 64 2 m (ints es), .own (.slice A_uw1 (rs.length) c_uw1) 34 1 (rs.length) (oc rs), .grp 3 1 (gl rs), .own (.slice (some ⟨gq, 0, none⟩) (ps.length) c_up1) 34 1 (ps.length) (oc ps), .grp 3 1 (gl ps), .blk b1 25 [.int .i64 N, .slice A_u1 m c_u1]]) (fun ⟨v, X⟩ => v ≤ N.toNat ∧ X.length = N.toNat ∧ ∀ i, i < v → ix X i = ix LL (P LL i)) (fun ⟨v, X⟩ => N.toNat - v) (0, List.replicate N.toNat 0) ?_ ?_ ?_ ?_
                  · exact ⟨Nat.zero_le _, by simp, fun i h => absurd h (by omega)⟩
                  · exact ⟨rfl, trivial⟩
                  · exact (Some'.weak (.takeEq (by first | rfl | (rw [List.flatten_replicate_singleton]; simp [ints])) (.take (.take (.take (.take (.take (.take (.take (.take (.take (.take (.take (.take (.nil _)))))))))))))))
                  · rintro ⟨v, X⟩ fr hinv
                    show Run _ _ (over _ _ [(166, .int .i64 (((v : Nat) : Int)))] fr) [.own (.slice (some ⟨b5, 0, none⟩) (N.toNat) (N.toNat)) 3 1 (N.toNat) (ints X), .own vf 34 1 (qs.length) (oc qs), .grp 3 1 (gl qs), .blk b3 25 [.int .i64 (gridN 1 k), .slice A_uk1 ((gridE 1 k).length) c_uk1], .own (.slice A_uk1 ((gridE 1 k).length) c_uk1) 64 2 ((gridE 1 k).length) (ints (fl2 (gridE 1 k))), .blk b2 25 [.int .i64 (gridN 1 k), .slice A_ul1 ((gridE 1 k).length) c_ul1], .own (.slice A_ul1 ((gridE 1 k).length) c_ul1) 64 2 ((gridE 1 k).length) (ints (fl2 (gridE 1 k))), .own (.slice A_u1 m c_u1) 64 2 m (ints es), .own (.slice A_uw1 (rs.length) c_uw1) 34 1 (rs.length) (oc rs), .grp 3 1 (gl rs), .own (.slice (some ⟨gq, 0, none⟩) (ps.length) c_up1) 34 1 (ps.length) (oc ps), .grp 3 1 (gl ps), .blk b1 25 [.int .i64 N, .slice A_u1 m c_u1]]
                    try dsimp only at hinv
                    have hinv3 := hinv
                    refine Run.seq ?_
                    refine Run.region ?_
                    refine Run.q (v := .bool (decide ((((v : Nat) : Int)) < (((N.toNat : Nat) : Int))))) rfl (OpQ.y (OpY.pure rfl)) ?_
                    refine Run.done ?_
                    refine Run.seq ?_
                    refine Run.cond (b := decide ((((v : Nat) : Int)) < (((N.toNat : Nat) : Int)))) rfl (fun h167 => ?_) (fun h167 => ?_)
                    · have p167 := h167; try simp only [decide_eq_true_eq, decide_eq_false_iff_not, beq_iff_eq, bne_iff_ne, beq_eq_false_iff_ne, ne_eq, gt_iff_lt, ge_iff_le, Int.not_lt, Int.not_le, bne_eq_false_iff_eq, Bool.not_eq_true', Bool.not_eq_false', Bool.and_eq_true, Bool.and_eq_false_iff, Bool.or_eq_true, Bool.or_eq_false_iff, Decidable.not_not, List.cons.injEq, and_true] at p167
                      have hv3 : v < N.toNat := by omega
                      have hrv := hau.rng v hv3
                      have hPv : ((P LL v : Nat) : Int) = ix LL v := by unfold P; omega
                      have hPl := hau.P_lt hv3
                      have hrp := hau.rng _ hPl
                      refine Run.skip ?_
                      refine Run.seq ?_
                      refine Run.block ?_
                      refine Run.seq ?_
                      refine Run.region ?_
                      refine Run.q (v := .int .i64 (((v : Nat) : Int))) rfl (OpQ.y (OpY.pure rfl)) ?_
                      refine Run.q (v := .int .i64 (((v : Nat) : Int))) rfl (OpQ.y (OpY.pure rfl)) ?_
                      refine Run.done ?_
                      refine Run.seq ?_
                      refine Run.seq ?_
                      refine Run.region ?_
                      refine Run.q (v := .slice (some ⟨g0, 0, none⟩) ((lx ps 0).length) cg0) rfl (OpQ.y (OpY.pure rfl)) ?_
                      refine Run.q (v := .int .i64 (((v : Nat) : Int))) rfl (OpQ.y (OpY.pure rfl)) ?_
                      refine Run.q (v := .pointer (some ⟨g0, v, none⟩)) rfl (OpQ.y (OpY.index (kk := v) Tsl_34 rfl rfl (by omega) (by omega) (by first | rfl | omega))) ?_
                      refine Run.q (v := .int .i64 (ix (lx ps (0)) (v))) rfl (OpQ.y (OpY.load1 Tone_3 rfl (Cells.grp (.tail _ (.tail _ (.tail _ (.tail _ (.tail _ (.tail _ (.tail _ (.tail _ (.tail _ (.tail _ (.tail _ (List.Mem.head _)))))))))))) (i := 0) (by omega) (by omega) hvg0 (pre1 (by omega))))) ?_
                      refine Run.q (v := .int .i64 (((v : Nat) : Int))) rfl (OpQ.y (OpY.pure rfl)) ?_
                      refine Run.q (v := .bool ((ix (lx ps (0)) (v)) != (((v : Nat) : Int)))) rfl (OpQ.y (OpY.pure rfl)) ?_
                      refine Run.done ?_
                      refine Run.cond (b := (ix (lx ps (0)) (v)) != (((v : Nat) : Int))) rfl (fun h174 => ?_) (fun h174 => ?_)
                      · exact absurd h174 (by rw [hfirst, ix_idl hv3]; simp) --DONE
                      · have p174 := h174; try simp only [decide_eq_true_eq, decide_eq_false_iff_not, beq_iff_eq, bne_iff_ne, beq_eq_false_iff_ne, ne_eq, gt_iff_lt, ge_iff_le, Int.not_lt, Int.not_le, bne_eq_false_iff_eq, Bool.not_eq_true', Bool.not_eq_false', Bool.and_eq_true, Bool.and_eq_false_iff, Bool.or_eq_true, Bool.or_eq_false_iff, Decidable.not_not, List.cons.injEq, and_true] at p174
                        refine Run.skip ?_
                        refine Run.seq ?_
                        refine Run.region ?_
                        refine Run.q (v := .slice (some ⟨b5, 0, none⟩) (N.toNat) (N.toNat)) rfl (OpQ.y (OpY.pure rfl)) ?_
                        refine Run.q (v := .int .i64 (((v : Nat) : Int))) rfl (OpQ.y (OpY.pure rfl)) ?_
                        refine Run.q (v := .slice (some ⟨g1, 0, none⟩) ((lx ps (ps.length - 1)).length) cg1) rfl (OpQ.y (OpY.pure rfl)) ?_
                        refine Run.q (v := .slice (some ⟨g1, 0, none⟩) ((lx ps (ps.length - 1)).length) cg1) rfl (OpQ.y (OpY.pure rfl)) ?_
                        refine Run.q (v := .int .i64 (((v : Nat) : Int))) rfl (OpQ.y (OpY.pure rfl)) ?_
                        refine Run.q (v := .pointer (some ⟨g1, v, none⟩)) rfl (OpQ.y (OpY.index (kk := v) Tsl_34 rfl rfl (by omega) (by omega) (by first | rfl | omega))) ?_
                        refine Run.q (v := .int .i64 (ix LL (v))) rfl (OpQ.y (OpY.load1 Tone_3 rfl (Cells.grp (.tail _ (.tail _ (.tail _ (.tail _ (.tail _ (.tail _ (.tail _ (.tail _ (.tail _ (.tail _ (.tail _ (List.Mem.head _)))))))))))) (i := ps.length - 1) (by omega) (by omega) hvg1 (by rw [hLL]; exact pre1 (by omega))))) ?_
                        refine Run.q (v := .pointer (some ⟨g1, P LL v, none⟩)) rfl (OpQ.y (OpY.index (kk := P LL v) Tsl_34 rfl rfl (by omega) (by omega) (by first | rfl | omega))) ?_
                        refine Run.q (v := .int .i64 (ix LL (P LL v))) rfl (OpQ.y (OpY.load1 Tone_3 rfl (Cells.grp (.tail _ (.tail _ (.tail _ (.tail _ (.tail _ (.tail _ (.tail _ (.tail _ (.tail _ (.tail _ (.tail _ (List.Mem.head _)))))))))))) (i := ps.length - 1) (by omega) (by omega) hvg1 (by rw [hLL]; exact pre1 (by omega))))) ?_
                        refine Run.q (v := .pointer (some ⟨b5, v, none⟩)) rfl (OpQ.y (OpY.index (kk := v) Tsl_34 rfl rfl (by omega) (by omega) (by first | rfl | omega))) ?_
                        refine Run.step rfl (OpStep.storeOwnInt (o := v) (a := ix LL (P LL v)) Tsize_3 rfl rfl (.here _) (by omega) ?_)
                        refine Run.done ?_
                        refine Run.seq ?_
                        refine Run.region ?_
                        refine Run.q (v := .slice (some ⟨b5, 0, none⟩) (N.toNat) (N.toNat)) rfl (OpQ.y (OpY.pure rfl)) ?_
                        refine Run.q (v := .int .i64 (((N.toNat : Nat) : Int))) rfl (OpQ.y (OpY.len Tsl_34 rfl)) ?_
                        refine Run.q (v := .int .i64 0) rfl (OpQ.y (OpY.pure rfl)) ?_
                        refine Run.done ?_
                        refine Run.block ?_
                        refine Run.loop (ι := Nat) [4, 26, 187, 188, 189, 190, 191, 192, 193, 194, 195, 196, 197, 198, 199, 200, 201, 202, 203, 204, 205, 206, 207, 208, 209, 210, 211] (fun u => [(187, .int .i64 (((u : Nat) : Int)))]) (fun u => [.own (.slice (some ⟨b5, 0, none⟩) (N.toNat) (N.toNat)) 3 1 (N.toNat) (ints (X.set v (ix LL (P LL v)))), .own vf 34 1 (qs.length) (oc qs), .grp 3 1 (gl qs), .blk b3 25 [.int .i64 (gridN 1 k), .slice A_uk1 ((gridE 1 k).length) c_uk1], .own (.slice A_uk1 ((gridE 1 k).length) c_uk1) 64 2 ((gridE 1 k).length) (ints (fl2 (gridE 1 k))), .blk b2 25 [.int .i64 (gridN 1 k), .slice A_ul1 ((gridE 1 k).length) c_ul1], .own (.slice A_ul1 ((gridE 1 k).length) c_ul1) 64 2 ((gridE 1 k).length) (ints (fl2 (gridE 1 k))), .own (.slice A_u1 m c_u1) 64 2 m (ints es), .own (.slice A_uw1 (rs.length) c_uw1) 34 1 (rs.length) (oc rs), .grp 3 1 (gl rs), .own (.slice (some ⟨gq, 0, none⟩) (ps.length) c_up1) 34 1 (ps.length) (oc ps), .grp 3 1 (gl ps), .blk b1 25 [.int .i64 N, .slice A_u1 m c_u1]]) (fun u => u ≤ N.toNat) (fun u => N.toNat - u) 0 ?_ ?_ ?_ ?_
                        · exact Nat.zero_le _
                        · exact ⟨rfl, trivial⟩
                        · exact (Some'.weak (.take (.take (.take (.take (.take (.take (.take (.take (.take (.take (.take (.take (.take (.nil _)))))))))))))))
                        · rintro u fr hinv
                          show Run _ _ (over _ _ [(187, .int .i64 (((u : Nat) : Int)))] fr) [.own (.slice (some ⟨b5, 0, none⟩) (N.toNat) (N.toNat)) 3 1 (N.toNat) (ints (X.set v (ix LL (P LL v)))), .own vf 34 1 (qs.length) (oc qs), .grp 3 1 (gl qs), .blk b3 25 [.int .i64 (gridN 1 k), .slice A_uk1 ((gridE 1 k).length) c_uk1], .own (.slice A_uk1 ((gridE 1 k).length) c_uk1) 64 2 ((gridE 1 k).length) (ints (fl2 (gridE 1 k))), .blk b2 25 [.int .i64 (gridN 1 k), .slice A_ul1 ((gridE 1 k).length) c_ul1], .own (.slice A_ul1 ((gridE 1 k).length) c_ul1) 64 2 ((gridE 1 k).length) (ints (fl2 (gridE 1 k))), .own (.slice A_u1 m c_u1) 64 2 m (ints es), .own (.slice A_uw1 (rs.length) c_uw1) 34 1 (rs.length) (oc rs), .grp 3 1 (gl rs), .own (.slice (some ⟨gq, 0, none⟩) (ps.length) c_up1) 34 1 (ps.length) (oc ps), .grp 3 1 (gl ps), .blk b1 25 [.int .i64 N, .slice A_u1 m c_u1]]
                          try dsimp only at hinv
                          refine Run.seq ?_
                          refine Run.region ?_
                          refine Run.q (v := .bool (decide ((((u : Nat) : Int)) < (((N.toNat : Nat) : Int))))) rfl (OpQ.y (OpY.pure rfl)) ?_
                          refine Run.done ?_
                          refine Run.seq ?_
                          refine Run.cond (b := decide ((((u : Nat) : Int)) < (((N.toNat : Nat) : Int)))) rfl (fun h188 => ?_) (fun h188 => ?_)
                          · have p188 := h188; try simp only [decide_eq_true_eq, decide_eq_false_iff_not, beq_iff_eq, bne_iff_ne, beq_eq_false_iff_ne, ne_eq, gt_iff_lt, ge_iff_le, Int.not_lt, Int.not_le, bne_eq_false_iff_eq, Bool.not_eq_true', Bool.not_eq_false', Bool.and_eq_true, Bool.and_eq_false_iff, Bool.or_eq_true, Bool.or_eq_false_iff, Decidable.not_not, List.cons.injEq, and_true] at p188
                            have hu3 : u < N.toNat := by omega
                            have hru := hau.rng u hu3
                            have hPu : ((P LL u : Nat) : Int) = ix LL u := by unfold P; omega
                            have hPul := hau.P_lt hu3
                            have hq1 := hqx _ hPl
                            have hq2 := hqx _ hv3
                            have hq3 : (lx qs (P LL v)).length = N.toNat := by rw [hq1]; exact distL_len hPl
                            have hq4 : (lx qs v).length = N.toNat := by rw [hq2]; exact distL_len hv3
                            refine Run.openOwn (.tail _ (List.Mem.head _)) (by omega) (fun gf cgf hvgf hcapgf _ => ?_) (fun _ _ _ => ⟨nofun, nofun, nofun⟩)
                            subst hvgf
                            refine Run.formGrp (.tail _ (.tail _ (List.Mem.head _))) (i := P LL v) (by omega) (by omega) (fun g2 cg2 hvg2 hcapg2 _ => ?_) (fun _ _ _ => ⟨nofun, nofun, nofun⟩)
                            refine Run.formGrp (.tail _ (.tail _ (List.Mem.head _))) (i := v) (by omega) (by omega) (fun g3 cg3 hvg3 hcapg3 _ => ?_) (fun _ _ _ => ⟨nofun, nofun, nofun⟩)
                            refine Run.skip ?_
                            refine Run.seq ?_
                            refine Run.block ?_
                            refine Run.seq ?_
                            refine Run.region ?_
                            refine Run.q (v := .int .i64 (((u : Nat) : Int))) rfl (OpQ.y (OpY.pure rfl)) ?_
                            refine Run.q (v := .int .i64 (((u : Nat) : Int))) rfl (OpQ.y (OpY.pure rfl)) ?_
                            refine Run.done ?_
                            refine Run.seq ?_
                            refine Run.draws (by kernel_rfl) (by kernel_rfl) ?_
                            refine Lex.q (v := .slice (some ⟨gf, 0, none⟩) (qs.length) cgf) rfl (OpQ.y (OpY.pure rfl)) ?_
                            refine Lex.q (v := .slice (some ⟨g1, 0, none⟩) ((lx ps (ps.length - 1)).length) cg1) rfl (OpQ.y (OpY.pure rfl)) ?_
                            refine Lex.q (v := .int .i64 (((v : Nat) : Int))) rfl (OpQ.y (OpY.pure rfl)) ?_
                            refine Lex.q (v := .pointer (some ⟨g1, v, none⟩)) rfl (OpQ.y (OpY.index (kk := v) Tsl_34 rfl rfl (by omega) (by omega) (by first | rfl | omega))) ?_
                            refine Lex.q (v := .int .i64 (ix LL (v))) rfl (OpQ.y (OpY.load1 Tone_3 rfl (Cells.grp (.tail _ (.tail _ (.tail _ (.tail _ (.tail _ (.tail _ (.tail _ (.tail _ (.tail _ (.tail _ (.tail _ (List.Mem.head _)))))))))))) (i := ps.length - 1) (by omega) (by omega) hvg1 (by rw [hLL]; exact pre1 (by omega))))) ?_
                            refine Lex.q (v := .pointer (some ⟨gf, P LL v, none⟩)) rfl (OpQ.y (OpY.index (kk := P LL v) Tsl_27 rfl rfl (by omega) (by omega) (by first | rfl | omega))) ?_
                            refine Lex.q (v := .slice (some ⟨g2, 0, none⟩) ((lx qs (P LL v)).length) cg2) rfl (OpQ.y (OpY.load1 Tone_34 rfl (hvg2 ▸ Cells.own0 (.tail _ (List.Mem.head _)) (preO (by omega))))) ?_
                            refine Lex.q (v := .slice (some ⟨g1, 0, none⟩) ((lx ps (ps.length - 1)).length) cg1) rfl (OpQ.y (OpY.pure rfl)) ?_
                            refine Lex.q (v := .int .i64 (((u : Nat) : Int))) rfl (OpQ.y (OpY.pure rfl)) ?_
                            refine Lex.q (v := .pointer (some ⟨g1, u, none⟩)) rfl (OpQ.y (OpY.index (kk := u) Tsl_34 rfl rfl (by omega) (by omega) (by first | rfl | omega))) ?_
                            refine Lex.q (v := .int .i64 (ix LL (u))) rfl (OpQ.y (OpY.load1 Tone_3 rfl (Cells.grp (.tail _ (.tail _ (.tail _ (.tail _ (.tail _ (.tail _ (.tail _ (.tail _ (.tail _ (.tail _ (.tail _ (List.Mem.head _)))))))))))) (i := ps.length - 1) (by omega) (by omega) hvg1 (by rw [hLL]; exact pre1 (by omega))))) ?_
                            refine Lex.q (v := .pointer (some ⟨g2, P LL u, none⟩)) rfl (OpQ.y (OpY.index (kk := P LL u) Tsl_34 rfl rfl (by omega) (by omega) (by first | rfl | omega))) ?_
                            refine Lex.q (v := .int .i64 (ix (lx qs (P LL v)) (P LL u))) rfl (OpQ.y (OpY.load1 Tone_3 rfl (Cells.grp (.tail _ (.tail _ (List.Mem.head _))) (i := P LL v) (by omega) (by omega) hvg2 (pre1 (by omega))))) ?_
                            refine Lex.q (v := .slice (some ⟨gf, 0, none⟩) (qs.length) cgf) rfl (OpQ.y (OpY.pure rfl)) ?_
                            refine Lex.q (v := .int .i64 (((v : Nat) : Int))) rfl (OpQ.y (OpY.pure rfl)) ?_
                            refine Lex.q (v := .pointer (some ⟨gf, v, none⟩)) rfl (OpQ.y (OpY.index (kk := v) Tsl_27 rfl rfl (by omega) (by omega) (by first | rfl | omega))) ?_
                            refine Lex.q (v := .slice (some ⟨g3, 0, none⟩) ((lx qs v).length) cg3) rfl (OpQ.y (OpY.load1 Tone_34 rfl (hvg3 ▸ Cells.own0 (.tail _ (List.Mem.head _)) (preO (by omega))))) ?_
                            refine Lex.q (v := .int .i64 (((u : Nat) : Int))) rfl (OpQ.y (OpY.pure rfl)) ?_
                            refine Lex.q (v := .pointer (some ⟨g3, u, none⟩)) rfl (OpQ.y (OpY.index (kk := u) Tsl_34 rfl rfl (by omega) (by omega) (by first | rfl | omega))) ?_
                            refine Lex.q (v := .int .i64 (ix (lx qs (v)) (u))) rfl (OpQ.y (OpY.load1 Tone_3 rfl (Cells.grp (.tail _ (.tail _ (List.Mem.head _))) (i := v) (by omega) (by omega) hvg3 (pre1 (by omega))))) ?_
                            refine Lex.q (v := .bool ((ix (lx qs (P LL v)) (P LL u)) != (ix (lx qs (v)) (u)))) rfl (OpQ.y (OpY.pure rfl)) ?_
                            refine Lex.done ?_
                            refine Run.cond (b := (ix (lx qs (P LL v)) (P LL u)) != (ix (lx qs (v)) (u))) rfl (fun h210 => ?_) (fun h210 => ?_)
                            · exact absurd h210 (by rw [hq1, hq2, hau.dist he hv3 hu3]; simp) --DONE
                            · have p210 := h210; try simp only [decide_eq_true_eq, decide_eq_false_iff_not, beq_iff_eq, bne_iff_ne, beq_eq_false_iff_ne, ne_eq, gt_iff_lt, ge_iff_le, Int.not_lt, Int.not_le, bne_eq_false_iff_eq, Bool.not_eq_true', Bool.not_eq_false', Bool.and_eq_true, Bool.and_eq_false_iff, Bool.or_eq_true, Bool.or_eq_false_iff, Decidable.not_not, List.cons.injEq, and_true] at p210
                              refine Run.skip ?_
                              refine Run.blockEnd ?_
                              refine Run.region ?_
                              refine Run.q (v := .int .i64 ((((u : Nat) : Int)) + 1)) rfl (OpQ.y (OpY.add rfl rfl rfl (by omega) (by omega))) ?_
                              refine Run.q (v := .int .i64 ((((u : Nat) : Int)) + 1)) rfl (OpQ.y (OpY.pure rfl)) ?_
                              refine Run.done ?_
                              refine Run.goal ⟨(by repeat (first | exact Same.refl _ _ | refine Same.put rfl ?_ | refine Same.over rfl rfl ?_)), u + 1, ?_, ?_, ?_, ?_⟩
                              · omega
                              · omega
                              · exact ⟨(by first | rfl | (congr 1; omega) | simp), trivial⟩
                              · exact (Some'.weak (.takeEq (by first | rfl | simp) (.takeEq (by first | rfl | simp) (.takeEq (by first | rfl | simp) (.take (.takeEq (by first | rfl | simp) (.take (.takeEq (by first | rfl | simp) (.takeEq (by first | rfl | simp) (.takeEq (by first | rfl | simp) (.takeEq (by first | rfl | simp) (.takeEq (by first | rfl | simp) (.takeEq (by first | rfl | simp) (.take (.nil _)))))))))))))))
                          · have p188 := h188; try simp only [decide_eq_true_eq, decide_eq_false_iff_not, beq_iff_eq, bne_iff_ne, beq_eq_false_iff_ne, ne_eq, gt_iff_lt, ge_iff_le, Int.not_lt, Int.not_le, bne_eq_false_iff_eq, Bool.not_eq_true', Bool.not_eq_false', Bool.and_eq_true, Bool.and_eq_false_iff, Bool.or_eq_true, Bool.or_eq_false_iff, Decidable.not_not, List.cons.injEq, and_true] at p188
                            refine Run.exit rfl ?_
                            refine Run.blockEnd ?_
                            refine Run.region ?_
                            refine Run.q (v := .int .i64 ((((v : Nat) : Int)) + 1)) rfl (OpQ.y (OpY.add rfl rfl rfl (by omega) (by omega))) ?_
                            refine Run.q (v := .int .i64 ((((v : Nat) : Int)) + 1)) rfl (OpQ.y (OpY.pure rfl)) ?_
                            refine Run.done ?_
                            refine Run.goal ⟨(by repeat (first | exact Same.refl _ _ | refine Same.put rfl ?_ | refine Same.over rfl rfl ?_)), (v + 1, X.set v (ix LL (P LL v))), ?_, ?_, ?_, ?_⟩
                            · refine ⟨hv3, by simp; omega, fun i hi => ?_⟩
                              rw [ix_set (by omega)]
                              split
                              · rename_i e; subst e; rfl
                              · exact hinv3.2.2 i (by omega)
                            · show N.toNat - (v + 1) < N.toNat - v; omega
                            · exact ⟨(by first | rfl | (congr 1; omega) | simp), trivial⟩
                            · exact (Some'.weak (.takeEq (by first | rfl | (rw [List.flatten_replicate_singleton]; simp [ints])) (.takeEq (by first | rfl | (rw [List.flatten_replicate_singleton]; simp [ints])) (.takeEq (by first | rfl | (rw [List.flatten_replicate_singleton]; simp [ints])) (.take (.takeEq (by first | rfl | (rw [List.flatten_replicate_singleton]; simp [ints])) (.take (.takeEq (by first | rfl | (rw [List.flatten_replicate_singleton]; simp [ints])) (.takeEq (by first | rfl | (rw [List.flatten_replicate_singleton]; simp [ints])) (.takeEq (by first | rfl | (rw [List.flatten_replicate_singleton]; simp [ints])) (.takeEq (by first | rfl | (rw [List.flatten_replicate_singleton]; simp [ints])) (.takeEq (by first | rfl | (rw [List.flatten_replicate_singleton]; simp [ints])) (.takeEq (by first | rfl | (rw [List.flatten_replicate_singleton]; simp [ints])) (.take (.nil _)))))))))))))))
                    · have p167 := h167; try simp only [decide_eq_true_eq, decide_eq_false_iff_not, beq_iff_eq, bne_iff_ne, beq_eq_false_iff_ne, ne_eq, gt_iff_lt, ge_iff_le, Int.not_lt, Int.not_le, bne_eq_false_iff_eq, Bool.not_eq_true', Bool.not_eq_false', Bool.and_eq_true, Bool.and_eq_false_iff, Bool.or_eq_true, Bool.or_eq_false_iff, Decidable.not_not, List.cons.injEq, and_true] at p167
                      have hv3 : v = N.toNat := by omega
                      have hXs : X = sqL LL N.toNat := list_ext_ix (by simp; omega) fun i hi => by rw [hinv.2.2 i (by omega), ix_sqL (by omega)]
                      refine Run.exit rfl ?_
                      refine Run.seq ?_
                      refine Run.seq ?_
                      refine Run.region ?_
                      refine Run.q (v := .slice (some ⟨gq, 0, none⟩) (ps.length) c_up1) rfl (OpQ.y (OpY.pure rfl)) ?_
                      refine Run.q (v := .int .i64 (((ps.length : Nat) : Int))) rfl (OpQ.y (OpY.len Tsl_27 rfl)) ?_
                      refine Run.q (v := .int .i64 0) rfl (OpQ.y (OpY.pure rfl)) ?_
                      refine Run.done ?_
                      refine Run.block ?_
                      refine Run.loop (ι := Nat) [4, 28, 215, 216, 217, 218, 219, 220, 221, 222] (fun j => [(215, .int .i64 (((j : Nat) : Int)))]) (fun j => [.own (.slice (some ⟨b5, 0, none⟩) (N.toNat) (N.toNat)) 3 1 (N.toNat) (ints X), .own vf 34 1 (qs.length) (oc qs), .grp 3 1 (gl qs), .blk b3 25 [.int .i64 (gridN 1 k), .slice A_uk1 ((gridE 1 k).length) c_uk1], .own (.slice A_uk1 ((gridE 1 k).length) c_uk1) 64 2 ((gridE 1 k).length) (ints (fl2 (gridE 1 k))), .blk b2 25 [.int .i64 (gridN 1 k), .slice A_ul1 ((gridE 1 k).length) c_ul1], .own (.slice A_ul1 ((gridE 1 k).length) c_ul1) 64 2 ((gridE 1 k).length) (ints (fl2 (gridE 1 k))), .own (.slice A_u1 m c_u1) 64 2 m (ints es), .own (.slice A_uw1 (rs.length) c_uw1) 34 1 (rs.length) (oc rs), .grp 3 1 (gl rs), .own (.slice (some ⟨gq, 0, none⟩) (ps.length) c_up1) 34 1 (ps.length) (oc ps), .grp 3 1 (gl ps), .blk b1 25 [.int .i64 N, .slice A_u1 m c_u1]]) (fun j => j ≤ ps.length ∧ ∀ i, i < j → decide (lx ps i = X) = false) (fun j => ps.length - j) 0 ?_ ?_ ?_ ?_
                      · exact ⟨Nat.zero_le _, fun i h => absurd h (by omega)⟩
                      · exact ⟨rfl, trivial⟩
                      · exact (Some'.weak (.take (.take (.take (.take (.take (.take (.take (.take (.take (.take (.take (.take (.take (.nil _)))))))))))))))
                      · rintro j fr hinv
                        show Run _ _ (over _ _ [(215, .int .i64 (((j : Nat) : Int)))] fr) [.own (.slice (some ⟨b5, 0, none⟩) (N.toNat) (N.toNat)) 3 1 (N.toNat) (ints X), .own vf 34 1 (qs.length) (oc qs), .grp 3 1 (gl qs), .blk b3 25 [.int .i64 (gridN 1 k), .slice A_uk1 ((gridE 1 k).length) c_uk1], .own (.slice A_uk1 ((gridE 1 k).length) c_uk1) 64 2 ((gridE 1 k).length) (ints (fl2 (gridE 1 k))), .blk b2 25 [.int .i64 (gridN 1 k), .slice A_ul1 ((gridE 1 k).length) c_ul1], .own (.slice A_ul1 ((gridE 1 k).length) c_ul1) 64 2 ((gridE 1 k).length) (ints (fl2 (gridE 1 k))), .own (.slice A_u1 m c_u1) 64 2 m (ints es), .own (.slice A_uw1 (rs.length) c_uw1) 34 1 (rs.length) (oc rs), .grp 3 1 (gl rs), .own (.slice (some ⟨gq, 0, none⟩) (ps.length) c_up1) 34 1 (ps.length) (oc ps), .grp 3 1 (gl ps), .blk b1 25 [.int .i64 N, .slice A_u1 m c_u1]]
                        try dsimp only at hinv
                        refine Run.seq ?_
                        refine Run.region ?_
                        refine Run.q (v := .bool (decide ((((j : Nat) : Int)) < (((ps.length : Nat) : Int))))) rfl (OpQ.y (OpY.pure rfl)) ?_
                        refine Run.done ?_
                        refine Run.seq ?_
                        refine Run.cond (b := decide ((((j : Nat) : Int)) < (((ps.length : Nat) : Int)))) rfl (fun h216 => ?_) (fun h216 => ?_)
                        · have p216 := h216; try simp only [decide_eq_true_eq, decide_eq_false_iff_not, beq_iff_eq, bne_iff_ne, beq_eq_false_iff_ne, ne_eq, gt_iff_lt, ge_iff_le, Int.not_lt, Int.not_le, bne_eq_false_iff_eq, Bool.not_eq_true', Bool.not_eq_false', Bool.and_eq_true, Bool.and_eq_false_iff, Bool.or_eq_true, Bool.or_eq_false_iff, Decidable.not_not, List.cons.injEq, and_true] at p216
                          have hltj : j < ps.length := by omega
                          refine Run.skip ?_
                          refine Run.seq ?_
                          refine Run.block ?_
                          refine Run.seq ?_
                          refine Run.region ?_
                          refine Run.q (v := .pointer (some ⟨gq, j, none⟩)) rfl (OpQ.y (OpY.index (kk := j) Tsl_27 rfl rfl (by omega) (by omega) (by first | rfl | omega))) ?_
                          refine Run.q (v := (vx ps (j))) rfl (OpQ.y (OpY.load1 Tone_34 rfl (Cells.own0 (.tail _ (.tail _ (.tail _ (.tail _ (.tail _ (.tail _ (.tail _ (.tail _ (.tail _ (.tail _ (List.Mem.head _))))))))))) (preO (by omega))))) ?_
                          refine Run.q (v := (vx ps (j))) rfl (OpQ.y (OpY.pure rfl)) ?_
                          refine Run.done ?_
                          refine Run.seq ?_
                          refine Run.region ?_
                          refine Run.q (v := (vx ps (j))) rfl (OpQ.y (OpY.pure rfl)) ?_
                          refine Run.q (v := .slice (some ⟨b5, 0, none⟩) (N.toNat) (N.toNat)) rfl (OpQ.y (OpY.pure rfl)) ?_
                          refine Run.q (v := .bool (decide (lx ps j = X))) rfl (OpQ.call (vs := [(vx ps (j)), .slice (some ⟨b5, 0, none⟩) (N.toNat) (N.toNat)]) (caps := []) Tcall_12 rfl rfl (fun w hs => qInts_spec (hs.grpSl (.tail _ (.tail _ (.tail _ (.tail _ (.tail _ (.tail _ (.tail _ (.tail _ (.tail _ (.tail _ (.tail _ (List.Mem.head _)))))))))))) j hltj) (hs.slOwn (.head _)))) ?_
                          refine Run.done ?_
                          refine Run.cond (b := decide (lx ps j = X)) rfl (fun h221 => ?_) (fun h221 => ?_)
                          · have p221 := h221; try simp only [decide_eq_true_eq, decide_eq_false_iff_not, beq_iff_eq, bne_iff_ne, beq_eq_false_iff_ne, ne_eq, gt_iff_lt, ge_iff_le, Int.not_lt, Int.not_le, bne_eq_false_iff_eq, Bool.not_eq_true', Bool.not_eq_false', Bool.and_eq_true, Bool.and_eq_false_iff, Bool.or_eq_true, Bool.or_eq_false_iff, Decidable.not_not, List.cons.injEq, and_true] at p221
                            refine Run.seq ?_
                            refine Run.region ?_
                            refine Run.q (v := .bool true) rfl (OpQ.y (OpY.pure rfl)) ?_
                            refine Run.done ?_
                            refine Run.ret ?_
                            refine ⟨.bool true, [], Out.one rfl rfl, (Some'.weak (.nil _)), ?_⟩
                            rfl
                          · have p221 := h221; try simp only [decide_eq_true_eq, decide_eq_false_iff_not, beq_iff_eq, bne_iff_ne, beq_eq_false_iff_ne, ne_eq, gt_iff_lt, ge_iff_le, Int.not_lt, Int.not_le, bne_eq_false_iff_eq, Bool.not_eq_true', Bool.not_eq_false', Bool.and_eq_true, Bool.and_eq_false_iff, Bool.or_eq_true, Bool.or_eq_false_iff, Decidable.not_not, List.cons.injEq, and_true] at p221
                            refine Run.skip ?_
                            refine Run.blockEnd ?_
                            refine Run.region ?_
                            refine Run.q (v := .int .i64 ((((j : Nat) : Int)) + 1)) rfl (OpQ.y (OpY.add rfl rfl rfl (by omega) (by omega))) ?_
                            refine Run.q (v := .int .i64 ((((j : Nat) : Int)) + 1)) rfl (OpQ.y (OpY.pure rfl)) ?_
                            refine Run.done ?_
                            refine Run.goal ⟨(by repeat (first | exact Same.refl _ _ | refine Same.put rfl ?_ | refine Same.over rfl rfl ?_)), j + 1, ?_, ?_, ?_, ?_⟩
                            · refine ⟨by omega, fun i hi => ?_⟩
                              rcases Nat.lt_succ_iff_lt_or_eq.1 hi with h | h
                              · exact hinv.2 i h
                              · rw [h]; exact h221
                            · omega
                            · exact ⟨(by first | rfl | (congr 1; omega) | simp), trivial⟩
                            · exact (Some'.weak (.takeEq (by first | rfl | simp) (.takeEq (by first | rfl | simp) (.takeEq (by first | rfl | simp) (.take (.takeEq (by first | rfl | simp) (.take (.takeEq (by first | rfl | simp) (.takeEq (by first | rfl | simp) (.takeEq (by first | rfl | simp) (.takeEq (by first | rfl | simp) (.takeEq (by first | rfl | simp) (.takeEq (by first | rfl | simp) (.take (.nil _)))))))))))))))
                        · have q216 := of_decide_eq_false h216
                          obtain ⟨⟨v0, l0⟩, hm1, hm2⟩ := List.mem_map.1 (hps ▸ (mem_symR hok).2 (hau.sq he) : sqL LL N.toNat ∈ ps.map (·.2))
                          obtain ⟨i, hi, hi2⟩ := List.getElem_of_mem hm1
                          exact absurd (hinv.2 i (by omega)) (by rw [decide_eq_false_iff_not]; exact fun h => h (by rw [hXs, ← hm2]; simp [lx, List.getD, hi, hi2])) --DONE

end Go.Proofs.Ytgghmjijjdboeaa
