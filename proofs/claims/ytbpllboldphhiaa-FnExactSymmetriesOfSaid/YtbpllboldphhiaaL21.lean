/- The walk of the law FnExactSymmetriesOf. -/
import Derived.Test.YtbpllboldphhiaaSymr
import Derived.Test.YtbpllboldphhiaaInts
import Derived.Test.YtbpllboldphhiaaProg
set_option linter.unusedSimpArgs false
set_option linter.unusedVariables false
namespace Go.Proofs.Ytbpllboldphhiaa
open Go Go.RowKit
namespace L21T
theorem Tagg_40 : aggOf Try.prog 40 = some 2 := by kernel_rfl
theorem Tagg_46 : aggOf Try.prog 46 = some 2 := by kernel_rfl
theorem Tbool_4 : Try.prog.underlying 4 = some .bool := by kernel_rfl
theorem Tcall_24 : callable Try.prog 24 = true := by kernel_rfl
theorem Tcall_26 : callable Try.prog 26 = true := by kernel_rfl
theorem Tcall_28 : callable Try.prog 28 = true := by kernel_rfl
theorem Tcall_36 : callable Try.prog 36 = true := by kernel_rfl
theorem Tcall_44 : callable Try.prog 44 = true := by kernel_rfl
theorem Tcall_45 : callable Try.prog 45 = true := by kernel_rfl
theorem Tcall_46 : callable Try.prog 46 = true := by kernel_rfl
theorem Tcall_47 : callable Try.prog 47 = true := by kernel_rfl
theorem Tcall_48 : callable Try.prog 48 = true := by kernel_rfl
theorem Tsize_46 : (Try.prog.info? 46).map (·.size) = some 2 := by kernel_rfl
theorem Tzero_46 : zeroOf Try.prog 46 = some [.int .i64 0, .slice none 0 0] := by kernel_rfl
end L21T
open L21T

theorem refF_len (xs : List Int) (n N : Nat) : ∀ d l, ∀ x ∈ refF xs n N d l, x.length = l.length + d
  | 0, l, x, h => by simp only [refF, List.mem_singleton] at h; subst h; rfl
  | d + 1, l, x, h => by
    have key : ∀ m, x ∈ stepsL (fun k => if fitB xs n l (k : Int) then refF xs n N d (l ++ [(k : Int)]) else []) m → x.length = l.length + (d + 1) := by
      intro m
      induction m with
      | zero => intro h; simp [stepsL] at h
      | succ m ih =>
        intro h
        simp only [stepsL, List.mem_append] at h
        rcases h with h | h
        · exact ih h
        · split at h
          · have := refF_len xs n N d _ x h
            simp at this; omega
          · cases h
    exact key N h
theorem symR_tot {N : Int} {xs : List Int} {n : Nat} {ps : List (Value × List Int)} (h : ps.map (·.2) = symR N xs n) : tot ps ≤ 6000000 := by
  rw [tot_flat, h, symR]
  split
  · rename_i hok
    simp only [symOk, Bool.and_eq_true, decide_eq_true_eq] at hok
    have hcN := cgOk_N hok.1
    have h1 := flat_le (N := N.toNat) (l := refF xs n N.toNat N.toNat []) (fun x hx => by rw [refF_len xs n _ _ _ x hx]; simp)
    have h2 := refF_le xs n N.toNat N.toNat []
    have h3 := room6 (N := N.toNat) (by omega)
    have h4 : (refF xs n N.toNat N.toNat []).length * N.toNat ≤ 1000000 * 6 := Nat.mul_le_mul (by omega) (by omega)
    omega
  · simp

set_option maxHeartbeats 1000000 in
set_option maxRecDepth 20000 in
theorem law_spec {gNodes : Int} {gvEdges : Value} {gnEdges : Nat} {gxEdges : List Int} {w : World} (gwNodes : In64 gNodes) (ghEdges : Sl w gvEdges 2 gnEdges (ints gxEdges)) (gwEdges : ∀ x ∈ gxEdges, In64 x) : Calls Try.prog 9 #[.agg #[.int .i64 gNodes, gvEdges]] w (Post No w fun v _ => v = .bool true) := by
  refine enter (n := 96) (args := [.agg #[.int .i64 gNodes, gvEdges]]) Try.func9 rfl rfl (St.empty _ _) ?_
  refine Run.seq ?_
  refine Run.region ?_
  refine Run.step rfl (OpStep.box (us := [.int .i64 gNodes, gvEdges]) rfl fun b1 => ?_)
  refine Run.q (v := .bool false) rfl (OpQ.y (OpY.pure rfl)) ?_
  refine Run.done ?_
  refine Run.seq ?_
  refine Run.region ?_
  refine Run.q (v := .int .i64 1048576) rfl (OpQ.y (OpY.pure rfl)) ?_
  refine Run.done ?_
  refine Run.seq ?_
  refine Run.region ?_
  refine Run.q (v := .agg #[.int .i64 gNodes, gvEdges]) rfl (OpQ.y (OpY.loadN (cs := [.int .i64 gNodes, gvEdges]) Tagg_40 rfl (Cells.blk (.head _) ⟨rfl, rfl, trivial⟩))) ?_
  refine Run.q (v := .int .i64 1048576) rfl (OpQ.y (OpY.pure rfl)) ?_
  refine Run.q (v := .int .i64 (szN 1048576 [gnEdges])) rfl (OpQ.call (vs := [.agg #[.int .i64 gNodes, gvEdges], .int .i64 1048576]) (caps := []) Tcall_24 rfl rfl (fun w hs => szCouplingGraph_spec (hs.sl ghEdges) (by omega) (by omega))) ?_
  refine Run.q (v := .int .i64 (szN 1048576 [gnEdges])) rfl (OpQ.y (OpY.pure rfl)) ?_
  refine Run.done ?_
  refine Run.seq ?_
  refine Run.seq ?_
  refine Run.region ?_
  refine Run.q (v := .int .i64 (szN 1048576 [gnEdges])) rfl (OpQ.y (OpY.pure rfl)) ?_
  refine Run.q (v := .bool (decide ((szN 1048576 [gnEdges]) < 0))) rfl (OpQ.y (OpY.pure rfl)) ?_
  refine Run.done ?_
  refine Run.cond (b := decide ((szN 1048576 [gnEdges]) < 0)) rfl (fun h18 => ?_) (fun h18 => ?_)
  · have p18 := h18; try simp only [decide_eq_true_eq, decide_eq_false_iff_not, beq_iff_eq, bne_iff_ne, beq_eq_false_iff_ne, ne_eq, gt_iff_lt, ge_iff_le, Int.not_lt, Int.not_le, bne_eq_false_iff_eq, Bool.not_eq_true', Bool.not_eq_false', Bool.and_eq_true, Bool.and_eq_false_iff, Bool.or_eq_true, Bool.or_eq_false_iff, Decidable.not_not, List.cons.injEq, and_true] at p18
    refine Run.seq ?_
    refine Run.region ?_
    refine Run.q (v := .bool true) rfl (OpQ.y (OpY.pure rfl)) ?_
    refine Run.done ?_
    refine Run.ret ?_
    refine ⟨.bool true, [], Out.one rfl rfl, (Some'.weak (.nil _)), ?_⟩
    rfl
  · have p18 := h18; try simp only [decide_eq_true_eq, decide_eq_false_iff_not, beq_iff_eq, bne_iff_ne, beq_eq_false_iff_ne, ne_eq, gt_iff_lt, ge_iff_le, Int.not_lt, Int.not_le, bne_eq_false_iff_eq, Bool.not_eq_true', Bool.not_eq_false', Bool.and_eq_true, Bool.and_eq_false_iff, Bool.or_eq_true, Bool.or_eq_false_iff, Decidable.not_not, List.cons.injEq, and_true] at p18
    have hz18 := szN_bound (ns := [gnEdges]) (l := 1048576) p18
    have hz18gnEdges := hz18 gnEdges (by simp)
    refine Run.skip ?_
    refine Run.seq ?_
    refine Run.region ?_
    refine Run.q (v := .agg #[.int .i64 gNodes, gvEdges]) rfl (OpQ.y (OpY.loadN (cs := [.int .i64 gNodes, gvEdges]) Tagg_40 rfl (Cells.blk (.head _) ⟨rfl, rfl, trivial⟩))) ?_
    refine Run.step rfl (OpStep.call (vs := [.agg #[.int .i64 gNodes, gvEdges]]) (caps := []) Tcall_26 rfl rfl (fun w hs => toCouplingGraph_spec (hs.sl ghEdges) (by omega)) ?_)
    rintro _ _ ⟨u1, rfl, rfl⟩
    show Run _ _ (putF _ _ _ (.agg #[.int .i64 gNodes, u1])) [.own u1 180 2 gnEdges (ints gxEdges), .blk b1 40 [.int .i64 gNodes, gvEdges]]
    refine Run.step rfl (OpStep.callM (H1 := [.own u1 180 2 gnEdges (ints gxEdges)]) (H2 := [.blk b1 40 [.int .i64 gNodes, gvEdges]]) (vs := [.agg #[.int .i64 gNodes, u1]]) (caps := []) Tcall_44 rfl rfl (Weak.refl _) (fun w hs => sSymmetriesOf_spec gwNodes gwEdges (hs.holds _ (.head _))) ?_)
    rintro _ _ ⟨u2, u3, hu3, rfl, rfl⟩
    show Run _ _ (putF _ _ _ (.tuple #[u2, .bool (symOk gNodes gxEdges gnEdges)])) [.own u1 180 2 gnEdges (ints gxEdges), .own u2 26 1 (u3.length) (oc u3), .grp 3 1 (gl u3), .blk b1 40 [.int .i64 gNodes, gvEdges]]
    have htu3 : tot u3 ≤ 6000000 := symR_tot hu3
    refine Run.q (v := .tuple #[u2, .bool (symOk gNodes gxEdges gnEdges)]) rfl (OpQ.y (OpY.pure rfl)) ?_
    refine Run.q (v := u2) rfl (OpQ.y (OpY.pure rfl)) ?_
    refine Run.q (v := .bool (symOk gNodes gxEdges gnEdges)) rfl (OpQ.y (OpY.pure rfl)) ?_
    refine Run.q (v := u2) rfl (OpQ.y (OpY.pure rfl)) ?_
    refine Run.q (v := .bool (symOk gNodes gxEdges gnEdges)) rfl (OpQ.y (OpY.pure rfl)) ?_
    refine Run.done ?_
    refine Run.seq ?_
    refine Run.region ?_
    refine Run.q (v := .agg #[.int .i64 gNodes, gvEdges]) rfl (OpQ.y (OpY.loadN (cs := [.int .i64 gNodes, gvEdges]) Tagg_40 rfl (Cells.blk (.tail _ (.tail _ (.tail _ (List.Mem.head _)))) ⟨rfl, rfl, trivial⟩))) ?_
    refine Run.step rfl (OpStep.call (vs := [.agg #[.int .i64 gNodes, gvEdges]]) (caps := []) Tcall_26 rfl rfl (fun w hs => toCouplingGraph_spec (hs.sl ghEdges) (by omega)) ?_)
    rintro _ _ ⟨u4, rfl, rfl⟩
    show Run _ _ (putF _ _ _ (.agg #[.int .i64 gNodes, u4])) [.own u4 180 2 gnEdges (ints gxEdges), .own u1 180 2 gnEdges (ints gxEdges), .own u2 26 1 (u3.length) (oc u3), .grp 3 1 (gl u3), .blk b1 40 [.int .i64 gNodes, gvEdges]]
    refine Run.step rfl (OpStep.alloc (zs := [.int .i64 0, .slice none 0 0]) Tzero_46 fun b2 => ?_)
    refine Run.formOwn (.tail _ (List.Mem.head _)) (fun A_u41 c_u41 hv hcapc_u41 hmaxc_u41 => ?_) (fun _ _ _ => ⟨nofun, nofun, nofun⟩)
    subst hv
    refine Run.step rfl (OpStep.storeAll (us := [.int .i64 gNodes, .slice A_u41 gnEdges c_u41]) Tsize_46 rfl rfl rfl (.here _) rfl ?_)
    refine Run.done ?_
    refine Run.seq ?_
    refine Run.region ?_
    refine Run.q (v := .agg #[.int .i64 gNodes, .slice A_u41 gnEdges c_u41]) rfl (OpQ.y (OpY.loadN (cs := [.int .i64 gNodes, .slice A_u41 gnEdges c_u41]) Tagg_46 rfl (Cells.blk (.head _) ⟨rfl, rfl, trivial⟩))) ?_
    refine Run.step rfl (OpStep.callM (H1 := [.own (.slice A_u41 gnEdges c_u41) 180 2 gnEdges (ints gxEdges)]) (H2 := [.blk b2 46 [.int .i64 gNodes, .slice A_u41 gnEdges c_u41], .own u1 180 2 gnEdges (ints gxEdges), .own u2 26 1 (u3.length) (oc u3), .grp 3 1 (gl u3), .blk b1 40 [.int .i64 gNodes, gvEdges]]) (vs := [.agg #[.int .i64 gNodes, .slice A_u41 gnEdges c_u41]]) (caps := []) Tcall_45 rfl rfl (Weak.front [.blk b2 46 [.int .i64 gNodes, .slice A_u41 gnEdges c_u41]] (.own (.slice A_u41 gnEdges c_u41) 180 2 gnEdges (ints gxEdges)) [.own u1 180 2 gnEdges (ints gxEdges), .own u2 26 1 (u3.length) (oc u3), .grp 3 1 (gl u3), .blk b1 40 [.int .i64 gNodes, gvEdges]]) (fun w hs => SymmetriesOf_spec (hs.holds _ (.head _))) ?_)
    rintro _ _ ⟨u5, u6, hu6, rfl, rfl⟩
    show Run _ _ (putF _ _ _ (.tuple #[u5, .bool (symOk gNodes gxEdges gnEdges)])) [.own (.slice A_u41 gnEdges c_u41) 180 2 gnEdges (ints gxEdges), .own u5 26 1 (u6.length) (oc u6), .grp 3 1 (gl u6), .blk b2 46 [.int .i64 gNodes, .slice A_u41 gnEdges c_u41], .own u1 180 2 gnEdges (ints gxEdges), .own u2 26 1 (u3.length) (oc u3), .grp 3 1 (gl u3), .blk b1 40 [.int .i64 gNodes, gvEdges]]
    have htu6 : tot u6 ≤ 6000000 := symR_tot hu6
    refine Run.q (v := .tuple #[u5, .bool (symOk gNodes gxEdges gnEdges)]) rfl (OpQ.y (OpY.pure rfl)) ?_
    refine Run.q (v := u5) rfl (OpQ.y (OpY.pure rfl)) ?_
    refine Run.q (v := .bool (symOk gNodes gxEdges gnEdges)) rfl (OpQ.y (OpY.pure rfl)) ?_
    refine Run.q (v := u5) rfl (OpQ.y (OpY.pure rfl)) ?_
    refine Run.q (v := .bool (symOk gNodes gxEdges gnEdges)) rfl (OpQ.y (OpY.pure rfl)) ?_
    refine Run.done ?_
    refine Run.seq ?_
    refine Run.seq ?_
    refine Run.region ?_
    refine Run.q (v := u5) rfl (OpQ.y (OpY.pure rfl)) ?_
    refine Run.q (v := u2) rfl (OpQ.y (OpY.pure rfl)) ?_
    refine Run.q (v := .bool true) rfl (OpQ.call (vs := [u5, u2]) (caps := []) Tcall_46 rfl rfl (fun w hs => eqIntSS_true (hs.slOwn (.tail _ (List.Mem.head _))) (hs.slOwn (.tail _ (.tail _ (.tail _ (.tail _ (.tail _ (List.Mem.head _))))))) (hs.grpSl (.tail _ (.tail _ (List.Mem.head _)))) (hs.grpSl (.tail _ (.tail _ (.tail _ (.tail _ (.tail _ (.tail _ (List.Mem.head _)))))))) (hu6.trans hu3.symm))) ?_
    refine Run.q (v := .bool false) rfl (OpQ.y (OpY.pure rfl)) ?_
    refine Run.q (v := .bool false) rfl (OpQ.y (OpY.pure rfl)) ?_
    refine Run.q (v := .bool (symOk gNodes gxEdges gnEdges)) rfl (OpQ.y (OpY.pure rfl)) ?_
    refine Run.q (v := .bool (symOk gNodes gxEdges gnEdges)) rfl (OpQ.y (OpY.pure rfl)) ?_
    refine Run.q (v := .bool false) rfl (OpQ.y (OpY.neqBSame Tbool_4 rfl rfl rfl)) ?_
    refine Run.q (v := .bool false) rfl (OpQ.y (OpY.pure rfl)) ?_
    refine Run.done ?_
    refine Run.cond (b := false) rfl (fun h => nomatch h) (fun _ => ?_)
    refine Run.skip ?_
    refine Run.seq ?_
    refine Run.seq ?_
    refine Run.held (by kernel_rfl) ?_
    refine DW.take (i := 0) (v := .agg #[.int .i64 gNodes, .slice A_u41 gnEdges c_u41]) rfl (by kernel_rfl) (by kernel_rfl) (by kernel_rfl) (fun _ _ _ h => h) (Weak.refl _) rfl (OpY.loadN (cs := [.int .i64 gNodes, .slice A_u41 gnEdges c_u41]) Tagg_46 rfl (Cells.blk (.tail _ (.tail _ (.tail _ (List.Mem.head _)))) ⟨rfl, rfl, trivial⟩)) ?_
    refine DW.take (i := 1) (v := .agg #[.int .i64 gNodes, gvEdges]) rfl (by kernel_rfl) (by kernel_rfl) (by kernel_rfl) (fun _ _ _ h => h) (Weak.refl _) rfl (OpY.loadN (cs := [.int .i64 gNodes, gvEdges]) Tagg_40 rfl (Cells.blk (.tail _ (.tail _ (.tail _ (.tail _ (.tail _ (.tail _ (.tail _ (List.Mem.head _)))))))) ⟨rfl, rfl, trivial⟩)) ?_
    refine DW.step (i := 2) (by kernel_rfl) rfl rfl (OpStep.call (vs := [.agg #[.int .i64 gNodes, gvEdges]]) (caps := []) Tcall_26 rfl rfl (fun w hs => toCouplingGraph_spec (hs.sl ghEdges) (by omega)) ?_)
    rintro _ _ ⟨u7, rfl, rfl⟩
    refine ⟨(Some'.weak (.skip (.take (.take (.take (.take (.take (.take (.take (.take (.nil _))))))))))), ?_⟩
    refine DW.step (i := 3) (by kernel_rfl) rfl rfl (OpStep.q (v := .bool true) (OpQ.call (vs := [.agg #[.int .i64 gNodes, .slice A_u41 gnEdges c_u41], .agg #[.int .i64 gNodes, u7]]) (caps := []) Tcall_28 rfl rfl (fun w hs => eqCouplingGraph_true (hs.slOwn (.tail _ (List.Mem.head _))) (hs.slOwn (.head _)))) ?_)
    refine ⟨(Some'.weak (.skip (.take (.take (.take (.take (.take (.take (.take (.take (.nil _))))))))))), ?_⟩
    refine DW.take (i := 4) (v := .bool false) rfl (by kernel_rfl) (by kernel_rfl) (by kernel_rfl) (fun _ _ _ h => h) (Some'.weak (.skip (.take (.take (.take (.take (.take (.take (.take (.take (.nil _))))))))))) rfl (OpY.pure rfl) ?_
    refine DW.done (by kernel_rfl) ?_
    refine Run.cond (b := false) rfl (fun h => nomatch h) (fun _ => ?_)
    refine Run.skip ?_
    refine Run.seq ?_
    refine Run.region ?_
    refine Run.q (v := .int .i64 1) rfl (OpQ.y (OpY.pure rfl)) ?_
    refine Run.done ?_
    refine Run.seq ?_
    refine Run.region ?_
    refine Run.q (v := .agg #[.int .i64 gNodes, .slice A_u41 gnEdges c_u41]) rfl (OpQ.y (OpY.loadN (cs := [.int .i64 gNodes, .slice A_u41 gnEdges c_u41]) Tagg_46 rfl (Cells.blk (.tail _ (.tail _ (.tail _ (.tail _ (List.Mem.head _))))) ⟨rfl, rfl, trivial⟩))) ?_
    refine Run.q (v := .int .i64 1) rfl (OpQ.y (OpY.pure rfl)) ?_
    refine Run.step rfl (OpStep.callM (H1 := [.own (.slice A_u41 gnEdges c_u41) 180 2 gnEdges (ints gxEdges)]) (H2 := [.own u7 180 2 gnEdges (ints gxEdges), .own u5 26 1 (u6.length) (oc u6), .grp 3 1 (gl u6), .blk b2 46 [.int .i64 gNodes, .slice A_u41 gnEdges c_u41], .own u1 180 2 gnEdges (ints gxEdges), .own u2 26 1 (u3.length) (oc u3), .grp 3 1 (gl u3), .blk b1 40 [.int .i64 gNodes, gvEdges]]) (vs := [.agg #[.int .i64 gNodes, .slice A_u41 gnEdges c_u41], .int .i64 1]) (caps := []) Tcall_36 rfl rfl (Weak.front [.own u7 180 2 gnEdges (ints gxEdges)] (.own (.slice A_u41 gnEdges c_u41) 180 2 gnEdges (ints gxEdges)) [.own u5 26 1 (u6.length) (oc u6), .grp 3 1 (gl u6), .blk b2 46 [.int .i64 gNodes, .slice A_u41 gnEdges c_u41], .own u1 180 2 gnEdges (ints gxEdges), .own u2 26 1 (u3.length) (oc u3), .grp 3 1 (gl u3), .blk b1 40 [.int .i64 gNodes, gvEdges]]) (fun w hs => markCouplingGraph_spec (hs.sub (List.sublist_append_left _ _)).self (by omega) (by omega)) ?_)
    rintro _ _ ⟨rfl, rfl⟩
    show Run _ _ (putF _ _ _ (.int .i64 (1 + ((gnEdges : Nat) : Int) * 2))) [.own (.slice A_u41 gnEdges c_u41) 180 2 gnEdges (ints (mks 1 (gnEdges * 2))), .own u7 180 2 gnEdges (ints gxEdges), .own u5 26 1 (u6.length) (oc u6), .grp 3 1 (gl u6), .blk b2 46 [.int .i64 gNodes, .slice A_u41 gnEdges c_u41], .own u1 180 2 gnEdges (ints gxEdges), .own u2 26 1 (u3.length) (oc u3), .grp 3 1 (gl u3), .blk b1 40 [.int .i64 gNodes, gvEdges]]
    refine Run.q (v := .int .i64 (1 + ((gnEdges : Nat) : Int) * 2)) rfl (OpQ.y (OpY.pure rfl)) ?_
    refine Run.done ?_
    refine Run.seq ?_
    refine Run.seq ?_
    refine Run.region ?_
    refine Run.q (v := .int .i64 (1 + ((gnEdges : Nat) : Int) * 2)) rfl (OpQ.y (OpY.pure rfl)) ?_
    refine Run.q (v := .bool (decide ((1 + ((gnEdges : Nat) : Int) * 2) < 0))) rfl (OpQ.y (OpY.pure rfl)) ?_
    rcases Bool.eq_false_or_eq_true (decide ((1 + ((gnEdges : Nat) : Int) * 2) < 0)) with h51 | h51
    · exact absurd h51 (by simp <;> omega) --DONE
    · refine Run.q (v := .bool false) rfl (OpQ.y (OpY.moveB rfl h51)) ?_
      have p51 := h51; try simp only [decide_eq_true_eq, decide_eq_false_iff_not, beq_iff_eq, bne_iff_ne, beq_eq_false_iff_ne, ne_eq, gt_iff_lt, ge_iff_le, Int.not_lt, Int.not_le, bne_eq_false_iff_eq, Bool.not_eq_true', Bool.not_eq_false', Bool.and_eq_true, Bool.and_eq_false_iff, Bool.or_eq_true, Bool.or_eq_false_iff, Decidable.not_not, List.cons.injEq, and_true] at p51
      refine Run.q (v := u5) rfl (OpQ.y (OpY.pure rfl)) ?_
      refine Run.q (v := u2) rfl (OpQ.y (OpY.pure rfl)) ?_
      refine Run.q (v := .bool true) rfl (OpQ.call (vs := [u5, u2]) (caps := []) Tcall_46 rfl rfl (fun w hs => eqIntSS_true (hs.slOwn (.tail _ (.tail _ (List.Mem.head _)))) (hs.slOwn (.tail _ (.tail _ (.tail _ (.tail _ (.tail _ (.tail _ (List.Mem.head _)))))))) (hs.grpSl (.tail _ (.tail _ (.tail _ (List.Mem.head _))))) (hs.grpSl (.tail _ (.tail _ (.tail _ (.tail _ (.tail _ (.tail _ (.tail _ (List.Mem.head _))))))))) (hu6.trans hu3.symm))) ?_
      refine Run.q (v := .bool false) rfl (OpQ.y (OpY.pure rfl)) ?_
      refine Run.q (v := .bool false) rfl (OpQ.y (OpY.pure rfl)) ?_
      refine Run.q (v := .bool false) rfl (OpQ.y (OpY.pure rfl)) ?_
      refine Run.q (v := .bool (symOk gNodes gxEdges gnEdges)) rfl (OpQ.y (OpY.pure rfl)) ?_
      refine Run.q (v := .bool (symOk gNodes gxEdges gnEdges)) rfl (OpQ.y (OpY.pure rfl)) ?_
      refine Run.q (v := .bool false) rfl (OpQ.y (OpY.neqBSame Tbool_4 rfl rfl rfl)) ?_
      refine Run.q (v := .bool false) rfl (OpQ.y (OpY.pure rfl)) ?_
      refine Run.done ?_
      refine Run.cond (b := false) rfl (fun h => nomatch h) (fun _ => ?_)
      refine Run.skip ?_
      refine Run.seq ?_
      refine Run.region ?_
      refine Run.q (v := .int .i64 1) rfl (OpQ.y (OpY.pure rfl)) ?_
      refine Run.done ?_
      refine Run.seq ?_
      refine Run.region ?_
      refine Run.q (v := u5) rfl (OpQ.y (OpY.pure rfl)) ?_
      refine Run.q (v := .int .i64 1) rfl (OpQ.y (OpY.pure rfl)) ?_
      refine Run.step rfl (OpStep.callM (H1 := [.own u5 26 1 (u6.length) (oc u6), .grp 3 1 (gl u6)]) (H2 := [.own (.slice A_u41 gnEdges c_u41) 180 2 gnEdges (ints (mks 1 (gnEdges * 2))), .own u7 180 2 gnEdges (ints gxEdges), .blk b2 46 [.int .i64 gNodes, .slice A_u41 gnEdges c_u41], .own u1 180 2 gnEdges (ints gxEdges), .own u2 26 1 (u3.length) (oc u3), .grp 3 1 (gl u3), .blk b1 40 [.int .i64 gNodes, gvEdges]]) (vs := [u5, .int .i64 1]) (caps := []) Tcall_47 rfl rfl ((Weak.front [.own (.slice A_u41 gnEdges c_u41) 180 2 gnEdges (ints (mks 1 (gnEdges * 2))), .own u7 180 2 gnEdges (ints gxEdges), .own u5 26 1 (u6.length) (oc u6)] (.grp 3 1 (gl u6)) [.blk b2 46 [.int .i64 gNodes, .slice A_u41 gnEdges c_u41], .own u1 180 2 gnEdges (ints gxEdges), .own u2 26 1 (u3.length) (oc u3), .grp 3 1 (gl u3), .blk b1 40 [.int .i64 gNodes, gvEdges]]).trans (Weak.front [.grp 3 1 (gl u6), .own (.slice A_u41 gnEdges c_u41) 180 2 gnEdges (ints (mks 1 (gnEdges * 2))), .own u7 180 2 gnEdges (ints gxEdges)] (.own u5 26 1 (u6.length) (oc u6)) [.blk b2 46 [.int .i64 gNodes, .slice A_u41 gnEdges c_u41], .own u1 180 2 gnEdges (ints gxEdges), .own u2 26 1 (u3.length) (oc u3), .grp 3 1 (gl u3), .blk b1 40 [.int .i64 gNodes, gvEdges]])) (fun w hs => markIntSS_spec (hs.sub (List.sublist_append_left _ _)).self (by omega) (by omega)) ?_)
      rintro _ _ ⟨rfl, rfl⟩
      show Run _ _ (putF _ _ _ (.int .i64 (1 + ((tot u6 : Nat) : Int)))) [.own u5 26 1 (u6.length) (oc u6), .grp 3 1 (gl (mkps 1 u6)), .own (.slice A_u41 gnEdges c_u41) 180 2 gnEdges (ints (mks 1 (gnEdges * 2))), .own u7 180 2 gnEdges (ints gxEdges), .blk b2 46 [.int .i64 gNodes, .slice A_u41 gnEdges c_u41], .own u1 180 2 gnEdges (ints gxEdges), .own u2 26 1 (u3.length) (oc u3), .grp 3 1 (gl u3), .blk b1 40 [.int .i64 gNodes, gvEdges]]
      refine Run.q (v := .int .i64 (1 + ((tot u6 : Nat) : Int))) rfl (OpQ.y (OpY.pure rfl)) ?_
      refine Run.done ?_
      refine Run.seq ?_
      refine Run.region ?_
      refine Run.q (v := .int .i64 1) rfl (OpQ.y (OpY.pure rfl)) ?_
      refine Run.done ?_
      refine Run.seq ?_
      refine Run.region ?_
      refine Run.q (v := u5) rfl (OpQ.y (OpY.pure rfl)) ?_
      refine Run.q (v := .int .i64 1) rfl (OpQ.y (OpY.pure rfl)) ?_
      refine Run.q (v := .int .i64 (1 + ((tot u6 : Nat) : Int))) rfl (OpQ.call (vs := [u5, .int .i64 1]) (caps := []) Tcall_48 rfl rfl (fun w hs => heldIntSS_mk (hs.slOwn (.head _)) (hs.grpSl (.tail _ (List.Mem.head _))) (by omega) (by omega))) ?_
      refine Run.q (v := .int .i64 (1 + ((tot u6 : Nat) : Int))) rfl (OpQ.y (OpY.pure rfl)) ?_
      refine Run.done ?_
      refine Run.seq ?_
      refine Run.seq ?_
      refine Run.region ?_
      refine Run.q (v := .int .i64 (1 + ((tot u6 : Nat) : Int))) rfl (OpQ.y (OpY.pure rfl)) ?_
      refine Run.q (v := .bool (decide ((1 + ((tot u6 : Nat) : Int)) < 0))) rfl (OpQ.y (OpY.pure rfl)) ?_
      refine Run.done ?_
      refine Run.cond (b := decide ((1 + ((tot u6 : Nat) : Int)) < 0)) rfl (fun h69 => ?_) (fun h69 => ?_)
      · have p69 := h69; try simp only [decide_eq_true_eq, decide_eq_false_iff_not, beq_iff_eq, bne_iff_ne, beq_eq_false_iff_ne, ne_eq, gt_iff_lt, ge_iff_le, Int.not_lt, Int.not_le, bne_eq_false_iff_eq, Bool.not_eq_true', Bool.not_eq_false', Bool.and_eq_true, Bool.and_eq_false_iff, Bool.or_eq_true, Bool.or_eq_false_iff, Decidable.not_not, List.cons.injEq, and_true] at p69
        exact absurd h69 (by simp <;> omega) --DONE
      · have p69 := h69; try simp only [decide_eq_true_eq, decide_eq_false_iff_not, beq_iff_eq, bne_iff_ne, beq_eq_false_iff_ne, ne_eq, gt_iff_lt, ge_iff_le, Int.not_lt, Int.not_le, bne_eq_false_iff_eq, Bool.not_eq_true', Bool.not_eq_false', Bool.and_eq_true, Bool.and_eq_false_iff, Bool.or_eq_true, Bool.or_eq_false_iff, Decidable.not_not, List.cons.injEq, and_true] at p69
        refine Run.skip ?_
        refine Run.seq ?_
        refine Run.seq ?_
        refine Run.region ?_
        refine Run.q (v := .int .i64 (1 + ((tot u6 : Nat) : Int))) rfl (OpQ.y (OpY.pure rfl)) ?_
        refine Run.q (v := .int .i64 (1 + ((tot u6 : Nat) : Int))) rfl (OpQ.y (OpY.pure rfl)) ?_
        refine Run.q (v := .bool false) rfl (OpQ.y (OpY.neqSame rfl rfl rfl)) ?_
        refine Run.done ?_
        refine Run.cond (b := false) rfl (fun h => nomatch h) (fun _ => ?_)
        refine Run.skip ?_
        refine Run.seq ?_
        refine Run.region ?_
        refine Run.q (v := .agg #[.int .i64 gNodes, gvEdges]) rfl (OpQ.y (OpY.loadN (cs := [.int .i64 gNodes, gvEdges]) Tagg_40 rfl (Cells.blk (.tail _ (.tail _ (.tail _ (.tail _ (.tail _ (.tail _ (.tail _ (.tail _ (List.Mem.head _))))))))) ⟨rfl, rfl, trivial⟩))) ?_
        refine Run.step rfl (OpStep.call (vs := [.agg #[.int .i64 gNodes, gvEdges]]) (caps := []) Tcall_26 rfl rfl (fun w hs => toCouplingGraph_spec (hs.sl ghEdges) (by omega)) ?_)
        rintro _ _ ⟨u8, rfl, rfl⟩
        show Run _ _ (putF _ _ _ (.agg #[.int .i64 gNodes, u8])) [.own u8 180 2 gnEdges (ints gxEdges), .own u5 26 1 (u6.length) (oc u6), .grp 3 1 (gl (mkps 1 u6)), .own (.slice A_u41 gnEdges c_u41) 180 2 gnEdges (ints (mks 1 (gnEdges * 2))), .own u7 180 2 gnEdges (ints gxEdges), .blk b2 46 [.int .i64 gNodes, .slice A_u41 gnEdges c_u41], .own u1 180 2 gnEdges (ints gxEdges), .own u2 26 1 (u3.length) (oc u3), .grp 3 1 (gl u3), .blk b1 40 [.int .i64 gNodes, gvEdges]]
        refine Run.step rfl (OpStep.callM (H1 := [.own u8 180 2 gnEdges (ints gxEdges)]) (H2 := [.own u5 26 1 (u6.length) (oc u6), .grp 3 1 (gl (mkps 1 u6)), .own (.slice A_u41 gnEdges c_u41) 180 2 gnEdges (ints (mks 1 (gnEdges * 2))), .own u7 180 2 gnEdges (ints gxEdges), .blk b2 46 [.int .i64 gNodes, .slice A_u41 gnEdges c_u41], .own u1 180 2 gnEdges (ints gxEdges), .own u2 26 1 (u3.length) (oc u3), .grp 3 1 (gl u3), .blk b1 40 [.int .i64 gNodes, gvEdges]]) (vs := [.agg #[.int .i64 gNodes, u8]]) (caps := []) Tcall_45 rfl rfl (Weak.refl _) (fun w hs => SymmetriesOf_spec (hs.holds _ (.head _))) ?_)
        rintro _ _ ⟨u9, u10, hu10, rfl, rfl⟩
        show Run _ _ (putF _ _ _ (.tuple #[u9, .bool (symOk gNodes gxEdges gnEdges)])) [.own u8 180 2 gnEdges (ints gxEdges), .own u9 26 1 (u10.length) (oc u10), .grp 3 1 (gl u10), .own u5 26 1 (u6.length) (oc u6), .grp 3 1 (gl (mkps 1 u6)), .own (.slice A_u41 gnEdges c_u41) 180 2 gnEdges (ints (mks 1 (gnEdges * 2))), .own u7 180 2 gnEdges (ints gxEdges), .blk b2 46 [.int .i64 gNodes, .slice A_u41 gnEdges c_u41], .own u1 180 2 gnEdges (ints gxEdges), .own u2 26 1 (u3.length) (oc u3), .grp 3 1 (gl u3), .blk b1 40 [.int .i64 gNodes, gvEdges]]
        have htu10 : tot u10 ≤ 6000000 := symR_tot hu10
        refine Run.q (v := .tuple #[u9, .bool (symOk gNodes gxEdges gnEdges)]) rfl (OpQ.y (OpY.pure rfl)) ?_
        refine Run.q (v := u9) rfl (OpQ.y (OpY.pure rfl)) ?_
        refine Run.q (v := .bool (symOk gNodes gxEdges gnEdges)) rfl (OpQ.y (OpY.pure rfl)) ?_
        refine Run.q (v := u9) rfl (OpQ.y (OpY.pure rfl)) ?_
        refine Run.q (v := .bool (symOk gNodes gxEdges gnEdges)) rfl (OpQ.y (OpY.pure rfl)) ?_
        refine Run.done ?_
        refine Run.seq ?_
        refine Run.seq ?_
        refine Run.region ?_
        refine Run.q (v := u9) rfl (OpQ.y (OpY.pure rfl)) ?_
        refine Run.q (v := u2) rfl (OpQ.y (OpY.pure rfl)) ?_
        refine Run.q (v := .bool true) rfl (OpQ.call (vs := [u9, u2]) (caps := []) Tcall_46 rfl rfl (fun w hs => eqIntSS_true (hs.slOwn (.tail _ (List.Mem.head _))) (hs.slOwn (.tail _ (.tail _ (.tail _ (.tail _ (.tail _ (.tail _ (.tail _ (.tail _ (.tail _ (List.Mem.head _))))))))))) (hs.grpSl (.tail _ (.tail _ (List.Mem.head _)))) (hs.grpSl (.tail _ (.tail _ (.tail _ (.tail _ (.tail _ (.tail _ (.tail _ (.tail _ (.tail _ (.tail _ (List.Mem.head _)))))))))))) (hu10.trans hu3.symm))) ?_
        refine Run.q (v := .bool false) rfl (OpQ.y (OpY.pure rfl)) ?_
        refine Run.q (v := .bool false) rfl (OpQ.y (OpY.pure rfl)) ?_
        refine Run.q (v := .bool (symOk gNodes gxEdges gnEdges)) rfl (OpQ.y (OpY.pure rfl)) ?_
        refine Run.q (v := .bool (symOk gNodes gxEdges gnEdges)) rfl (OpQ.y (OpY.pure rfl)) ?_
        refine Run.q (v := .bool false) rfl (OpQ.y (OpY.neqBSame Tbool_4 rfl rfl rfl)) ?_
        refine Run.q (v := .bool false) rfl (OpQ.y (OpY.pure rfl)) ?_
        refine Run.done ?_
        refine Run.cond (b := false) rfl (fun h => nomatch h) (fun _ => ?_)
        refine Run.skip ?_
        refine Run.seq ?_
        refine Run.region ?_
        refine Run.q (v := .int .i64 1) rfl (OpQ.y (OpY.pure rfl)) ?_
        refine Run.done ?_
        refine Run.seq ?_
        refine Run.region ?_
        refine Run.q (v := u5) rfl (OpQ.y (OpY.pure rfl)) ?_
        refine Run.q (v := .int .i64 1) rfl (OpQ.y (OpY.pure rfl)) ?_
        refine Run.q (v := .int .i64 (1 + ((tot u6 : Nat) : Int))) rfl (OpQ.call (vs := [u5, .int .i64 1]) (caps := []) Tcall_48 rfl rfl (fun w hs => heldIntSS_mk (hs.slOwn (.tail _ (.tail _ (.tail _ (List.Mem.head _))))) (hs.grpSl (.tail _ (.tail _ (.tail _ (.tail _ (List.Mem.head _)))))) (by omega) (by omega))) ?_
        refine Run.q (v := .int .i64 (1 + ((tot u6 : Nat) : Int))) rfl (OpQ.y (OpY.pure rfl)) ?_
        refine Run.done ?_
        refine Run.seq ?_
        refine Run.seq ?_
        refine Run.region ?_
        refine Run.q (v := .int .i64 (1 + ((tot u6 : Nat) : Int))) rfl (OpQ.y (OpY.pure rfl)) ?_
        refine Run.q (v := .bool (decide ((1 + ((tot u6 : Nat) : Int)) < 0))) rfl (OpQ.y (OpY.pure rfl)) ?_
        refine Run.done ?_
        refine Run.cond (b := decide ((1 + ((tot u6 : Nat) : Int)) < 0)) rfl (fun h92 => ?_) (fun h92 => ?_)
        · have p92 := h92; try simp only [decide_eq_true_eq, decide_eq_false_iff_not, beq_iff_eq, bne_iff_ne, beq_eq_false_iff_ne, ne_eq, gt_iff_lt, ge_iff_le, Int.not_lt, Int.not_le, bne_eq_false_iff_eq, Bool.not_eq_true', Bool.not_eq_false', Bool.and_eq_true, Bool.and_eq_false_iff, Bool.or_eq_true, Bool.or_eq_false_iff, Decidable.not_not, List.cons.injEq, and_true] at p92
          exact absurd h92 (by simp <;> omega) --DONE
        · have p92 := h92; try simp only [decide_eq_true_eq, decide_eq_false_iff_not, beq_iff_eq, bne_iff_ne, beq_eq_false_iff_ne, ne_eq, gt_iff_lt, ge_iff_le, Int.not_lt, Int.not_le, bne_eq_false_iff_eq, Bool.not_eq_true', Bool.not_eq_false', Bool.and_eq_true, Bool.and_eq_false_iff, Bool.or_eq_true, Bool.or_eq_false_iff, Decidable.not_not, List.cons.injEq, and_true] at p92
          refine Run.skip ?_
          refine Run.seq ?_
          refine Run.seq ?_
          refine Run.region ?_
          refine Run.q (v := .int .i64 (1 + ((tot u6 : Nat) : Int))) rfl (OpQ.y (OpY.pure rfl)) ?_
          refine Run.q (v := .int .i64 (1 + ((tot u6 : Nat) : Int))) rfl (OpQ.y (OpY.pure rfl)) ?_
          refine Run.q (v := .bool false) rfl (OpQ.y (OpY.neqSame rfl rfl rfl)) ?_
          refine Run.done ?_
          refine Run.cond (b := false) rfl (fun h => nomatch h) (fun _ => ?_)
          refine Run.skip ?_
          refine Run.seq ?_
          refine Run.region ?_
          refine Run.q (v := .bool true) rfl (OpQ.y (OpY.pure rfl)) ?_
          refine Run.done ?_
          refine Run.ret ?_
          refine ⟨.bool true, [], Out.one rfl rfl, (Some'.weak (.nil _)), ?_⟩
          rfl

end Go.Proofs.Ytbpllboldphhiaa
