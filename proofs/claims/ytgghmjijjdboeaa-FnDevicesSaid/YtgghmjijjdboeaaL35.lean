/- The walk of the law FnDevices. -/
import Derived.Test.YtgghmjijjdboeaaDev
import Derived.Test.YtgghmjijjdboeaaCo
import Derived.Test.YtgghmjijjdboeaaDg2
import Derived.Test.YtgghmjijjdboeaaCg4
import Derived.Test.YtgghmjijjdboeaaProg
set_option linter.unusedSimpArgs false
set_option linter.unusedVariables false
namespace Go.Proofs.Ytgghmjijjdboeaa
open Go Go.RowKit
namespace L35T
theorem Tagg_25 : aggOf Try.prog 25 = some 2 := by kernel_rfl
theorem Tbool_4 : Try.prog.underlying 4 = some .bool := by kernel_rfl
theorem Tcall_12 : callable Try.prog 12 = true := by kernel_rfl
theorem Tcall_13 : callable Try.prog 13 = true := by kernel_rfl
theorem Tcall_15 : callable Try.prog 15 = true := by kernel_rfl
theorem Tcall_16 : callable Try.prog 16 = true := by kernel_rfl
theorem Tcall_17 : callable Try.prog 17 = true := by kernel_rfl
theorem Tcall_18 : callable Try.prog 18 = true := by kernel_rfl
theorem Tcall_19 : callable Try.prog 19 = true := by kernel_rfl
theorem Tcall_20 : callable Try.prog 20 = true := by kernel_rfl
theorem Tcall_21 : callable Try.prog 21 = true := by kernel_rfl
theorem Tcall_22 : callable Try.prog 22 = true := by kernel_rfl
theorem Tcall_23 : callable Try.prog 23 = true := by kernel_rfl
theorem Tfo_25_0 : fieldOff Try.prog 25 0 = some 0 := by kernel_rfl
theorem Tone_3 : oneOf Try.prog 3 = true := by kernel_rfl
theorem Tsize_25 : (Try.prog.info? 25).map (·.size) = some 2 := by kernel_rfl
theorem Tsl_22 : sliceOf Try.prog 22 = some (5, 1, 1, [.int .u8 0]) := by kernel_rfl
theorem Tsl_27 : sliceOf Try.prog 27 = some (34, 1, 24, [.slice none 0 0]) := by kernel_rfl
theorem Tsl_34 : sliceOf Try.prog 34 = some (3, 1, 8, [.int .i64 0]) := by kernel_rfl
theorem Tzero_25 : zeroOf Try.prog 25 = some [.int .i64 0, .slice none 0 0] := by kernel_rfl
end L35T
open L35T
set_option maxHeartbeats 1000000 in
set_option maxRecDepth 20000 in
theorem law_spec {va vb : Value} {n m0 : Nat} {cs ds : List Int} {w : World} (ha : Sl w va 1 n (u8s cs)) (hby : ∀ x ∈ cs, 0 ≤ x ∧ x < 256) (hb : Sl w vb 1 m0 (u8s ds)) (hbz : ∀ x ∈ ds, 0 ≤ x ∧ x < 256) : Calls Try.prog 4 #[va, vb] w (Post No w fun v _ => v = .bool true) := by
  obtain ⟨Ac, cc, rfl, hn0, _⟩ := ha.form0
  obtain ⟨Bc, dd, rfl, hm0, _⟩ := hb.form0
  have hn := ha.le
  have hm := hb.le
  refine enter (n := 222) (args := [.slice Ac n cc, .slice Bc m0 dd]) Try.func4 rfl rfl (St.empty _ _) ?_
  refine Run.seq ?_
  refine Run.region ?_
  refine Run.q (v := .bool false) rfl (OpQ.y (OpY.pure rfl)) ?_
  refine Run.done ?_
  refine Run.seq ?_
  refine Run.seq ?_
  refine Run.region ?_
  refine Run.q (v := .slice Ac n cc) rfl (OpQ.y (OpY.pure rfl)) ?_
  refine Run.q (v := .int .i64 (((n : Nat) : Int))) rfl (OpQ.y (OpY.len Tsl_22 rfl)) ?_
  refine Run.q (v := .slice Bc m0 dd) rfl (OpQ.y (OpY.pure rfl)) ?_
  refine Run.q (v := .int .i64 (((m0 : Nat) : Int))) rfl (OpQ.y (OpY.len Tsl_22 rfl)) ?_
  refine Run.q (v := .int .i64 (IntKind.i64.wrap (((n : Nat) : Int) + ((m0 : Nat) : Int)))) rfl (OpQ.y (OpY.addW rfl rfl rfl)) ?_
  refine Run.q (v := .bool (decide ((IntKind.i64.wrap (((n : Nat) : Int) + ((m0 : Nat) : Int))) > 1048576))) rfl (OpQ.y (OpY.pure rfl)) ?_
  refine Run.done ?_
  refine Run.cond (b := decide ((IntKind.i64.wrap (((n : Nat) : Int) + ((m0 : Nat) : Int))) > 1048576)) rfl (fun h39 => ?_) (fun h39 => ?_)
  · have p39 := h39; try simp only [decide_eq_true_eq, decide_eq_false_iff_not, beq_iff_eq, bne_iff_ne, beq_eq_false_iff_ne, ne_eq, gt_iff_lt, ge_iff_le, Int.not_lt, Int.not_le, bne_eq_false_iff_eq, Bool.not_eq_true', Bool.not_eq_false', Bool.and_eq_true, Bool.and_eq_false_iff, Bool.or_eq_true, Bool.or_eq_false_iff, Decidable.not_not, List.cons.injEq, and_true] at p39
    refine Run.seq ?_
    refine Run.region ?_
    refine Run.q (v := .bool true) rfl (OpQ.y (OpY.pure rfl)) ?_
    refine Run.done ?_
    refine Run.ret ?_
    refine ⟨.bool true, [], Out.one rfl rfl, (Some'.weak (.nil _)), ?_⟩
    rfl
  · have p39 := h39; try simp only [decide_eq_true_eq, decide_eq_false_iff_not, beq_iff_eq, bne_iff_ne, beq_eq_false_iff_ne, ne_eq, gt_iff_lt, ge_iff_le, Int.not_lt, Int.not_le, bne_eq_false_iff_eq, Bool.not_eq_true', Bool.not_eq_false', Bool.and_eq_true, Bool.and_eq_false_iff, Bool.or_eq_true, Bool.or_eq_false_iff, Decidable.not_not, List.cons.injEq, and_true] at p39
    refine Run.skip ?_
    refine Run.seq ?_
    refine Run.region ?_
    refine Run.q (v := .slice Ac n cc) rfl (OpQ.y (OpY.pure rfl)) ?_
    refine Run.step rfl (OpStep.call (vs := [.slice Ac n cc]) (caps := []) Tcall_16 rfl rfl (fun w hs => DrawShortestPath_spec (hs.sl ha) hby) ?_)
    rintro _ _ ⟨N, u, m, es, a, b, hdg, hA, hB, rfl, rfl⟩
    show Run _ _ (putF _ _ _ (.tuple #[.agg #[.int .i64 N, u], .int .i64 a, .int .i64 b])) [.own u 64 2 m (ints es)]
    refine Run.q (v := .tuple #[.agg #[.int .i64 N, u], .int .i64 a, .int .i64 b]) rfl (OpQ.y (OpY.pure rfl)) ?_
    refine Run.q (v := .agg #[.int .i64 N, u]) rfl (OpQ.y (OpY.pure rfl)) ?_
    refine Run.q (v := .int .i64 a) rfl (OpQ.y (OpY.pure rfl)) ?_
    refine Run.q (v := .int .i64 b) rfl (OpQ.y (OpY.pure rfl)) ?_
    refine Run.step rfl (OpStep.alloc (zs := [.int .i64 0, .slice none 0 0]) Tzero_25 fun b1 => ?_)
    refine Run.formOwn (.tail _ (List.Mem.head _)) (fun A_u1 c_u1 hv hcapc_u1 hmaxc_u1 => ?_) (fun _ _ _ => ⟨nofun, nofun, nofun⟩)
    subst hv
    refine Run.step rfl (OpStep.storeAll (us := [.int .i64 N, .slice A_u1 m c_u1]) Tsize_25 rfl rfl rfl (.here _) rfl ?_)
    refine Run.q (v := .int .i64 a) rfl (OpQ.y (OpY.pure rfl)) ?_
    refine Run.q (v := .int .i64 b) rfl (OpQ.y (OpY.pure rfl)) ?_
    refine Run.done ?_
    refine Run.seq ?_
    refine Run.region ?_
    refine Run.q (v := .agg #[.int .i64 N, .slice A_u1 m c_u1]) rfl (OpQ.y (OpY.loadN (cs := [.int .i64 N, .slice A_u1 m c_u1]) Tagg_25 rfl (Cells.blk (.head _) ⟨rfl, rfl, trivial⟩))) ?_
    refine Run.q (v := .int .i64 a) rfl (OpQ.y (OpY.pure rfl)) ?_
    refine Run.q (v := .int .i64 b) rfl (OpQ.y (OpY.pure rfl)) ?_
    refine Run.step rfl (OpStep.call (vs := [.agg #[.int .i64 N, .slice A_u1 m c_u1], .int .i64 a, .int .i64 b]) (caps := []) Tcall_17 rfl rfl (fun w hs => ShortestPath_spec (hs.slOwn (.tail _ (List.Mem.head _)))) ?_)
    rintro _ _ ⟨up, hlup, rfl, rfl⟩
    show Run _ _ (putF _ _ _ (.tuple #[up, .bool (spB N es m a b)])) [.own up 3 1 ((spR N es m a b).length) (ints (spR N es m a b)), .blk b1 25 [.int .i64 N, .slice A_u1 m c_u1], .own (.slice A_u1 m c_u1) 64 2 m (ints es)]
    refine Run.q (v := .tuple #[up, .bool (spB N es m a b)]) rfl (OpQ.y (OpY.pure rfl)) ?_
    refine Run.q (v := up) rfl (OpQ.y (OpY.pure rfl)) ?_
    refine Run.q (v := .bool (spB N es m a b)) rfl (OpQ.y (OpY.pure rfl)) ?_
    refine Run.q (v := up) rfl (OpQ.y (OpY.pure rfl)) ?_
    refine Run.q (v := .bool (spB N es m a b)) rfl (OpQ.y (OpY.pure rfl)) ?_
    refine Run.done ?_
    refine Run.seq ?_
    have hNi0 : In64 N := by have := hdg.n0; simp only [In64]; omega
    have hei0 : ∀ x ∈ es, In64 x := fun x hx => by have := hdg.es0 x hx; simp only [In64]; omega
    refine Run.region ?_
    refine Run.q (v := .agg #[.int .i64 N, .slice A_u1 m c_u1]) rfl (OpQ.y (OpY.loadN (cs := [.int .i64 N, .slice A_u1 m c_u1]) Tagg_25 rfl (Cells.blk (.tail _ (List.Mem.head _)) ⟨rfl, rfl, trivial⟩))) ?_
    refine Run.q (v := .int .i64 a) rfl (OpQ.y (OpY.pure rfl)) ?_
    refine Run.q (v := .int .i64 b) rfl (OpQ.y (OpY.pure rfl)) ?_
    refine Run.step rfl (OpStep.call (vs := [.agg #[.int .i64 N, .slice A_u1 m c_u1], .int .i64 a, .int .i64 b]) (caps := []) Tcall_18 rfl rfl (fun w hs => sShortestPath_spec hNi0 hei0 (hs.slOwn (.tail _ (.tail _ (List.Mem.head _))))) ?_)
    rintro _ _ ⟨uw, hluw, rfl, rfl⟩
    show Run _ _ (putF _ _ _ (.tuple #[uw, .bool (spB N es m a b)])) [.own uw 3 1 ((spR N es m a b).length) (ints (spR N es m a b)), .own up 3 1 ((spR N es m a b).length) (ints (spR N es m a b)), .blk b1 25 [.int .i64 N, .slice A_u1 m c_u1], .own (.slice A_u1 m c_u1) 64 2 m (ints es)]
    refine Run.q (v := .tuple #[uw, .bool (spB N es m a b)]) rfl (OpQ.y (OpY.pure rfl)) ?_
    refine Run.q (v := uw) rfl (OpQ.y (OpY.pure rfl)) ?_
    refine Run.q (v := .bool (spB N es m a b)) rfl (OpQ.y (OpY.pure rfl)) ?_
    refine Run.q (v := uw) rfl (OpQ.y (OpY.pure rfl)) ?_
    refine Run.q (v := .bool (spB N es m a b)) rfl (OpQ.y (OpY.pure rfl)) ?_
    refine Run.done ?_
    refine Run.seq ?_
    refine Run.region ?_
    refine Run.q (v := .slice Bc m0 dd) rfl (OpQ.y (OpY.pure rfl)) ?_
    refine Run.step rfl (OpStep.call (vs := [.slice Bc m0 dd]) (caps := []) Tcall_19 rfl rfl (fun w hs => DrawDiameterOf_spec (hs.sl hb) hbz) ?_)
    rintro _ _ ⟨N2, u2, m2, es2, hdg2, rfl, rfl⟩
    show Run _ _ (putF _ _ _ (.agg #[.int .i64 N2, u2])) [.own u2 64 2 m2 (ints es2), .own uw 3 1 ((spR N es m a b).length) (ints (spR N es m a b)), .own up 3 1 ((spR N es m a b).length) (ints (spR N es m a b)), .blk b1 25 [.int .i64 N, .slice A_u1 m c_u1], .own (.slice A_u1 m c_u1) 64 2 m (ints es)]
    have hNi : In64 N := by have := hdg.n0; simp only [In64]; omega
    have hNi2 : In64 N2 := by have := hdg2.n0; simp only [In64]; omega
    have hei : ∀ x ∈ es, In64 x := fun x hx => by have := hdg.es0 x hx; simp only [In64]; omega
    have hei2 : ∀ x ∈ es2, In64 x := fun x hx => by have := hdg2.es0 x hx; simp only [In64]; omega
    refine Run.step rfl (OpStep.alloc (zs := [.int .i64 0, .slice none 0 0]) Tzero_25 fun b2 => ?_)
    refine Run.formOwn (.tail _ (List.Mem.head _)) (fun A_u21 c_u21 hv hcapc_u21 hmaxc_u21 => ?_) (fun _ _ _ => ⟨nofun, nofun, nofun⟩)
    subst hv
    refine Run.step rfl (OpStep.storeAll (us := [.int .i64 N2, .slice A_u21 m2 c_u21]) Tsize_25 rfl rfl rfl (.here _) rfl ?_)
    refine Run.done ?_
    refine Run.seq ?_
    refine Run.region ?_
    refine Run.q (v := .agg #[.int .i64 N2, .slice A_u21 m2 c_u21]) rfl (OpQ.y (OpY.loadN (cs := [.int .i64 N2, .slice A_u21 m2 c_u21]) Tagg_25 rfl (Cells.blk (.head _) ⟨rfl, rfl, trivial⟩))) ?_
    refine Run.q (v := .tuple #[.int .i64 (diV N2 es2 m2 (distL es2 m2 N2.toNat)), .bool (diOk N2 es2 m2 (distL es2 m2 N2.toNat))]) rfl (OpQ.call (vs := [.agg #[.int .i64 N2, .slice A_u21 m2 c_u21]]) (caps := []) Tcall_13 rfl rfl (fun w hs => DiameterOf_spec (hs.slOwn (.tail _ (List.Mem.head _))))) ?_
    refine Run.q (v := .tuple #[.int .i64 (diV N2 es2 m2 (distL es2 m2 N2.toNat)), .bool (diOk N2 es2 m2 (distL es2 m2 N2.toNat))]) rfl (OpQ.y (OpY.pure rfl)) ?_
    refine Run.q (v := .int .i64 (diV N2 es2 m2 (distL es2 m2 N2.toNat))) rfl (OpQ.y (OpY.pure rfl)) ?_
    refine Run.q (v := .bool (diOk N2 es2 m2 (distL es2 m2 N2.toNat))) rfl (OpQ.y (OpY.pure rfl)) ?_
    refine Run.q (v := .int .i64 (diV N2 es2 m2 (distL es2 m2 N2.toNat))) rfl (OpQ.y (OpY.pure rfl)) ?_
    refine Run.q (v := .bool (diOk N2 es2 m2 (distL es2 m2 N2.toNat))) rfl (OpQ.y (OpY.pure rfl)) ?_
    refine Run.done ?_
    refine Run.seq ?_
    refine Run.region ?_
    refine Run.q (v := .agg #[.int .i64 N2, .slice A_u21 m2 c_u21]) rfl (OpQ.y (OpY.loadN (cs := [.int .i64 N2, .slice A_u21 m2 c_u21]) Tagg_25 rfl (Cells.blk (.head _) ⟨rfl, rfl, trivial⟩))) ?_
    refine Run.q (v := .tuple #[.int .i64 (diV N2 es2 m2 (distL es2 m2 N2.toNat)), .bool (diOk N2 es2 m2 (distL es2 m2 N2.toNat))]) rfl (OpQ.call (vs := [.agg #[.int .i64 N2, .slice A_u21 m2 c_u21]]) (caps := []) Tcall_20 rfl rfl (fun w hs => sDiameterOf_spec hNi2 hei2 (hs.slOwn (.tail _ (List.Mem.head _))))) ?_
    refine Run.q (v := .tuple #[.int .i64 (diV N2 es2 m2 (distL es2 m2 N2.toNat)), .bool (diOk N2 es2 m2 (distL es2 m2 N2.toNat))]) rfl (OpQ.y (OpY.pure rfl)) ?_
    refine Run.q (v := .int .i64 (diV N2 es2 m2 (distL es2 m2 N2.toNat))) rfl (OpQ.y (OpY.pure rfl)) ?_
    refine Run.q (v := .bool (diOk N2 es2 m2 (distL es2 m2 N2.toNat))) rfl (OpQ.y (OpY.pure rfl)) ?_
    refine Run.q (v := .int .i64 (diV N2 es2 m2 (distL es2 m2 N2.toNat))) rfl (OpQ.y (OpY.pure rfl)) ?_
    refine Run.q (v := .bool (diOk N2 es2 m2 (distL es2 m2 N2.toNat))) rfl (OpQ.y (OpY.pure rfl)) ?_
    refine Run.done ?_
    refine Run.seq ?_
    refine Run.seq ?_
    refine Run.region ?_
    refine Run.q (v := .bool (spB N es m a b)) rfl (OpQ.y (OpY.pure rfl)) ?_
    refine Run.q (v := .bool (spB N es m a b)) rfl (OpQ.y (OpY.pure rfl)) ?_
    refine Run.q (v := .bool false) rfl (OpQ.y (OpY.neqBSame Tbool_4 rfl rfl rfl)) ?_
    refine Run.q (v := .bool false) rfl (OpQ.y (OpY.pure rfl)) ?_
    refine Run.q (v := up) rfl (OpQ.y (OpY.pure rfl)) ?_
    refine Run.q (v := uw) rfl (OpQ.y (OpY.pure rfl)) ?_
    refine Run.q (v := .bool true) rfl (OpQ.call (vs := [up, uw]) (caps := []) Tcall_12 rfl rfl (fun w hs => (by have h := qInts_spec (hs.slOwn (.tail _ (.tail _ (.tail _ (List.Mem.head _))))) (hs.slOwn (.tail _ (.tail _ (List.Mem.head _)))); rw [decide_eq_true (rfl : spR N es m a b = spR N es m a b)] at h; exact h))) ?_
    refine Run.q (v := .bool false) rfl (OpQ.y (OpY.pure rfl)) ?_
    refine Run.q (v := .bool false) rfl (OpQ.y (OpY.pure rfl)) ?_
    refine Run.q (v := .bool false) rfl (OpQ.y (OpY.pure rfl)) ?_
    refine Run.q (v := .bool (diOk N2 es2 m2 (distL es2 m2 N2.toNat))) rfl (OpQ.y (OpY.pure rfl)) ?_
    refine Run.q (v := .bool (diOk N2 es2 m2 (distL es2 m2 N2.toNat))) rfl (OpQ.y (OpY.pure rfl)) ?_
    refine Run.q (v := .bool false) rfl (OpQ.y (OpY.neqBSame Tbool_4 rfl rfl rfl)) ?_
    refine Run.q (v := .bool false) rfl (OpQ.y (OpY.pure rfl)) ?_
    refine Run.q (v := .bool false) rfl (OpQ.y (OpY.pure rfl)) ?_
    refine Run.q (v := .int .i64 (diV N2 es2 m2 (distL es2 m2 N2.toNat))) rfl (OpQ.y (OpY.pure rfl)) ?_
    refine Run.q (v := .int .i64 (diV N2 es2 m2 (distL es2 m2 N2.toNat))) rfl (OpQ.y (OpY.pure rfl)) ?_
    refine Run.q (v := .bool false) rfl (OpQ.y (OpY.neqSame rfl rfl rfl)) ?_
    refine Run.q (v := .bool false) rfl (OpQ.y (OpY.pure rfl)) ?_
    refine Run.done ?_
    refine Run.cond (b := false) rfl (fun h => nomatch h) (fun _ => ?_)
    refine Run.skip ?_
    refine Run.seq ?_
    refine Run.seq ?_
    refine Run.region ?_
    refine Run.q (v := .bool (diOk N2 es2 m2 (distL es2 m2 N2.toNat))) rfl (OpQ.y (OpY.pure rfl)) ?_
    refine Run.done ?_
    refine Run.cut (ι := Nat) [4, 17, 18, 19, 20, 21, 22, 23, 92, 93, 94, 95, 96, 97, 98, 99, 100, 101, 102, 103, 104, 105, 106, 107, 108, 109, 110, 111, 112, 113, 114, 115, 116, 117, 118, 119, 120, 121, 122, 123, 124, 125, 126, 127, 128] (fun t9 => []) (fun t9 => [.blk b2 25 [.int .i64 N2, .slice A_u21 m2 c_u21], .own (.slice A_u21 m2 c_u21) 64 2 m2 (ints es2), .own uw 3 1 ((spR N es m a b).length) (ints (spR N es m a b)), .own up 3 1 ((spR N es m a b).length) (ints (spR N es m a b)), .blk b1 25 [.int .i64 N, .slice A_u1 m c_u1], .own (.slice A_u1 m c_u1) 64 2 m (ints es)]) (fun t9 => True) ?_ ?_
    · refine Run.cond (b := diOk N2 es2 m2 (distL es2 m2 N2.toNat)) rfl (fun h91 => ?_) (fun h91 => ?_)
      · have p91 := h91; try simp only [decide_eq_true_eq, decide_eq_false_iff_not, beq_iff_eq, bne_iff_ne, beq_eq_false_iff_ne, ne_eq, gt_iff_lt, ge_iff_le, Int.not_lt, Int.not_le, bne_eq_false_iff_eq, Bool.not_eq_true', Bool.not_eq_false', Bool.and_eq_true, Bool.and_eq_false_iff, Bool.or_eq_true, Bool.or_eq_false_iff, Decidable.not_not, List.cons.injEq, and_true] at p91
        have hdi : diOk N2 es2 m2 (distL es2 m2 N2.toNat) = true := by simpa using h91
        have hcg2 := (diOk_iff hdi).1
        have hcN2 := cgOk_N hcg2
        refine Run.seq ?_
        refine Run.region ?_
        refine Run.q (v := .agg #[.int .i64 N2, .slice A_u21 m2 c_u21]) rfl (OpQ.y (OpY.loadN (cs := [.int .i64 N2, .slice A_u21 m2 c_u21]) Tagg_25 rfl (Cells.blk (.head _) ⟨rfl, rfl, trivial⟩))) ?_
        refine Run.step rfl (OpStep.call (vs := [.agg #[.int .i64 N2, .slice A_u21 m2 c_u21]]) (caps := []) Tcall_21 rfl rfl (fun w hs => (by have h := ComponentsOf_spec (N := N2) (hs.slOwn (.tail _ (List.Mem.head _))); rw [hcg2] at h; exact h)) ?_)
        rintro _ _ ⟨uc, ps, hps, rfl, rfl⟩
        show Run _ _ (putF _ _ _ (.tuple #[uc, .bool true])) [.own uc 34 1 (ps.length) (oc ps), .grp 3 1 (gl ps), .blk b2 25 [.int .i64 N2, .slice A_u21 m2 c_u21], .own (.slice A_u21 m2 c_u21) 64 2 m2 (ints es2), .own uw 3 1 ((spR N es m a b).length) (ints (spR N es m a b)), .own up 3 1 ((spR N es m a b).length) (ints (spR N es m a b)), .blk b1 25 [.int .i64 N, .slice A_u1 m c_u1], .own (.slice A_u1 m c_u1) 64 2 m (ints es)]
        have hpl : ps.length = 1 := by rw [← compR_one hdi, ← hps, List.length_map]
        refine Run.q (v := .tuple #[uc, .bool true]) rfl (OpQ.y (OpY.pure rfl)) ?_
        refine Run.q (v := uc) rfl (OpQ.y (OpY.pure rfl)) ?_
        refine Run.q (v := .bool true) rfl (OpQ.y (OpY.pure rfl)) ?_
        refine Run.q (v := uc) rfl (OpQ.y (OpY.pure rfl)) ?_
        refine Run.q (v := .bool true) rfl (OpQ.y (OpY.pure rfl)) ?_
        refine Run.done ?_
        refine Run.seq ?_
        refine Run.region ?_
        refine Run.q (v := .int .i64 0) rfl (OpQ.y (OpY.pure rfl)) ?_
        refine Run.done ?_
        refine Run.seq ?_
        refine Run.seq ?_
        refine Run.region ?_
        refine Run.q (v := .int .i64 0) rfl (OpQ.y (OpY.pure rfl)) ?_
        refine Run.done ?_
        refine Run.block ?_
        refine Run.loop (ι := Nat) [4, 19, 20, 21, 22, 23, 97, 98, 99, 100, 101, 102, 103, 104, 105, 106, 107, 108, 109, 110, 111, 112, 113, 114, 115, 116] (fun i => [(19, .int .i64 (mxA (distL es2 m2 N2.toNat) N2.toNat i)), (20, .int .i64 (((i : Nat) : Int)))]) (fun i => [.own uc 34 1 (ps.length) (oc ps), .grp 3 1 (gl ps), .blk b2 25 [.int .i64 N2, .slice A_u21 m2 c_u21], .own (.slice A_u21 m2 c_u21) 64 2 m2 (ints es2), .own uw 3 1 ((spR N es m a b).length) (ints (spR N es m a b)), .own up 3 1 ((spR N es m a b).length) (ints (spR N es m a b)), .blk b1 25 [.int .i64 N, .slice A_u1 m c_u1], .own (.slice A_u1 m c_u1) 64 2 m (ints es)]) (fun i => i ≤ N2.toNat) (fun i => N2.toNat - i) 0 ?_ ?_ ?_ ?_
        · exact Nat.zero_le _
        · exact ⟨rfl, rfl, trivial⟩
        · exact (Some'.weak (.take (.take (.take (.take (.take (.take (.take (.take (.nil _))))))))))
        · rintro i fr hinv
          show Run _ _ (over _ _ [(19, .int .i64 (mxA (distL es2 m2 N2.toNat) N2.toNat i)), (20, .int .i64 (((i : Nat) : Int)))] fr) [.own uc 34 1 (ps.length) (oc ps), .grp 3 1 (gl ps), .blk b2 25 [.int .i64 N2, .slice A_u21 m2 c_u21], .own (.slice A_u21 m2 c_u21) 64 2 m2 (ints es2), .own uw 3 1 ((spR N es m a b).length) (ints (spR N es m a b)), .own up 3 1 ((spR N es m a b).length) (ints (spR N es m a b)), .blk b1 25 [.int .i64 N, .slice A_u1 m c_u1], .own (.slice A_u1 m c_u1) 64 2 m (ints es)]
          try dsimp only at hinv
          refine Run.seq ?_
          refine Run.seq ?_
          refine Run.region ?_
          refine Run.q (v := .int .i64 (((i : Nat) : Int))) rfl (OpQ.y (OpY.pure rfl)) ?_
          refine Run.q (v := .pointer (some ⟨b2, 0, none⟩)) rfl (OpQ.y (OpY.fieldAddr Tfo_25_0 rfl rfl)) ?_
          refine Run.q (v := .int .i64 N2) rfl (OpQ.y (OpY.load1 Tone_3 rfl (Cells.blk (.tail _ (.tail _ (List.Mem.head _))) ⟨rfl, trivial⟩))) ?_
          refine Run.q (v := .bool (decide ((((i : Nat) : Int)) < N2))) rfl (OpQ.y (OpY.pure rfl)) ?_
          refine Run.done ?_
          refine Run.cond (b := decide ((((i : Nat) : Int)) < N2)) rfl (fun h100 => ?_) (fun h100 => ?_)
          · have p100 := h100; try simp only [decide_eq_true_eq, decide_eq_false_iff_not, beq_iff_eq, bne_iff_ne, beq_eq_false_iff_ne, ne_eq, gt_iff_lt, ge_iff_le, Int.not_lt, Int.not_le, bne_eq_false_iff_eq, Bool.not_eq_true', Bool.not_eq_false', Bool.and_eq_true, Bool.and_eq_false_iff, Bool.or_eq_true, Bool.or_eq_false_iff, Decidable.not_not, List.cons.injEq, and_true] at p100
            refine Run.skip ?_
            refine Run.seq ?_
            refine Run.block ?_
            refine Run.seq ?_
            refine Run.region ?_
            refine Run.q (v := .agg #[.int .i64 N2, .slice A_u21 m2 c_u21]) rfl (OpQ.y (OpY.loadN (cs := [.int .i64 N2, .slice A_u21 m2 c_u21]) Tagg_25 rfl (Cells.blk (.tail _ (.tail _ (List.Mem.head _))) ⟨rfl, rfl, trivial⟩))) ?_
            refine Run.q (v := .int .i64 (((i : Nat) : Int))) rfl (OpQ.y (OpY.pure rfl)) ?_
            refine Run.step rfl (OpStep.call (vs := [.agg #[.int .i64 N2, .slice A_u21 m2 c_u21], .int .i64 (((i : Nat) : Int))]) (caps := []) Tcall_15 rfl rfl (fun w hs => (by have h := DistancesFrom_spec (N := N2) (node := (i : Int)) (hs.slOwn (.tail _ (.tail _ (.tail _ (List.Mem.head _))))); rw [nbOk_of hcg2 ⟨by omega, by omega⟩, distR_of hcg2 ⟨by omega, by omega⟩, Int.toNat_natCast] at h; exact h)) ?_)
            rintro _ _ ⟨uf, hluf, rfl, rfl⟩
            show Run _ _ (putF _ _ _ (.tuple #[uf, .bool true])) [.own uf 3 1 ((distL es2 m2 N2.toNat i).length) (ints (distL es2 m2 N2.toNat i)), .own uc 34 1 (ps.length) (oc ps), .grp 3 1 (gl ps), .blk b2 25 [.int .i64 N2, .slice A_u21 m2 c_u21], .own (.slice A_u21 m2 c_u21) 64 2 m2 (ints es2), .own uw 3 1 ((spR N es m a b).length) (ints (spR N es m a b)), .own up 3 1 ((spR N es m a b).length) (ints (spR N es m a b)), .blk b1 25 [.int .i64 N, .slice A_u1 m c_u1], .own (.slice A_u1 m c_u1) 64 2 m (ints es)]
            have hlenuf : (distL es2 m2 N2.toNat i).length = N2.toNat := distL_len (by omega)
            refine Run.q (v := .tuple #[uf, .bool true]) rfl (OpQ.y (OpY.pure rfl)) ?_
            refine Run.q (v := uf) rfl (OpQ.y (OpY.pure rfl)) ?_
            refine Run.q (v := .bool true) rfl (OpQ.y (OpY.pure rfl)) ?_
            refine Run.q (v := uf) rfl (OpQ.y (OpY.pure rfl)) ?_
            refine Run.q (v := .bool true) rfl (OpQ.y (OpY.pure rfl)) ?_
            refine Run.done ?_
            refine Run.seq ?_
            refine Run.seq ?_
            refine Run.region ?_
            refine Run.q (v := .bool true) rfl (OpQ.y (OpY.pure rfl)) ?_
            refine Run.q (v := .bool false) rfl (OpQ.y (OpY.pure rfl)) ?_
            refine Run.done ?_
            refine Run.cond (b := false) rfl (fun h => nomatch h) (fun _ => ?_)
            refine Run.skip ?_
            refine Run.seq ?_
            refine Run.region ?_
            refine Run.q (v := uf) rfl (OpQ.y (OpY.pure rfl)) ?_
            refine Run.q (v := .int .i64 (mxV (distL es2 m2 N2.toNat i) 0 N2.toNat)) rfl (OpQ.call (vs := [uf]) (caps := []) Tcall_22 rfl rfl (fun w hs => (by have h := qMost_spec (hs.slOwn (.head _)); rw [hlenuf] at h; exact h))) ?_
            refine Run.q (v := .int .i64 (mxV (distL es2 m2 N2.toNat i) 0 N2.toNat)) rfl (OpQ.y (OpY.pure rfl)) ?_
            refine Run.done ?_
            refine Run.seq ?_
            refine Run.region ?_
            refine Run.q (v := .int .i64 (mxV (distL es2 m2 N2.toNat i) 0 N2.toNat)) rfl (OpQ.y (OpY.pure rfl)) ?_
            refine Run.q (v := .int .i64 (mxA (distL es2 m2 N2.toNat) N2.toNat i)) rfl (OpQ.y (OpY.pure rfl)) ?_
            refine Run.q (v := .bool (decide ((mxV (distL es2 m2 N2.toNat i) 0 N2.toNat) > (mxA (distL es2 m2 N2.toNat) N2.toNat i)))) rfl (OpQ.y (OpY.pure rfl)) ?_
            refine Run.done ?_
            refine Run.cond (b := decide ((mxV (distL es2 m2 N2.toNat i) 0 N2.toNat) > (mxA (distL es2 m2 N2.toNat) N2.toNat i))) rfl (fun h115 => ?_) (fun h115 => ?_)
            · have p115 := h115; try simp only [decide_eq_true_eq, decide_eq_false_iff_not, beq_iff_eq, bne_iff_ne, beq_eq_false_iff_ne, ne_eq, gt_iff_lt, ge_iff_le, Int.not_lt, Int.not_le, bne_eq_false_iff_eq, Bool.not_eq_true', Bool.not_eq_false', Bool.and_eq_true, Bool.and_eq_false_iff, Bool.or_eq_true, Bool.or_eq_false_iff, Decidable.not_not, List.cons.injEq, and_true] at p115
              refine Run.region ?_
              refine Run.q (v := .int .i64 (mxV (distL es2 m2 N2.toNat i) 0 N2.toNat)) rfl (OpQ.y (OpY.pure rfl)) ?_
              refine Run.q (v := .int .i64 (mxV (distL es2 m2 N2.toNat i) 0 N2.toNat)) rfl (OpQ.y (OpY.pure rfl)) ?_
              refine Run.done ?_
              refine Run.blockEnd ?_
              refine Run.region ?_
              refine Run.q (v := .int .i64 (((i : Nat) : Int))) rfl (OpQ.y (OpY.pure rfl)) ?_
              refine Run.q (v := .int .i64 ((((i : Nat) : Int)) + 1)) rfl (OpQ.y (OpY.add rfl rfl rfl (by omega) (by omega))) ?_
              refine Run.q (v := .int .i64 ((((i : Nat) : Int)) + 1)) rfl (OpQ.y (OpY.pure rfl)) ?_
              refine Run.done ?_
              refine Run.goal ⟨(by repeat (first | exact Same.refl _ _ | refine Same.put rfl ?_ | refine Same.over rfl rfl ?_)), i + 1, ?_, ?_, ?_, ?_⟩
              · omega
              · omega
              · exact ⟨(by show Value.int _ _ = Value.int _ _; rw [mxA_step]; congr 1; omega), (by first | rfl | (congr 1; omega) | simp), trivial⟩
              · exact (Some'.weak (.skip (.takeEq (by first | rfl | simp) (.takeEq (by first | rfl | simp) (.take (.takeEq (by first | rfl | simp) (.takeEq (by first | rfl | simp) (.takeEq (by first | rfl | simp) (.take (.takeEq (by first | rfl | simp) (.nil _)))))))))))
            · have p115 := h115; try simp only [decide_eq_true_eq, decide_eq_false_iff_not, beq_iff_eq, bne_iff_ne, beq_eq_false_iff_ne, ne_eq, gt_iff_lt, ge_iff_le, Int.not_lt, Int.not_le, bne_eq_false_iff_eq, Bool.not_eq_true', Bool.not_eq_false', Bool.and_eq_true, Bool.and_eq_false_iff, Bool.or_eq_true, Bool.or_eq_false_iff, Decidable.not_not, List.cons.injEq, and_true] at p115
              refine Run.skip ?_
              refine Run.blockEnd ?_
              refine Run.region ?_
              refine Run.q (v := .int .i64 (((i : Nat) : Int))) rfl (OpQ.y (OpY.pure rfl)) ?_
              refine Run.q (v := .int .i64 ((((i : Nat) : Int)) + 1)) rfl (OpQ.y (OpY.add rfl rfl rfl (by omega) (by omega))) ?_
              refine Run.q (v := .int .i64 ((((i : Nat) : Int)) + 1)) rfl (OpQ.y (OpY.pure rfl)) ?_
              refine Run.done ?_
              refine Run.goal ⟨(by repeat (first | exact Same.refl _ _ | refine Same.put rfl ?_ | refine Same.over rfl rfl ?_)), i + 1, ?_, ?_, ?_, ?_⟩
              · omega
              · omega
              · exact ⟨(by show Value.int _ _ = Value.int _ _; rw [mxA_step]; congr 1; omega), (by first | rfl | (congr 1; omega) | simp), trivial⟩
              · exact (Some'.weak (.skip (.takeEq (by first | rfl | simp) (.takeEq (by first | rfl | simp) (.take (.takeEq (by first | rfl | simp) (.takeEq (by first | rfl | simp) (.takeEq (by first | rfl | simp) (.take (.takeEq (by first | rfl | simp) (.nil _)))))))))))
          · have p100 := h100; try simp only [decide_eq_true_eq, decide_eq_false_iff_not, beq_iff_eq, bne_iff_ne, beq_eq_false_iff_ne, ne_eq, gt_iff_lt, ge_iff_le, Int.not_lt, Int.not_le, bne_eq_false_iff_eq, Bool.not_eq_true', Bool.not_eq_false', Bool.and_eq_true, Bool.and_eq_false_iff, Bool.or_eq_true, Bool.or_eq_false_iff, Decidable.not_not, List.cons.injEq, and_true] at p100
            have hiN : i = N2.toNat := by omega
            have hdv : diV N2 es2 m2 (distL es2 m2 N2.toNat) = mxA (distL es2 m2 N2.toNat) N2.toNat i := by rw [diV, if_pos hdi, hiN]
            refine Run.exit rfl ?_
            refine Run.seq ?_
            refine Run.region ?_
            refine Run.q (v := .bool true) rfl (OpQ.y (OpY.pure rfl)) ?_
            refine Run.q (v := .bool false) rfl (OpQ.y (OpY.pure rfl)) ?_
            refine Run.q (v := .bool false) rfl (OpQ.y (OpY.pure rfl)) ?_
            refine Run.q (v := uc) rfl (OpQ.y (OpY.pure rfl)) ?_
            refine Run.formOwn (.head _) (fun A_uc1 c_uc1 hv hcapc_uc1 hmaxc_uc1 => ?_) (fun _ _ _ => ⟨nofun, nofun, nofun⟩)
            subst hv
            refine Run.q (v := .int .i64 (((ps.length : Nat) : Int))) rfl (OpQ.y (OpY.len Tsl_27 rfl)) ?_
            refine Run.q (v := .bool ((((ps.length : Nat) : Int)) != 1)) rfl (OpQ.y (OpY.pure rfl)) ?_
            refine Run.q (v := .bool ((((ps.length : Nat) : Int)) != 1)) rfl (OpQ.y (OpY.pure rfl)) ?_
            rcases Bool.eq_false_or_eq_true ((((ps.length : Nat) : Int)) != 1) with h124 | h124
            · refine Run.q (v := .bool true) rfl (OpQ.y (OpY.moveB rfl h124)) ?_
              have p124 := h124; try simp only [decide_eq_true_eq, decide_eq_false_iff_not, beq_iff_eq, bne_iff_ne, beq_eq_false_iff_ne, ne_eq, gt_iff_lt, ge_iff_le, Int.not_lt, Int.not_le, bne_eq_false_iff_eq, Bool.not_eq_true', Bool.not_eq_false', Bool.and_eq_true, Bool.and_eq_false_iff, Bool.or_eq_true, Bool.or_eq_false_iff, Decidable.not_not, List.cons.injEq, and_true] at p124
              exact absurd h124 (by rw [hpl]; decide) --DONE
            · refine Run.q (v := .bool false) rfl (OpQ.y (OpY.moveB rfl h124)) ?_
              have p124 := h124; try simp only [decide_eq_true_eq, decide_eq_false_iff_not, beq_iff_eq, bne_iff_ne, beq_eq_false_iff_ne, ne_eq, gt_iff_lt, ge_iff_le, Int.not_lt, Int.not_le, bne_eq_false_iff_eq, Bool.not_eq_true', Bool.not_eq_false', Bool.and_eq_true, Bool.and_eq_false_iff, Bool.or_eq_true, Bool.or_eq_false_iff, Decidable.not_not, List.cons.injEq, and_true] at p124
              refine Run.q (v := .int .i64 (mxA (distL es2 m2 N2.toNat) N2.toNat i)) rfl (OpQ.y (OpY.pure rfl)) ?_
              refine Run.q (v := .int .i64 (diV N2 es2 m2 (distL es2 m2 N2.toNat))) rfl (OpQ.y (OpY.pure rfl)) ?_
              refine Run.q (v := .bool ((mxA (distL es2 m2 N2.toNat) N2.toNat i) != (diV N2 es2 m2 (distL es2 m2 N2.toNat)))) rfl (OpQ.y (OpY.pure rfl)) ?_
              refine Run.q (v := .bool ((mxA (distL es2 m2 N2.toNat) N2.toNat i) != (diV N2 es2 m2 (distL es2 m2 N2.toNat)))) rfl (OpQ.y (OpY.pure rfl)) ?_
              refine Run.done ?_
              refine Run.cond (b := (mxA (distL es2 m2 N2.toNat) N2.toNat i) != (diV N2 es2 m2 (distL es2 m2 N2.toNat))) rfl (fun h128 => ?_) (fun h128 => ?_)
              · exact absurd h128 (by rw [hdv]; simp) --DONE
              · have p128 := h128; try simp only [decide_eq_true_eq, decide_eq_false_iff_not, beq_iff_eq, bne_iff_ne, beq_eq_false_iff_ne, ne_eq, gt_iff_lt, ge_iff_le, Int.not_lt, Int.not_le, bne_eq_false_iff_eq, Bool.not_eq_true', Bool.not_eq_false', Bool.and_eq_true, Bool.and_eq_false_iff, Bool.or_eq_true, Bool.or_eq_false_iff, Decidable.not_not, List.cons.injEq, and_true] at p128
                refine Run.skip ?_
                refine Run.goal ⟨(by repeat (first | exact Same.refl _ _ | refine Same.put rfl ?_ | refine Same.over rfl rfl ?_)), 0, ?_, ?_, ?_⟩
                · trivial
                · exact trivial
                · exact (Some'.weak (.skip (.skip (.take (.takeEq (by first | rfl | simp) (.takeEq (by first | rfl | simp) (.takeEq (by first | rfl | simp) (.take (.takeEq (by first | rfl | simp) (.nil _))))))))))
      · have p91 := h91; try simp only [decide_eq_true_eq, decide_eq_false_iff_not, beq_iff_eq, bne_iff_ne, beq_eq_false_iff_ne, ne_eq, gt_iff_lt, ge_iff_le, Int.not_lt, Int.not_le, bne_eq_false_iff_eq, Bool.not_eq_true', Bool.not_eq_false', Bool.and_eq_true, Bool.and_eq_false_iff, Bool.or_eq_true, Bool.or_eq_false_iff, Decidable.not_not, List.cons.injEq, and_true] at p91
        refine Run.skip ?_
        refine Run.goal ⟨(by repeat (first | exact Same.refl _ _ | refine Same.put rfl ?_ | refine Same.over rfl rfl ?_)), 0, ?_, ?_, ?_⟩
        · trivial
        · exact trivial
        · exact (Some'.weak (.take (.takeEq (by first | rfl | simp) (.takeEq (by first | rfl | simp) (.takeEq (by first | rfl | simp) (.take (.takeEq (by first | rfl | simp) (.nil _))))))))
    · rintro t9 fr hcut
      show Run _ _ (over _ _ [] fr) [.blk b2 25 [.int .i64 N2, .slice A_u21 m2 c_u21], .own (.slice A_u21 m2 c_u21) 64 2 m2 (ints es2), .own uw 3 1 ((spR N es m a b).length) (ints (spR N es m a b)), .own up 3 1 ((spR N es m a b).length) (ints (spR N es m a b)), .blk b1 25 [.int .i64 N, .slice A_u1 m c_u1], .own (.slice A_u1 m c_u1) 64 2 m (ints es)]
      refine Run.seq ?_
      refine Run.seq ?_
      refine Run.region ?_
      refine Run.q (v := .bool (spB N es m a b)) rfl (OpQ.y (OpY.pure rfl)) ?_
      refine Run.q (v := .bool (!(spB N es m a b))) rfl (OpQ.y (OpY.pure rfl)) ?_
      refine Run.done ?_
      refine Run.cond (b := !(spB N es m a b)) rfl (fun h130 => ?_) (fun h130 => ?_)
      · have p130 := h130; try simp only [decide_eq_true_eq, decide_eq_false_iff_not, beq_iff_eq, bne_iff_ne, beq_eq_false_iff_ne, ne_eq, gt_iff_lt, ge_iff_le, Int.not_lt, Int.not_le, bne_eq_false_iff_eq, Bool.not_eq_true', Bool.not_eq_false', Bool.and_eq_true, Bool.and_eq_false_iff, Bool.or_eq_true, Bool.or_eq_false_iff, Decidable.not_not, List.cons.injEq, and_true] at p130
        refine Run.seq ?_
        refine Run.region ?_
        refine Run.q (v := .bool true) rfl (OpQ.y (OpY.pure rfl)) ?_
        refine Run.done ?_
        refine Run.ret ?_
        refine ⟨.bool true, [], Out.one rfl rfl, (Some'.weak (.nil _)), ?_⟩
        rfl
      · have p130 := h130; try simp only [decide_eq_true_eq, decide_eq_false_iff_not, beq_iff_eq, bne_iff_ne, beq_eq_false_iff_ne, ne_eq, gt_iff_lt, ge_iff_le, Int.not_lt, Int.not_le, bne_eq_false_iff_eq, Bool.not_eq_true', Bool.not_eq_false', Bool.and_eq_true, Bool.and_eq_false_iff, Bool.or_eq_true, Bool.or_eq_false_iff, Decidable.not_not, List.cons.injEq, and_true] at p130
        have hok : spB N es m a b = true := by simpa using h130
        have hcg := (spB_iff hok).1
        have hcN := cgOk_N hcg
        have hab := And.intro (spB_iff hok).2.1 (spB_iff hok).2.2.1
        have hsl := spR_len hok
        have hsym := dist_symm (xs := es) (n := m) (N := N.toNat) (a := a.toNat) (b := b.toNat) (by omega) (by omega)
        have hd0 := (spB_iff hok).2.2.2
        refine Run.skip ?_
        refine Run.seq ?_
        refine Run.region ?_
        refine Run.q (v := .agg #[.int .i64 N, .slice A_u1 m c_u1]) rfl (OpQ.y (OpY.loadN (cs := [.int .i64 N, .slice A_u1 m c_u1]) Tagg_25 rfl (Cells.blk (.tail _ (.tail _ (.tail _ (.tail _ (List.Mem.head _))))) ⟨rfl, rfl, trivial⟩))) ?_
        refine Run.q (v := .int .i64 a) rfl (OpQ.y (OpY.pure rfl)) ?_
        refine Run.step rfl (OpStep.call (vs := [.agg #[.int .i64 N, .slice A_u1 m c_u1], .int .i64 a]) (caps := []) Tcall_15 rfl rfl (fun w hs => (by have h := DistancesFrom_spec (N := N) (node := a) (hs.slOwn (.tail _ (.tail _ (.tail _ (.tail _ (.tail _ (List.Mem.head _))))))); rw [nbOk_of hcg hab.1, distR_of hcg hab.1] at h; exact h)) ?_)
        rintro _ _ ⟨ua, hlua, rfl, rfl⟩
        show Run _ _ (putF _ _ _ (.tuple #[ua, .bool true])) [.own ua 3 1 ((distL es m N.toNat a.toNat).length) (ints (distL es m N.toNat a.toNat)), .blk b2 25 [.int .i64 N2, .slice A_u21 m2 c_u21], .own (.slice A_u21 m2 c_u21) 64 2 m2 (ints es2), .own uw 3 1 ((spR N es m a b).length) (ints (spR N es m a b)), .own up 3 1 ((spR N es m a b).length) (ints (spR N es m a b)), .blk b1 25 [.int .i64 N, .slice A_u1 m c_u1], .own (.slice A_u1 m c_u1) 64 2 m (ints es)]
        have hlenua : (distL es m N.toNat a.toNat).length = N.toNat := distL_len (by omega)
        refine Run.q (v := .tuple #[ua, .bool true]) rfl (OpQ.y (OpY.pure rfl)) ?_
        refine Run.q (v := ua) rfl (OpQ.y (OpY.pure rfl)) ?_
        refine Run.q (v := .bool true) rfl (OpQ.y (OpY.pure rfl)) ?_
        refine Run.q (v := ua) rfl (OpQ.y (OpY.pure rfl)) ?_
        refine Run.q (v := .bool true) rfl (OpQ.y (OpY.pure rfl)) ?_
        refine Run.done ?_
        refine Run.seq ?_
        refine Run.region ?_
        refine Run.q (v := .agg #[.int .i64 N, .slice A_u1 m c_u1]) rfl (OpQ.y (OpY.loadN (cs := [.int .i64 N, .slice A_u1 m c_u1]) Tagg_25 rfl (Cells.blk (.tail _ (.tail _ (.tail _ (.tail _ (.tail _ (List.Mem.head _)))))) ⟨rfl, rfl, trivial⟩))) ?_
        refine Run.q (v := .int .i64 b) rfl (OpQ.y (OpY.pure rfl)) ?_
        refine Run.step rfl (OpStep.call (vs := [.agg #[.int .i64 N, .slice A_u1 m c_u1], .int .i64 b]) (caps := []) Tcall_15 rfl rfl (fun w hs => (by have h := DistancesFrom_spec (N := N) (node := b) (hs.slOwn (.tail _ (.tail _ (.tail _ (.tail _ (.tail _ (.tail _ (List.Mem.head _)))))))); rw [nbOk_of hcg hab.2, distR_of hcg hab.2] at h; exact h)) ?_)
        rintro _ _ ⟨ub, hlub, rfl, rfl⟩
        show Run _ _ (putF _ _ _ (.tuple #[ub, .bool true])) [.own ub 3 1 ((distL es m N.toNat b.toNat).length) (ints (distL es m N.toNat b.toNat)), .own ua 3 1 ((distL es m N.toNat a.toNat).length) (ints (distL es m N.toNat a.toNat)), .blk b2 25 [.int .i64 N2, .slice A_u21 m2 c_u21], .own (.slice A_u21 m2 c_u21) 64 2 m2 (ints es2), .own uw 3 1 ((spR N es m a b).length) (ints (spR N es m a b)), .own up 3 1 ((spR N es m a b).length) (ints (spR N es m a b)), .blk b1 25 [.int .i64 N, .slice A_u1 m c_u1], .own (.slice A_u1 m c_u1) 64 2 m (ints es)]
        have hlenub : (distL es m N.toNat b.toNat).length = N.toNat := distL_len (by omega)
        refine Run.q (v := .tuple #[ub, .bool true]) rfl (OpQ.y (OpY.pure rfl)) ?_
        refine Run.q (v := ub) rfl (OpQ.y (OpY.pure rfl)) ?_
        refine Run.q (v := .bool true) rfl (OpQ.y (OpY.pure rfl)) ?_
        refine Run.q (v := ub) rfl (OpQ.y (OpY.pure rfl)) ?_
        refine Run.q (v := .bool true) rfl (OpQ.y (OpY.pure rfl)) ?_
        refine Run.done ?_
        refine Run.seq ?_
        refine Run.seq ?_
        refine Run.openOwn (.tail _ (List.Mem.head _)) (by omega) (fun ga ca hvga hcapga _ => ?_) (fun _ _ _ => ⟨nofun, nofun, nofun⟩)
        subst hvga
        refine Run.openOwn (.head _) (by omega) (fun gb cb hvgb hcapgb _ => ?_) (fun _ _ _ => ⟨nofun, nofun, nofun⟩)
        subst hvgb
        refine Run.openOwn (.tail _ (.tail _ (.tail _ (.tail _ (.tail _ (List.Mem.head _)))))) (by omega) (fun gp cp hvgp hcapgp _ => ?_) (fun _ _ _ => ⟨nofun, nofun, nofun⟩)
        subst hvgp
        refine Run.draws (by kernel_rfl) (by kernel_rfl) ?_
        refine Lex.q (v := .bool true) rfl (OpQ.y (OpY.pure rfl)) ?_
        refine Lex.q (v := .bool false) rfl (OpQ.y (OpY.pure rfl)) ?_
        refine Lex.q (v := .bool false) rfl (OpQ.y (OpY.pure rfl)) ?_
        refine Lex.q (v := .bool true) rfl (OpQ.y (OpY.pure rfl)) ?_
        refine Lex.q (v := .bool false) rfl (OpQ.y (OpY.pure rfl)) ?_
        refine Lex.q (v := .bool false) rfl (OpQ.y (OpY.pure rfl)) ?_
        refine Lex.q (v := .bool false) rfl (OpQ.y (OpY.pure rfl)) ?_
        refine Lex.q (v := .slice (some ⟨ga, 0, none⟩) ((distL es m N.toNat a.toNat).length) ca) rfl (OpQ.y (OpY.pure rfl)) ?_
        refine Lex.q (v := .int .i64 ((((distL es m N.toNat a.toNat).length : Nat) : Int))) rfl (OpQ.y (OpY.len Tsl_34 rfl)) ?_
        refine Lex.q (v := .pointer (some ⟨b1, 0, none⟩)) rfl (OpQ.y (OpY.fieldAddr Tfo_25_0 rfl rfl)) ?_
        refine Lex.q (v := .int .i64 N) rfl (OpQ.y (OpY.load1 Tone_3 rfl (Cells.blk (.tail _ (.tail _ (.tail _ (.tail _ (.tail _ (.tail _ (List.Mem.head _))))))) ⟨rfl, trivial⟩))) ?_
        refine Lex.q (v := .bool (((((distL es m N.toNat a.toNat).length : Nat) : Int)) != N)) rfl (OpQ.y (OpY.pure rfl)) ?_
        refine Lex.q (v := .bool (((((distL es m N.toNat a.toNat).length : Nat) : Int)) != N)) rfl (OpQ.y (OpY.pure rfl)) ?_
        rcases Bool.eq_false_or_eq_true (((((distL es m N.toNat a.toNat).length : Nat) : Int)) != N) with h156 | h156
        · refine Lex.q (v := .bool true) rfl (OpQ.y (OpY.moveB rfl h156)) ?_
          have p156 := h156; try simp only [decide_eq_true_eq, decide_eq_false_iff_not, beq_iff_eq, bne_iff_ne, beq_eq_false_iff_ne, ne_eq, gt_iff_lt, ge_iff_le, Int.not_lt, Int.not_le, bne_eq_false_iff_eq, Bool.not_eq_true', Bool.not_eq_false', Bool.and_eq_true, Bool.and_eq_false_iff, Bool.or_eq_true, Bool.or_eq_false_iff, Decidable.not_not, List.cons.injEq, and_true] at p156
          exact absurd h156 (by simp <;> omega) --DONE
        · refine Lex.q (v := .bool false) rfl (OpQ.y (OpY.moveB rfl h156)) ?_
          have p156 := h156; try simp only [decide_eq_true_eq, decide_eq_false_iff_not, beq_iff_eq, bne_iff_ne, beq_eq_false_iff_ne, ne_eq, gt_iff_lt, ge_iff_le, Int.not_lt, Int.not_le, bne_eq_false_iff_eq, Bool.not_eq_true', Bool.not_eq_false', Bool.and_eq_true, Bool.and_eq_false_iff, Bool.or_eq_true, Bool.or_eq_false_iff, Decidable.not_not, List.cons.injEq, and_true] at p156
          refine Lex.q (v := .slice (some ⟨gb, 0, none⟩) ((distL es m N.toNat b.toNat).length) cb) rfl (OpQ.y (OpY.pure rfl)) ?_
          refine Lex.q (v := .int .i64 ((((distL es m N.toNat b.toNat).length : Nat) : Int))) rfl (OpQ.y (OpY.len Tsl_34 rfl)) ?_
          refine Lex.q (v := .pointer (some ⟨b1, 0, none⟩)) rfl (OpQ.y (OpY.fieldAddr Tfo_25_0 rfl rfl)) ?_
          refine Lex.q (v := .int .i64 N) rfl (OpQ.y (OpY.load1 Tone_3 rfl (Cells.blk (.tail _ (.tail _ (.tail _ (.tail _ (.tail _ (.tail _ (List.Mem.head _))))))) ⟨rfl, trivial⟩))) ?_
          refine Lex.q (v := .bool (((((distL es m N.toNat b.toNat).length : Nat) : Int)) != N)) rfl (OpQ.y (OpY.pure rfl)) ?_
          refine Lex.q (v := .bool (((((distL es m N.toNat b.toNat).length : Nat) : Int)) != N)) rfl (OpQ.y (OpY.pure rfl)) ?_
          rcases Bool.eq_false_or_eq_true (((((distL es m N.toNat b.toNat).length : Nat) : Int)) != N) with h163 | h163
          · refine Lex.q (v := .bool true) rfl (OpQ.y (OpY.moveB rfl h163)) ?_
            have p163 := h163; try simp only [decide_eq_true_eq, decide_eq_false_iff_not, beq_iff_eq, bne_iff_ne, beq_eq_false_iff_ne, ne_eq, gt_iff_lt, ge_iff_le, Int.not_lt, Int.not_le, bne_eq_false_iff_eq, Bool.not_eq_true', Bool.not_eq_false', Bool.and_eq_true, Bool.and_eq_false_iff, Bool.or_eq_true, Bool.or_eq_false_iff, Decidable.not_not, List.cons.injEq, and_true] at p163
            exact absurd h163 (by simp <;> omega) --DONE
          · refine Lex.q (v := .bool false) rfl (OpQ.y (OpY.moveB rfl h163)) ?_
            have p163 := h163; try simp only [decide_eq_true_eq, decide_eq_false_iff_not, beq_iff_eq, bne_iff_ne, beq_eq_false_iff_ne, ne_eq, gt_iff_lt, ge_iff_le, Int.not_lt, Int.not_le, bne_eq_false_iff_eq, Bool.not_eq_true', Bool.not_eq_false', Bool.and_eq_true, Bool.and_eq_false_iff, Bool.or_eq_true, Bool.or_eq_false_iff, Decidable.not_not, List.cons.injEq, and_true] at p163
            refine Lex.q (v := .slice (some ⟨ga, 0, none⟩) ((distL es m N.toNat a.toNat).length) ca) rfl (OpQ.y (OpY.pure rfl)) ?_
            refine Lex.q (v := .int .i64 b) rfl (OpQ.y (OpY.pure rfl)) ?_
            refine Lex.q (v := .pointer (some ⟨ga, b.toNat, none⟩)) rfl (OpQ.y (OpY.index (kk := b.toNat) Tsl_34 rfl rfl (by omega) (by omega) (by first | rfl | omega))) ?_
            refine Lex.q (v := .int .i64 (ix (distL es m N.toNat a.toNat) (b.toNat))) rfl (OpQ.y (OpY.load1 Tone_3 rfl (Cells.own0 (.tail _ (List.Mem.head _)) (pre1 (by omega))))) ?_
            refine Lex.q (v := .slice (some ⟨gb, 0, none⟩) ((distL es m N.toNat b.toNat).length) cb) rfl (OpQ.y (OpY.pure rfl)) ?_
            refine Lex.q (v := .int .i64 a) rfl (OpQ.y (OpY.pure rfl)) ?_
            refine Lex.q (v := .pointer (some ⟨gb, a.toNat, none⟩)) rfl (OpQ.y (OpY.index (kk := a.toNat) Tsl_34 rfl rfl (by omega) (by omega) (by first | rfl | omega))) ?_
            refine Lex.q (v := .int .i64 (ix (distL es m N.toNat b.toNat) (a.toNat))) rfl (OpQ.y (OpY.load1 Tone_3 rfl (Cells.own0 (.head _) (pre1 (by omega))))) ?_
            refine Lex.q (v := .bool ((ix (distL es m N.toNat a.toNat) (b.toNat)) != (ix (distL es m N.toNat b.toNat) (a.toNat)))) rfl (OpQ.y (OpY.pure rfl)) ?_
            refine Lex.q (v := .bool ((ix (distL es m N.toNat a.toNat) (b.toNat)) != (ix (distL es m N.toNat b.toNat) (a.toNat)))) rfl (OpQ.y (OpY.pure rfl)) ?_
            rcases Bool.eq_false_or_eq_true ((ix (distL es m N.toNat a.toNat) (b.toNat)) != (ix (distL es m N.toNat b.toNat) (a.toNat))) with h174 | h174
            · refine Lex.q (v := .bool true) rfl (OpQ.y (OpY.moveB rfl h174)) ?_
              have p174 := h174; try simp only [decide_eq_true_eq, decide_eq_false_iff_not, beq_iff_eq, bne_iff_ne, beq_eq_false_iff_ne, ne_eq, gt_iff_lt, ge_iff_le, Int.not_lt, Int.not_le, bne_eq_false_iff_eq, Bool.not_eq_true', Bool.not_eq_false', Bool.and_eq_true, Bool.and_eq_false_iff, Bool.or_eq_true, Bool.or_eq_false_iff, Decidable.not_not, List.cons.injEq, and_true] at p174
              exact absurd h174 (by simp <;> omega) --DONE
            · refine Lex.q (v := .bool false) rfl (OpQ.y (OpY.moveB rfl h174)) ?_
              have p174 := h174; try simp only [decide_eq_true_eq, decide_eq_false_iff_not, beq_iff_eq, bne_iff_ne, beq_eq_false_iff_ne, ne_eq, gt_iff_lt, ge_iff_le, Int.not_lt, Int.not_le, bne_eq_false_iff_eq, Bool.not_eq_true', Bool.not_eq_false', Bool.and_eq_true, Bool.and_eq_false_iff, Bool.or_eq_true, Bool.or_eq_false_iff, Decidable.not_not, List.cons.injEq, and_true] at p174
              refine Lex.q (v := .slice (some ⟨gp, 0, none⟩) ((spR N es m a b).length) cp) rfl (OpQ.y (OpY.pure rfl)) ?_
              refine Lex.q (v := .int .i64 ((((spR N es m a b).length : Nat) : Int))) rfl (OpQ.y (OpY.len Tsl_34 rfl)) ?_
              refine Lex.q (v := .slice (some ⟨ga, 0, none⟩) ((distL es m N.toNat a.toNat).length) ca) rfl (OpQ.y (OpY.pure rfl)) ?_
              refine Lex.q (v := .int .i64 b) rfl (OpQ.y (OpY.pure rfl)) ?_
              refine Lex.q (v := .pointer (some ⟨ga, b.toNat, none⟩)) rfl (OpQ.y (OpY.index (kk := b.toNat) Tsl_34 rfl rfl (by omega) (by omega) (by first | rfl | omega))) ?_
              refine Lex.q (v := .int .i64 (ix (distL es m N.toNat a.toNat) (b.toNat))) rfl (OpQ.y (OpY.load1 Tone_3 rfl (Cells.own0 (.tail _ (List.Mem.head _)) (pre1 (by omega))))) ?_
              refine Lex.q (v := .int .i64 ((ix (distL es m N.toNat a.toNat) (b.toNat)) + 1)) rfl (OpQ.y (OpY.add rfl rfl rfl (by omega) (by omega))) ?_
              refine Lex.q (v := .bool (((((spR N es m a b).length : Nat) : Int)) != ((ix (distL es m N.toNat a.toNat) (b.toNat)) + 1))) rfl (OpQ.y (OpY.pure rfl)) ?_
              refine Lex.q (v := .bool (((((spR N es m a b).length : Nat) : Int)) != ((ix (distL es m N.toNat a.toNat) (b.toNat)) + 1))) rfl (OpQ.y (OpY.pure rfl)) ?_
              refine Lex.done ?_
              refine Run.cond (b := ((((spR N es m a b).length : Nat) : Int)) != ((ix (distL es m N.toNat a.toNat) (b.toNat)) + 1)) rfl (fun h183 => ?_) (fun h183 => ?_)
              · exact absurd h183 (by simp <;> omega) --DONE
              · have p183 := h183; try simp only [decide_eq_true_eq, decide_eq_false_iff_not, beq_iff_eq, bne_iff_ne, beq_eq_false_iff_ne, ne_eq, gt_iff_lt, ge_iff_le, Int.not_lt, Int.not_le, bne_eq_false_iff_eq, Bool.not_eq_true', Bool.not_eq_false', Bool.and_eq_true, Bool.and_eq_false_iff, Bool.or_eq_true, Bool.or_eq_false_iff, Decidable.not_not, List.cons.injEq, and_true] at p183
                refine Run.skip ?_
                refine Run.seq ?_
                refine Run.seq ?_
                refine Run.region ?_
                refine Run.q (v := .int .i64 1) rfl (OpQ.y (OpY.pure rfl)) ?_
                refine Run.done ?_
                refine Run.block ?_
                refine Run.loop (ι := Nat) [4, 28, 29, 30, 31, 33, 184, 185, 186, 187, 188, 189, 190, 191, 192, 193, 194, 195, 196, 197, 198, 199, 200, 201, 202, 203, 204, 205, 206, 207, 208, 209, 210, 211, 212, 213, 214, 215, 216, 217, 218, 219, 220, 221] (fun i => [(28, .int .i64 (((i : Nat) : Int)))]) (fun i => [.own (.slice (some ⟨gb, 0, none⟩) ((distL es m N.toNat b.toNat).length) cb) 3 1 ((distL es m N.toNat b.toNat).length) (ints (distL es m N.toNat b.toNat)), .own (.slice (some ⟨ga, 0, none⟩) ((distL es m N.toNat a.toNat).length) ca) 3 1 ((distL es m N.toNat a.toNat).length) (ints (distL es m N.toNat a.toNat)), .blk b2 25 [.int .i64 N2, .slice A_u21 m2 c_u21], .own (.slice A_u21 m2 c_u21) 64 2 m2 (ints es2), .own uw 3 1 ((spR N es m a b).length) (ints (spR N es m a b)), .own (.slice (some ⟨gp, 0, none⟩) ((spR N es m a b).length) cp) 3 1 ((spR N es m a b).length) (ints (spR N es m a b)), .blk b1 25 [.int .i64 N, .slice A_u1 m c_u1], .own (.slice A_u1 m c_u1) 64 2 m (ints es)]) (fun i => 1 ≤ i ∧ i ≤ (spR N es m a b).length) (fun i => (spR N es m a b).length - i) 1 ?_ ?_ ?_ ?_
                · exact ⟨by omega, by have := (spB_iff hok).2.2.2; omega⟩
                · exact ⟨rfl, trivial⟩
                · exact (Some'.weak (.take (.take (.take (.take (.take (.take (.take (.take (.nil _))))))))))
                · rintro i fr hinv
                  show Run _ _ (over _ _ [(28, .int .i64 (((i : Nat) : Int)))] fr) [.own (.slice (some ⟨gb, 0, none⟩) ((distL es m N.toNat b.toNat).length) cb) 3 1 ((distL es m N.toNat b.toNat).length) (ints (distL es m N.toNat b.toNat)), .own (.slice (some ⟨ga, 0, none⟩) ((distL es m N.toNat a.toNat).length) ca) 3 1 ((distL es m N.toNat a.toNat).length) (ints (distL es m N.toNat a.toNat)), .blk b2 25 [.int .i64 N2, .slice A_u21 m2 c_u21], .own (.slice A_u21 m2 c_u21) 64 2 m2 (ints es2), .own uw 3 1 ((spR N es m a b).length) (ints (spR N es m a b)), .own (.slice (some ⟨gp, 0, none⟩) ((spR N es m a b).length) cp) 3 1 ((spR N es m a b).length) (ints (spR N es m a b)), .blk b1 25 [.int .i64 N, .slice A_u1 m c_u1], .own (.slice A_u1 m c_u1) 64 2 m (ints es)]
                  try dsimp only at hinv
                  have hinv2 := hinv
                  refine Run.seq ?_
                  refine Run.seq ?_
                  refine Run.region ?_
                  refine Run.q (v := .int .i64 (((i : Nat) : Int))) rfl (OpQ.y (OpY.pure rfl)) ?_
                  refine Run.q (v := .slice (some ⟨gp, 0, none⟩) ((spR N es m a b).length) cp) rfl (OpQ.y (OpY.pure rfl)) ?_
                  refine Run.q (v := .int .i64 ((((spR N es m a b).length : Nat) : Int))) rfl (OpQ.y (OpY.len Tsl_34 rfl)) ?_
                  refine Run.q (v := .bool (decide ((((i : Nat) : Int)) < ((((spR N es m a b).length : Nat) : Int))))) rfl (OpQ.y (OpY.pure rfl)) ?_
                  refine Run.done ?_
                  refine Run.cond (b := decide ((((i : Nat) : Int)) < ((((spR N es m a b).length : Nat) : Int)))) rfl (fun h187 => ?_) (fun h187 => ?_)
                  · have p187 := h187; try simp only [decide_eq_true_eq, decide_eq_false_iff_not, beq_iff_eq, bne_iff_ne, beq_eq_false_iff_ne, ne_eq, gt_iff_lt, ge_iff_le, Int.not_lt, Int.not_le, bne_eq_false_iff_eq, Bool.not_eq_true', Bool.not_eq_false', Bool.and_eq_true, Bool.and_eq_false_iff, Bool.or_eq_true, Bool.or_eq_false_iff, Decidable.not_not, List.cons.injEq, and_true] at p187
                    have hed := spR_edges hok (i := i - 1) (by omega)
                    rw [show i - 1 + 1 = i from by omega] at hed
                    have hnl : (nbL N es m (ix (spR N es m a b) (i - 1))).length ≤ 8 := by have := filterL_le (fun k => adj es m (ix (spR N es m a b) (i - 1)) k) N.toNat; simp only [nbL]; omega
                    refine Run.skip ?_
                    refine Run.seq ?_
                    refine Run.block ?_
                    refine Run.seq ?_
                    refine Run.held (by kernel_rfl) ?_
                    refine DW.take (i := 0) (v := .agg #[.int .i64 N, .slice A_u1 m c_u1]) rfl (by kernel_rfl) (by kernel_rfl) (by kernel_rfl) (fun _ _ _ h => h) (Weak.refl _) rfl (OpY.loadN (cs := [.int .i64 N, .slice A_u1 m c_u1]) Tagg_25 rfl (Cells.blk (.tail _ (.tail _ (.tail _ (.tail _ (.tail _ (.tail _ (List.Mem.head _))))))) ⟨rfl, rfl, trivial⟩)) ?_
                    refine DW.take (i := 1) (v := .slice (some ⟨gp, 0, none⟩) ((spR N es m a b).length) cp) rfl (by kernel_rfl) (by kernel_rfl) (by kernel_rfl) (fun _ _ _ h => h) (Weak.refl _) rfl (OpY.pure rfl) ?_
                    refine DW.take (i := 2) (v := .int .i64 (((i : Nat) : Int))) rfl (by kernel_rfl) (by kernel_rfl) (by kernel_rfl) (fun _ _ _ h => h) (Weak.refl _) rfl (OpY.pure rfl) ?_
                    refine DW.take (i := 3) (v := .int .i64 ((((i : Nat) : Int)) - 1)) rfl (by kernel_rfl) (by kernel_rfl) (by kernel_rfl) (fun _ _ _ h => h) (Weak.refl _) rfl (OpY.sub rfl rfl rfl (by omega) (by omega)) ?_
                    refine DW.take (i := 4) (v := .pointer (some ⟨gp, i - 1, none⟩)) rfl (by kernel_rfl) (by kernel_rfl) (by kernel_rfl) (fun _ _ _ h => h) (Weak.refl _) rfl (OpY.index (kk := i - 1) Tsl_34 rfl rfl (by omega) (by omega) (by first | rfl | omega)) ?_
                    refine DW.take (i := 5) (v := .int .i64 (ix (spR N es m a b) (i - 1))) rfl (by kernel_rfl) (by kernel_rfl) (by kernel_rfl) (fun _ _ _ h => h) (Weak.refl _) rfl (OpY.load1 Tone_3 rfl (Cells.own0 (.tail _ (.tail _ (.tail _ (.tail _ (.tail _ (List.Mem.head _)))))) (pre1 (by omega)))) ?_
                    refine DW.step (i := 6) (by kernel_rfl) rfl rfl (OpStep.call (vs := [.agg #[.int .i64 N, .slice A_u1 m c_u1], .int .i64 (ix (spR N es m a b) (i - 1))]) (caps := []) Tcall_23 rfl rfl (fun w hs => (by have h := NeighborsOf_spec (N := N) (node := ix (spR N es m a b) (i - 1)) (hs.slOwn (.tail _ (.tail _ (.tail _ (.tail _ (.tail _ (.tail _ (.tail _ (List.Mem.head _))))))))); rw [nbOk_of hcg hed.1, nbR_of hcg hed.1] at h; exact h)) ?_)
                    rintro _ _ ⟨un, rfl, rfl⟩
                    refine ⟨(Some'.weak (.skip (.take (.take (.take (.take (.take (.take (.take (.take (.nil _))))))))))), ?_⟩
                    refine DW.take (i := 7) (v := .tuple #[un, .bool true]) rfl (by kernel_rfl) (by kernel_rfl) (by kernel_rfl) (fun _ _ _ h => h) (Some'.weak (.skip (.take (.take (.take (.take (.take (.take (.take (.take (.nil _))))))))))) rfl (OpY.pure rfl) ?_
                    refine DW.take (i := 8) (v := un) rfl (by kernel_rfl) (by kernel_rfl) (by kernel_rfl) (fun _ _ _ h => h) (Some'.weak (.skip (.take (.take (.take (.take (.take (.take (.take (.take (.nil _))))))))))) rfl (OpY.pure rfl) ?_
                    refine DW.take (i := 9) (v := .bool true) rfl (by kernel_rfl) (by kernel_rfl) (by kernel_rfl) (fun _ _ _ h => h) (Some'.weak (.skip (.take (.take (.take (.take (.take (.take (.take (.take (.nil _))))))))))) rfl (OpY.pure rfl) ?_
                    refine DW.take (i := 10) (v := un) rfl (by kernel_rfl) (by kernel_rfl) (by kernel_rfl) (fun _ _ _ h => h) (Some'.weak (.skip (.take (.take (.take (.take (.take (.take (.take (.take (.nil _))))))))))) rfl (OpY.pure rfl) ?_
                    refine DW.take (i := 11) (v := .bool true) rfl (by kernel_rfl) (by kernel_rfl) (by kernel_rfl) (fun _ _ _ h => h) (Some'.weak (.skip (.take (.take (.take (.take (.take (.take (.take (.take (.nil _))))))))))) rfl (OpY.pure rfl) ?_
                    refine DW.done (by kernel_rfl) ?_
                    refine Run.seq ?_
                    refine Run.region ?_
                    refine Run.q (v := .bool false) rfl (OpQ.y (OpY.pure rfl)) ?_
                    refine Run.done ?_
                    refine Run.seq ?_
                    refine Run.seq ?_
                    refine Run.region ?_
                    refine Run.q (v := un) rfl (OpQ.y (OpY.pure rfl)) ?_
                    refine Run.formOwn (.head _) (fun A_un1 c_un1 hv hcapc_un1 hmaxc_un1 => ?_) (fun _ _ _ => ⟨nofun, nofun, nofun⟩)
                    subst hv
                    refine Run.q (v := .int .i64 ((((nbL N es m (ix (spR N es m a b) (i - 1))).length : Nat) : Int))) rfl (OpQ.y (OpY.len Tsl_34 rfl)) ?_
                    refine Run.q (v := .int .i64 0) rfl (OpQ.y (OpY.pure rfl)) ?_
                    refine Run.done ?_
                    refine Run.block ?_
                    refine Run.loop (ι := Nat) [31, 33, 202, 203, 204, 205, 206, 207, 208, 209, 210, 211, 212, 213, 214, 215] (fun q => [(31, .bool (anyI (fun q => decide (ix (nbL N es m (ix (spR N es m a b) (i - 1))) q = ix (spR N es m a b) i)) q)), (202, .int .i64 (((q : Nat) : Int)))]) (fun q => [.own (.slice A_un1 ((nbL N es m (ix (spR N es m a b) (i - 1))).length) c_un1) 3 1 ((nbL N es m (ix (spR N es m a b) (i - 1))).length) (ints (nbL N es m (ix (spR N es m a b) (i - 1)))), .own (.slice (some ⟨gb, 0, none⟩) ((distL es m N.toNat b.toNat).length) cb) 3 1 ((distL es m N.toNat b.toNat).length) (ints (distL es m N.toNat b.toNat)), .own (.slice (some ⟨ga, 0, none⟩) ((distL es m N.toNat a.toNat).length) ca) 3 1 ((distL es m N.toNat a.toNat).length) (ints (distL es m N.toNat a.toNat)), .blk b2 25 [.int .i64 N2, .slice A_u21 m2 c_u21], .own (.slice A_u21 m2 c_u21) 64 2 m2 (ints es2), .own uw 3 1 ((spR N es m a b).length) (ints (spR N es m a b)), .own (.slice (some ⟨gp, 0, none⟩) ((spR N es m a b).length) cp) 3 1 ((spR N es m a b).length) (ints (spR N es m a b)), .blk b1 25 [.int .i64 N, .slice A_u1 m c_u1], .own (.slice A_u1 m c_u1) 64 2 m (ints es)]) (fun q => q ≤ (nbL N es m (ix (spR N es m a b) (i - 1))).length ∧ (True)) (fun q => (nbL N es m (ix (spR N es m a b) (i - 1))).length - q) 0 ?_ ?_ ?_ ?_
                    · exact ⟨Nat.zero_le _, by first | trivial | (intro i hi; omega)⟩
                    · exact ⟨rfl, rfl, trivial⟩
                    · exact (Some'.weak (.take (.take (.take (.take (.take (.take (.take (.take (.take (.nil _)))))))))))
                    · rintro q fr hinv
                      show Run _ _ (over _ _ [(31, .bool (anyI (fun q => decide (ix (nbL N es m (ix (spR N es m a b) (i - 1))) q = ix (spR N es m a b) i)) q)), (202, .int .i64 (((q : Nat) : Int)))] fr) [.own (.slice A_un1 ((nbL N es m (ix (spR N es m a b) (i - 1))).length) c_un1) 3 1 ((nbL N es m (ix (spR N es m a b) (i - 1))).length) (ints (nbL N es m (ix (spR N es m a b) (i - 1)))), .own (.slice (some ⟨gb, 0, none⟩) ((distL es m N.toNat b.toNat).length) cb) 3 1 ((distL es m N.toNat b.toNat).length) (ints (distL es m N.toNat b.toNat)), .own (.slice (some ⟨ga, 0, none⟩) ((distL es m N.toNat a.toNat).length) ca) 3 1 ((distL es m N.toNat a.toNat).length) (ints (distL es m N.toNat a.toNat)), .blk b2 25 [.int .i64 N2, .slice A_u21 m2 c_u21], .own (.slice A_u21 m2 c_u21) 64 2 m2 (ints es2), .own uw 3 1 ((spR N es m a b).length) (ints (spR N es m a b)), .own (.slice (some ⟨gp, 0, none⟩) ((spR N es m a b).length) cp) 3 1 ((spR N es m a b).length) (ints (spR N es m a b)), .blk b1 25 [.int .i64 N, .slice A_u1 m c_u1], .own (.slice A_u1 m c_u1) 64 2 m (ints es)]
                      try dsimp only at hinv
                      refine Run.seq ?_
                      refine Run.region ?_
                      refine Run.q (v := .bool (decide ((((q : Nat) : Int)) < ((((nbL N es m (ix (spR N es m a b) (i - 1))).length : Nat) : Int))))) rfl (OpQ.y (OpY.pure rfl)) ?_
                      refine Run.done ?_
                      refine Run.seq ?_
                      refine Run.cond (b := decide ((((q : Nat) : Int)) < ((((nbL N es m (ix (spR N es m a b) (i - 1))).length : Nat) : Int)))) rfl (fun h203 => ?_) (fun h203 => ?_)
                      · have p203 := h203; try simp only [decide_eq_true_eq, decide_eq_false_iff_not, beq_iff_eq, bne_iff_ne, beq_eq_false_iff_ne, ne_eq, gt_iff_lt, ge_iff_le, Int.not_lt, Int.not_le, bne_eq_false_iff_eq, Bool.not_eq_true', Bool.not_eq_false', Bool.and_eq_true, Bool.and_eq_false_iff, Bool.or_eq_true, Bool.or_eq_false_iff, Decidable.not_not, List.cons.injEq, and_true] at p203
                        have hltq : q < (nbL N es m (ix (spR N es m a b) (i - 1))).length := by omega
                        refine Run.openOwn (.head _) (by omega) (fun g3 cg3 hvg3 hcapg3 _ => ?_) (fun _ _ _ => ⟨nofun, nofun, nofun⟩)
                        injection hvg3 with hAg3 _ hcg3; subst hAg3; subst hcg3
                        refine Run.skip ?_
                        refine Run.seq ?_
                        refine Run.block ?_
                        refine Run.seq ?_
                        refine Run.region ?_
                        refine Run.q (v := .pointer (some ⟨g3, q, none⟩)) rfl (OpQ.y (OpY.index (kk := q) Tsl_34 rfl rfl (by omega) (by omega) (by first | rfl | omega))) ?_
                        refine Run.q (v := .int .i64 (ix (nbL N es m (ix (spR N es m a b) (i - 1))) (q))) rfl (OpQ.y (OpY.load1 Tone_3 rfl (Cells.own0 (.head _) (pre1 (by omega))))) ?_
                        refine Run.q (v := .int .i64 (ix (nbL N es m (ix (spR N es m a b) (i - 1))) (q))) rfl (OpQ.y (OpY.pure rfl)) ?_
                        refine Run.done ?_
                        refine Run.region ?_
                        refine Run.q (v := .bool (anyI (fun q => decide (ix (nbL N es m (ix (spR N es m a b) (i - 1))) q = ix (spR N es m a b) i)) q)) rfl (OpQ.y (OpY.pure rfl)) ?_
                        rcases Bool.eq_false_or_eq_true (anyI (fun q => decide (ix (nbL N es m (ix (spR N es m a b) (i - 1))) q = ix (spR N es m a b) i)) q) with h207 | h207
                        · refine Run.q (v := .bool true) rfl (OpQ.y (OpY.moveB rfl h207)) ?_
                          have p207 := h207; try simp only [decide_eq_true_eq, decide_eq_false_iff_not, beq_iff_eq, bne_iff_ne, beq_eq_false_iff_ne, ne_eq, gt_iff_lt, ge_iff_le, Int.not_lt, Int.not_le, bne_eq_false_iff_eq, Bool.not_eq_true', Bool.not_eq_false', Bool.and_eq_true, Bool.and_eq_false_iff, Bool.or_eq_true, Bool.or_eq_false_iff, Decidable.not_not, List.cons.injEq, and_true] at p207
                          refine Run.pass rfl ?_
                          refine Run.pass rfl ?_
                          refine Run.pass rfl ?_
                          refine Run.pass rfl ?_
                          refine Run.pass rfl ?_
                          refine Run.pass rfl ?_
                          refine Run.q (v := .bool true) rfl (OpQ.y (OpY.pure rfl)) ?_
                          refine Run.q (v := .bool true) rfl (OpQ.y (OpY.pure rfl)) ?_
                          refine Run.done ?_
                          refine Run.blockEnd ?_
                          refine Run.region ?_
                          refine Run.q (v := .int .i64 ((((q : Nat) : Int)) + 1)) rfl (OpQ.y (OpY.add rfl rfl rfl (by omega) (by omega))) ?_
                          refine Run.q (v := .int .i64 ((((q : Nat) : Int)) + 1)) rfl (OpQ.y (OpY.pure rfl)) ?_
                          refine Run.done ?_
                          refine Run.goal ⟨(by repeat (first | exact Same.refl _ _ | refine Same.put rfl ?_ | refine Same.over rfl rfl ?_)), q + 1, ?_, ?_, ?_, ?_⟩
                          · refine ⟨by omega, ?_⟩
                            trivial
                          · omega
                          · exact ⟨(by show Value.bool _ = Value.bool _; rw [anyI, h207]; rfl), (by first | rfl | (congr 1; omega) | simp), trivial⟩
                          · exact (Some'.weak (.takeEq (by first | rfl | simp) (.takeEq (by first | rfl | simp) (.takeEq (by first | rfl | simp) (.take (.takeEq (by first | rfl | simp) (.takeEq (by first | rfl | simp) (.takeEq (by first | rfl | simp) (.take (.takeEq (by first | rfl | simp) (.nil _)))))))))))
                        · refine Run.q (v := .bool false) rfl (OpQ.y (OpY.moveB rfl h207)) ?_
                          have p207 := h207; try simp only [decide_eq_true_eq, decide_eq_false_iff_not, beq_iff_eq, bne_iff_ne, beq_eq_false_iff_ne, ne_eq, gt_iff_lt, ge_iff_le, Int.not_lt, Int.not_le, bne_eq_false_iff_eq, Bool.not_eq_true', Bool.not_eq_false', Bool.and_eq_true, Bool.and_eq_false_iff, Bool.or_eq_true, Bool.or_eq_false_iff, Decidable.not_not, List.cons.injEq, and_true] at p207
                          refine Run.q (v := .int .i64 (ix (nbL N es m (ix (spR N es m a b) (i - 1))) (q))) rfl (OpQ.y (OpY.pure rfl)) ?_
                          refine Run.q (v := .slice (some ⟨gp, 0, none⟩) ((spR N es m a b).length) cp) rfl (OpQ.y (OpY.pure rfl)) ?_
                          refine Run.q (v := .int .i64 (((i : Nat) : Int))) rfl (OpQ.y (OpY.pure rfl)) ?_
                          refine Run.q (v := .pointer (some ⟨gp, i, none⟩)) rfl (OpQ.y (OpY.index (kk := i) Tsl_34 rfl rfl (by omega) (by omega) (by first | rfl | omega))) ?_
                          refine Run.q (v := .int .i64 (ix (spR N es m a b) (i))) rfl (OpQ.y (OpY.load1 Tone_3 rfl (Cells.own0 (.tail _ (.tail _ (.tail _ (.tail _ (.tail _ (.tail _ (List.Mem.head _))))))) (pre1 (by omega))))) ?_
                          refine Run.q (v := .bool ((ix (nbL N es m (ix (spR N es m a b) (i - 1))) (q)) == (ix (spR N es m a b) (i)))) rfl (OpQ.y (OpY.pure rfl)) ?_
                          refine Run.q (v := .bool ((ix (nbL N es m (ix (spR N es m a b) (i - 1))) (q)) == (ix (spR N es m a b) (i)))) rfl (OpQ.y (OpY.pure rfl)) ?_
                          refine Run.q (v := .bool ((ix (nbL N es m (ix (spR N es m a b) (i - 1))) (q)) == (ix (spR N es m a b) (i)))) rfl (OpQ.y (OpY.pure rfl)) ?_
                          refine Run.done ?_
                          refine Run.blockEnd ?_
                          refine Run.region ?_
                          refine Run.q (v := .int .i64 ((((q : Nat) : Int)) + 1)) rfl (OpQ.y (OpY.add rfl rfl rfl (by omega) (by omega))) ?_
                          refine Run.q (v := .int .i64 ((((q : Nat) : Int)) + 1)) rfl (OpQ.y (OpY.pure rfl)) ?_
                          refine Run.done ?_
                          refine Run.goal ⟨(by repeat (first | exact Same.refl _ _ | refine Same.put rfl ?_ | refine Same.over rfl rfl ?_)), q + 1, ?_, ?_, ?_, ?_⟩
                          · refine ⟨by omega, ?_⟩
                            trivial
                          · omega
                          · exact ⟨(by show Value.bool _ = Value.bool _; rw [anyI, h207]; rfl), (by first | rfl | (congr 1; omega) | simp), trivial⟩
                          · exact (Some'.weak (.takeEq (by first | rfl | simp) (.takeEq (by first | rfl | simp) (.takeEq (by first | rfl | simp) (.take (.takeEq (by first | rfl | simp) (.takeEq (by first | rfl | simp) (.takeEq (by first | rfl | simp) (.take (.takeEq (by first | rfl | simp) (.nil _)))))))))))
                      · have p203 := h203; try simp only [decide_eq_true_eq, decide_eq_false_iff_not, beq_iff_eq, bne_iff_ne, beq_eq_false_iff_ne, ne_eq, gt_iff_lt, ge_iff_le, Int.not_lt, Int.not_le, bne_eq_false_iff_eq, Bool.not_eq_true', Bool.not_eq_false', Bool.and_eq_true, Bool.and_eq_false_iff, Bool.or_eq_true, Bool.or_eq_false_iff, Decidable.not_not, List.cons.injEq, and_true] at p203
                        have hknq : q = (nbL N es m (ix (spR N es m a b) (i - 1))).length := by omega
                        have hmet : anyI (fun q => decide (ix (nbL N es m (ix (spR N es m a b) (i - 1))) q = ix (spR N es m a b) i)) (nbL N es m (ix (spR N es m a b) (i - 1))).length = true := by
                          obtain ⟨k, h1, h2⟩ := hed.2
                          exact anyI_true h1 (by rw [decide_eq_true_eq]; exact h2)
                        refine Run.exit rfl ?_
                        refine Run.seq ?_
                        refine Run.region ?_
                        refine Run.q (v := .bool true) rfl (OpQ.y (OpY.pure rfl)) ?_
                        refine Run.q (v := .bool false) rfl (OpQ.y (OpY.pure rfl)) ?_
                        refine Run.q (v := .bool false) rfl (OpQ.y (OpY.pure rfl)) ?_
                        refine Run.q (v := .bool (anyI (fun q => decide (ix (nbL N es m (ix (spR N es m a b) (i - 1))) q = ix (spR N es m a b) i)) q)) rfl (OpQ.y (OpY.pure rfl)) ?_
                        refine Run.q (v := .bool (!(anyI (fun q => decide (ix (nbL N es m (ix (spR N es m a b) (i - 1))) q = ix (spR N es m a b) i)) q))) rfl (OpQ.y (OpY.pure rfl)) ?_
                        refine Run.q (v := .bool (!(anyI (fun q => decide (ix (nbL N es m (ix (spR N es m a b) (i - 1))) q = ix (spR N es m a b) i)) q))) rfl (OpQ.y (OpY.pure rfl)) ?_
                        refine Run.done ?_
                        refine Run.cond (b := !(anyI (fun q => decide (ix (nbL N es m (ix (spR N es m a b) (i - 1))) q = ix (spR N es m a b) i)) q)) rfl (fun h221 => ?_) (fun h221 => ?_)
                        · exact absurd h221 (by rw [← hknq] at hmet; rw [hmet]; simp) --DONE
                        · have p221 := h221; try simp only [decide_eq_true_eq, decide_eq_false_iff_not, beq_iff_eq, bne_iff_ne, beq_eq_false_iff_ne, ne_eq, gt_iff_lt, ge_iff_le, Int.not_lt, Int.not_le, bne_eq_false_iff_eq, Bool.not_eq_true', Bool.not_eq_false', Bool.and_eq_true, Bool.and_eq_false_iff, Bool.or_eq_true, Bool.or_eq_false_iff, Decidable.not_not, List.cons.injEq, and_true] at p221
                          refine Run.skip ?_
                          refine Run.blockEnd ?_
                          refine Run.region ?_
                          refine Run.q (v := .int .i64 (((i : Nat) : Int))) rfl (OpQ.y (OpY.pure rfl)) ?_
                          refine Run.q (v := .int .i64 ((((i : Nat) : Int)) + 1)) rfl (OpQ.y (OpY.add rfl rfl rfl (by omega) (by omega))) ?_
                          refine Run.q (v := .int .i64 ((((i : Nat) : Int)) + 1)) rfl (OpQ.y (OpY.pure rfl)) ?_
                          refine Run.done ?_
                          refine Run.goal ⟨(by repeat (first | exact Same.refl _ _ | refine Same.put rfl ?_ | refine Same.over rfl rfl ?_)), i + 1, ?_, ?_, ?_, ?_⟩
                          · exact ⟨by omega, by omega⟩
                          · omega
                          · exact ⟨(by first | rfl | (congr 1; omega) | simp), trivial⟩
                          · exact (Some'.weak (.skip (.takeEq (by first | rfl | simp) (.takeEq (by first | rfl | simp) (.take (.takeEq (by first | rfl | simp) (.takeEq (by first | rfl | simp) (.takeEq (by first | rfl | simp) (.take (.takeEq (by first | rfl | simp) (.nil _)))))))))))
                  · have p187 := h187; try simp only [decide_eq_true_eq, decide_eq_false_iff_not, beq_iff_eq, bne_iff_ne, beq_eq_false_iff_ne, ne_eq, gt_iff_lt, ge_iff_le, Int.not_lt, Int.not_le, bne_eq_false_iff_eq, Bool.not_eq_true', Bool.not_eq_false', Bool.and_eq_true, Bool.and_eq_false_iff, Bool.or_eq_true, Bool.or_eq_false_iff, Decidable.not_not, List.cons.injEq, and_true] at p187
                    refine Run.exit rfl ?_
                    refine Run.seq ?_
                    refine Run.region ?_
                    refine Run.q (v := .bool true) rfl (OpQ.y (OpY.pure rfl)) ?_
                    refine Run.done ?_
                    refine Run.ret ?_
                    refine ⟨.bool true, [], Out.one rfl rfl, (Some'.weak (.nil _)), ?_⟩
                    rfl

end Go.Proofs.Ytgghmjijjdboeaa
