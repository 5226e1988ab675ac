/- Walks: drawn coupling graphs and nodes. -/
import Derived.Test.YtgghmjijjdboeaaDg
import Derived.Test.YtgghmjijjdboeaaProg
set_option linter.unusedSimpArgs false
set_option linter.unusedVariables false
namespace Go.Proofs.Ytgghmjijjdboeaa
open Go Go.RowKit
namespace Dg2T
theorem Tagg_25 : aggOf Try.prog 25 = some 2 := by kernel_rfl
theorem Tcall_32 : callable Try.prog 32 = true := by kernel_rfl
theorem Tcall_38 : callable Try.prog 38 = true := by kernel_rfl
theorem Tcall_46 : callable Try.prog 46 = true := by kernel_rfl
theorem Tcall_47 : callable Try.prog 47 = true := by kernel_rfl
theorem Tcall_71 : callable Try.prog 71 = true := by kernel_rfl
theorem Tfo_25_0 : fieldOff Try.prog 25 0 = some 0 := by kernel_rfl
theorem Tfo_25_1 : fieldOff Try.prog 25 1 = some 1 := by kernel_rfl
theorem Tfo_64_0 : fieldOff Try.prog 64 0 = some 0 := by kernel_rfl
theorem Tone_23 : oneOf Try.prog 23 = true := by kernel_rfl
theorem Tsize_23 : (Try.prog.info? 23).map (·.size) = some 1 := by kernel_rfl
theorem Tsize_25 : (Try.prog.info? 25).map (·.size) = some 2 := by kernel_rfl
theorem Tsize_3 : (Try.prog.info? 3).map (·.size) = some 1 := by kernel_rfl
theorem Tsl_23 : sliceOf Try.prog 23 = some (64, 2, 16, [.int .i64 0, .int .i64 0]) := by kernel_rfl
theorem Tsl_34 : sliceOf Try.prog 34 = some (3, 1, 8, [.int .i64 0]) := by kernel_rfl
theorem Tzero_25 : zeroOf Try.prog 25 = some [.int .i64 0, .slice none 0 0] := by kernel_rfl
end Dg2T
open Dg2T
set_option maxHeartbeats 1000000 in
set_option maxRecDepth 20000 in
theorem anyGraph_spec {bc n : Nat} {vc : Value} {cs : List Int} {s : Nat × Int} {w : World} (hat : s.1 < 2305843009213000000) (hc : Cur w bc vc n cs) (hst : St (Of [.blk bc 60 [vc, .int .i64 (((s.1 : Nat) : Int)), .int .u64 (s.2)]]) w w [.blk bc 60 [vc, .int .i64 (((s.1 : Nat) : Int)), .int .u64 (s.2)]]) : Calls Try.prog 46 #[.pointer (some ⟨bc, 0, none⟩)] w (Post (Of [.blk bc 60 [vc, .int .i64 (((s.1 : Nat) : Int)), .int .u64 (s.2)]]) w fun v H => ∃ (N : Int) (u : Value) (m : Nat) (es : List Int) (s1 : Nat × Int), DGr N m es ∧ s1.1 ≤ s.1 + 400 ∧ v = .agg #[.int .i64 N, u] ∧ H = [.own u 64 2 m (ints es), .blk bc 60 [vc, .int .i64 (s1.1 : Nat), .int .u64 s1.2]]) := by
  refine enter (n := 37) (args := [.pointer (some ⟨bc, 0, none⟩)]) Try.func46 rfl rfl (hst) ?_
  refine Run.seq ?_
  refine Run.region ?_
  refine Run.step rfl (OpStep.alloc (zs := [.int .i64 0, .slice none 0 0]) Tzero_25 fun b1 => ?_)
  refine Run.done ?_
  refine Run.seq ?_
  refine Run.region ?_
  refine Run.q (v := .pointer (some ⟨bc, 0, none⟩)) rfl (OpQ.y (OpY.pure rfl)) ?_
  refine Run.step rfl (OpStep.callM (H1 := [.blk bc 60 [vc, .int .i64 (((s.1 : Nat) : Int)), .int .u64 (s.2)]]) (H2 := [.blk b1 25 [.int .i64 0, .slice none 0 0]]) (vs := [.pointer (some ⟨bc, 0, none⟩)]) (caps := []) Tcall_71 rfl rfl (Weak.front [.blk b1 25 [.int .i64 0, .slice none 0 0]] (.blk bc 60 [vc, .int .i64 (((s.1 : Nat) : Int)), .int .u64 (s.2)]) []) (fun w hs => graph_spec (by omega) (hc.go hs) (hs.sub (List.sublist_append_left _ _)).self) ?_)
  rintro _ _ ⟨N, u, m, es, sg, ⟨hdg, hm200⟩, hsg, rfl, rfl⟩
  show Run _ _ (putF _ _ _ (.agg #[.int .i64 N, u])) [.own u 64 2 m (ints es), .blk bc 60 [vc, .int .i64 (((sg.1 : Nat) : Int)), .int .u64 (sg.2)], .blk b1 25 [.int .i64 0, .slice none 0 0]]
  obtain ⟨hN, hm2, hel, hes⟩ := hdg
  refine Run.step rfl (OpStep.alloc (zs := [.int .i64 0, .slice none 0 0]) Tzero_25 fun b2 => ?_)
  refine Run.formOwn (.tail _ (List.Mem.head _)) (fun A_u1 c_u1 hv hcapc_u1 hmaxc_u1 => ?_) (fun _ _ _ => ⟨nofun, nofun, nofun⟩)
  subst hv
  refine Run.step rfl (OpStep.storeAll (us := [.int .i64 N, .slice A_u1 m c_u1]) Tsize_25 rfl rfl rfl (.here _) rfl ?_)
  refine Run.done ?_
  refine Run.seq ?_
  refine Run.seq ?_
  refine Run.region ?_
  refine Run.q (v := .pointer (some ⟨bc, 0, none⟩)) rfl (OpQ.y (OpY.pure rfl)) ?_
  refine Run.step rfl (OpStep.callM (H1 := [.blk bc 60 [vc, .int .i64 (((sg.1 : Nat) : Int)), .int .u64 (sg.2)]]) (H2 := [.blk b2 25 [.int .i64 N, .slice A_u1 m c_u1], .own (.slice A_u1 m c_u1) 64 2 m (ints es), .blk b1 25 [.int .i64 0, .slice none 0 0]]) (vs := [.pointer (some ⟨bc, 0, none⟩), .int .i64 14]) (caps := []) Tcall_47 rfl rfl (Weak.front [.blk b2 25 [.int .i64 N, .slice A_u1 m c_u1], .own (.slice A_u1 m c_u1) 64 2 m (ints es)] (.blk bc 60 [vc, .int .i64 (((sg.1 : Nat) : Int)), .int .u64 (sg.2)]) [.blk b1 25 [.int .i64 0, .slice none 0 0]]) (fun w hs => pick_ex (by omega) (hc.go hs) (hs.sub (List.sublist_append_left _ _)).self) ?_)
  rintro _ _ ⟨x1, s1, hx1, hs1, rfl, rfl⟩
  show Run _ _ (putF _ _ _ (.int .i64 x1)) [.blk bc 60 [vc, .int .i64 (((s1.1 : Nat) : Int)), .int .u64 (s1.2)], .blk b2 25 [.int .i64 N, .slice A_u1 m c_u1], .own (.slice A_u1 m c_u1) 64 2 m (ints es), .blk b1 25 [.int .i64 0, .slice none 0 0]]
  refine Run.done ?_
  refine Run.block ?_
  refine Run.seq ?_
  refine Run.region ?_
  refine Run.q (v := .bool (x1 == 0)) rfl (OpQ.y (OpY.pure rfl)) ?_
  refine Run.q (v := .bool (x1 == 0)) rfl (OpQ.y (OpY.pure rfl)) ?_
  refine Run.done ?_
  refine Run.cond (b := x1 == 0) rfl (fun h8 => ?_) (fun h8 => ?_)
  · have p8 := h8; try simp only [decide_eq_true_eq, decide_eq_false_iff_not, beq_iff_eq, bne_iff_ne, beq_eq_false_iff_ne, ne_eq, gt_iff_lt, ge_iff_le, Int.not_lt, Int.not_le, bne_eq_false_iff_eq, Bool.not_eq_true', Bool.not_eq_false', Bool.and_eq_true, Bool.and_eq_false_iff, Bool.or_eq_true, Bool.or_eq_false_iff, Decidable.not_not, List.cons.injEq, and_true] at p8
    refine Run.lastlyB [10] [.blk b2 25 [.int .i64 N, .slice A_u1 m c_u1], .blk b1 25 [.int .i64 0, .slice none 0 0]] (by kernel_rfl) ?_
    refine DL.takeP (i := 0) (v := .pointer (some ⟨b2, 1, none⟩)) rfl (by kernel_rfl) (by kernel_rfl) (by kernel_rfl) (fun _ _ _ h => h) rfl (fun _ => OpY.fieldAddr Tfo_25_1 rfl rfl) ?_
    refine DL.take (i := 1) (v := .slice A_u1 m c_u1) rfl (by kernel_rfl) (by kernel_rfl) (by kernel_rfl) (by kernel_rfl) (fun _ _ _ h => h) (Some'.weak (.skip (.take (.skip (.take (.nil _)))))) rfl (OpY.load1 Tone_23 rfl (Cells.blk (.head _) ⟨rfl, trivial⟩)) ?_
    refine DL.takeP (i := 2) (v := .pointer (some ⟨bc, 0, none⟩)) rfl (by kernel_rfl) (by kernel_rfl) (by kernel_rfl) (fun _ _ _ h => h) rfl (fun _ => OpY.pure rfl) ?_
    refine DL.takeP (i := 4) (v := .pointer (some ⟨bc, 0, none⟩)) rfl (by kernel_rfl) (by kernel_rfl) (by kernel_rfl) (fun _ _ _ h => h) rfl (fun _ => OpY.pure rfl) ?_
    refine DL.stepS (i := 3) (by kernel_rfl) rfl rfl (OpStep.callM (H1 := [.blk bc 60 [vc, .int .i64 (((s1.1 : Nat) : Int)), .int .u64 (s1.2)]]) (H2 := [.blk b2 25 [.int .i64 N, .slice A_u1 m c_u1], .own (.slice A_u1 m c_u1) 64 2 m (ints es), .blk b1 25 [.int .i64 0, .slice none 0 0]]) (vs := [.pointer (some ⟨bc, 0, none⟩), .int .i64 5]) (caps := []) Tcall_47 rfl rfl (Weak.refl _) (fun w hs => pick_ex (by omega) (hc.go hs) (hs.sub (List.sublist_append_left _ _)).self) ?_)
    rintro _ _ ⟨x2, s2, hx2, hs2, rfl, rfl⟩
    refine ⟨(Some'.weak (.skip (.take (.skip (.take (.nil _)))))), ?_⟩
    refine DL.stepS (i := 5) (by kernel_rfl) rfl rfl (OpStep.callM (H1 := [.blk bc 60 [vc, .int .i64 (((s2.1 : Nat) : Int)), .int .u64 (s2.2)]]) (H2 := [.blk b2 25 [.int .i64 N, .slice A_u1 m c_u1], .own (.slice A_u1 m c_u1) 64 2 m (ints es), .blk b1 25 [.int .i64 0, .slice none 0 0]]) (vs := [.pointer (some ⟨bc, 0, none⟩), .int .i64 6]) (caps := []) Tcall_47 rfl rfl (Weak.refl _) (fun w hs => pick_ex (by omega) (hc.go hs) (hs.sub (List.sublist_append_left _ _)).self) ?_)
    rintro _ _ ⟨x3, s3, hx3, hs3, rfl, rfl⟩
    refine ⟨(Some'.weak (.skip (.take (.skip (.take (.nil _)))))), ?_⟩
    refine DL.takeP (i := 6) (v := .agg #[.int .i64 x2, .int .i64 x3]) rfl (by kernel_rfl) (by kernel_rfl) (by kernel_rfl) (fun _ _ _ h => h) rfl (fun _ => OpY.build (cs := [.int .i64 x2, .int .i64 x3]) (by kernel_rfl)) ?_
    refine DL.stepS (i := 7) (by kernel_rfl) rfl rfl (OpStep.buildSlice (us := [.int .i64 x2, .int .i64 x3]) Tsl_23 (by decide) (by decide) ⟨rfl, [.int .i64 x2, .int .i64 x3], _, rfl, rfl, rfl, rfl⟩ rfl fun b3 => ?_)
    refine ⟨(Some'.weak (.skip (.skip (.take (.skip (.take (.nil _))))))), ?_⟩
    refine DL.stepS (i := 8) (by kernel_rfl) rfl rfl (OpStep.append (H1 := [.own (.slice (some ⟨b3, 0, none⟩) 1 1) 64 2 1 ([.int .i64 x2, .int .i64 x3]), .blk bc 60 [vc, .int .i64 (((s3.1 : Nat) : Int)), .int .u64 (s3.2)], .blk b2 25 [.int .i64 N, .slice A_u1 m c_u1]]) (H2 := [.blk b1 25 [.int .i64 0, .slice none 0 0]]) (v := .slice A_u1 m c_u1) (u := .slice (some ⟨b3, 0, none⟩) 1 1) (n := m) (m := 1) (xs := ints es) (ys := [.int .i64 x2, .int .i64 x3]) Tsl_23 (by decide) rfl rfl rfl rfl (fun w hs => hs.slOwn (.head _)) (by simp [Value.oneCell']) (by omega) (by simp only [maxLen]; omega) fun av1 hnav1 => ?_)
    refine DL.weakS (H' := [.own (.slice (some ⟨b3, 0, none⟩) 1 1) 64 2 1 ([.int .i64 x2, .int .i64 x3]), .blk bc 60 [vc, .int .i64 (((s3.1 : Nat) : Int)), .int .u64 (s3.2)], .blk b2 25 [.int .i64 N, .slice A_u1 m c_u1], .own av1 64 2 (m + 1) (ints (es ++ [x2, x3])), .blk b1 25 [.int .i64 0, .slice none 0 0]]) (Some'.weak (.take (.take (.take (.takeEq (by simp [ints]) (.take (.nil _))))))) ?_
    refine ⟨(Some'.weak (.skip (.skip (.take (.skip (.take (.nil _))))))), ?_⟩
    refine DL.takeP (i := 9) (v := .pointer (some ⟨b2, 1, none⟩)) rfl (by kernel_rfl) (by kernel_rfl) (by kernel_rfl) (fun _ _ _ h => h) rfl (fun _ => OpY.fieldAddr Tfo_25_1 rfl rfl) ?_
    refine DL.formOwn (.tail _ (.tail _ (.tail _ (List.Mem.head _)))) (fun A_av11 c_av11 hv hcapc_av11 hmaxc_av11 => ?_)
    subst hv
    refine DL.step (i := 10) (by kernel_rfl) (by kernel_rfl) rfl rfl (OpStep.store (us := [.slice A_av11 (m + 1) c_av11]) Tsize_23 rfl rfl rfl (.there _ (.there _ (.here _))) (by simp only [List.length_cons, List.length_nil]; omega) ?_)
    show DL _ _ _ _ _ _ _ _ [.own (.slice (some ⟨b3, 0, none⟩) 1 1) 64 2 1 ([.int .i64 x2, .int .i64 x3]), .blk bc 60 [vc, .int .i64 (((s3.1 : Nat) : Int)), .int .u64 (s3.2)], .blk b2 25 [.int .i64 N, .slice A_av11 (m + 1) c_av11], .own (.slice A_av11 (m + 1) c_av11) 64 2 (m + 1) (ints (es ++ [x2, x3])), .blk b1 25 [.int .i64 0, .slice none 0 0]]
    refine DL.done (by kernel_rfl) ?_
    refine Run.blockEnd ?_
    refine Run.seq ?_
    refine Run.region ?_
    refine Run.q (v := .agg #[.int .i64 N, .slice A_av11 (m + 1) c_av11]) rfl (OpQ.y (OpY.loadN (cs := [.int .i64 N, .slice A_av11 (m + 1) c_av11]) Tagg_25 rfl (Cells.blk (.tail _ (.tail _ (List.Mem.head _))) ⟨rfl, rfl, trivial⟩))) ?_
    refine Run.step rfl (OpStep.storeAll (us := [.int .i64 N, .slice A_av11 (m + 1) c_av11]) Tsize_25 rfl rfl rfl (.there _ (.there _ (.there _ (.there _ (.here _))))) rfl ?_)
    refine Run.done ?_
    refine Run.ret ?_
    refine ⟨.agg #[.int .i64 N, .slice A_av11 (m + 1) c_av11], [.own (.slice A_av11 (m + 1) c_av11) 64 2 (m + 1) (ints (es ++ [x2, x3])), .blk bc 60 [vc, .int .i64 (((s3.1 : Nat) : Int)), .int .u64 (s3.2)]], Out.cell1 (cs := [.int .i64 N, .slice A_av11 (m + 1) c_av11]) rfl Tagg_25 rfl (Cells.blk (.tail _ (.tail _ (.tail _ (.tail _ (List.Mem.head _))))) ⟨rfl, rfl, trivial⟩), (((Weak.front [.own (.slice (some ⟨b3, 0, none⟩) 1 1) 64 2 1 ([.int .i64 x2, .int .i64 x3])] (.blk bc 60 [vc, .int .i64 (((s3.1 : Nat) : Int)), .int .u64 (s3.2)]) [.blk b2 25 [.int .i64 N, .slice A_av11 (m + 1) c_av11], .own (.slice A_av11 (m + 1) c_av11) 64 2 (m + 1) (ints (es ++ [x2, x3])), .blk b1 25 [.int .i64 N, .slice A_av11 (m + 1) c_av11]]).trans (Weak.front [.blk bc 60 [vc, .int .i64 (((s3.1 : Nat) : Int)), .int .u64 (s3.2)], .own (.slice (some ⟨b3, 0, none⟩) 1 1) 64 2 1 ([.int .i64 x2, .int .i64 x3]), .blk b2 25 [.int .i64 N, .slice A_av11 (m + 1) c_av11]] (.own (.slice A_av11 (m + 1) c_av11) 64 2 (m + 1) (ints (es ++ [x2, x3]))) [.blk b1 25 [.int .i64 N, .slice A_av11 (m + 1) c_av11]])).trans (Some'.weak (.take (.take (.nil _))))), ?_⟩
    first | exact ⟨_, _, _, _, _, ⟨hN, by omega, hel, hes⟩, by omega, rfl, rfl⟩ | exact ⟨_, _, _, _, _, ⟨by omega, by omega, hel, hes⟩, by omega, rfl, rfl⟩ | exact ⟨_, _, _, _, _, ⟨hN, by omega, by simp; omega, fun x hx => by
        rcases List.mem_append.1 hx with h | h
        · exact hes x h
        · simp only [List.mem_cons, List.not_mem_nil, or_false] at h; omega⟩, by omega, rfl, rfl⟩ | exact ⟨_, _, _, _, _, ⟨hN, by omega, by simp; omega, fun x hx => by
        rcases List.mem_or_eq_of_mem_set hx with h | h
        · exact hes x h
        · omega⟩, by omega, rfl, rfl⟩
  · have p8 := h8; try simp only [decide_eq_true_eq, decide_eq_false_iff_not, beq_iff_eq, bne_iff_ne, beq_eq_false_iff_ne, ne_eq, gt_iff_lt, ge_iff_le, Int.not_lt, Int.not_le, bne_eq_false_iff_eq, Bool.not_eq_true', Bool.not_eq_false', Bool.and_eq_true, Bool.and_eq_false_iff, Bool.or_eq_true, Bool.or_eq_false_iff, Decidable.not_not, List.cons.injEq, and_true] at p8
    refine Run.seq ?_
    refine Run.region ?_
    refine Run.q (v := .bool (x1 == 1)) rfl (OpQ.y (OpY.pure rfl)) ?_
    refine Run.q (v := .bool (x1 == 1)) rfl (OpQ.y (OpY.pure rfl)) ?_
    refine Run.done ?_
    refine Run.cond (b := x1 == 1) rfl (fun h20 => ?_) (fun h20 => ?_)
    · have p20 := h20; try simp only [decide_eq_true_eq, decide_eq_false_iff_not, beq_iff_eq, bne_iff_ne, beq_eq_false_iff_ne, ne_eq, gt_iff_lt, ge_iff_le, Int.not_lt, Int.not_le, bne_eq_false_iff_eq, Bool.not_eq_true', Bool.not_eq_false', Bool.and_eq_true, Bool.and_eq_false_iff, Bool.or_eq_true, Bool.or_eq_false_iff, Decidable.not_not, List.cons.injEq, and_true] at p20
      refine Run.region ?_
      refine Run.q (v := .pointer (some ⟨bc, 0, none⟩)) rfl (OpQ.y (OpY.pure rfl)) ?_
      refine Run.step rfl (OpStep.buildSlice (us := [.int .i64 0, .int .i64 1, .int .i64 8, .int .i64 9]) Tsl_34 (by decide) (by decide) ⟨rfl, [.int .i64 0], _, rfl, rfl, rfl, ⟨rfl, [.int .i64 1], _, rfl, rfl, rfl, ⟨rfl, [.int .i64 8], _, rfl, rfl, rfl, ⟨rfl, [.int .i64 9], _, rfl, rfl, rfl, rfl⟩⟩⟩⟩ rfl fun b4 => ?_)
      refine Run.step rfl (OpStep.callM (H1 := [.blk bc 60 [vc, .int .i64 (((s1.1 : Nat) : Int)), .int .u64 (s1.2)], .own (.slice (some ⟨b4, 0, none⟩) 4 4) 3 1 4 (ints [0, 1, 8, 9])]) (H2 := [.blk b2 25 [.int .i64 N, .slice A_u1 m c_u1], .own (.slice A_u1 m c_u1) 64 2 m (ints es), .blk b1 25 [.int .i64 0, .slice none 0 0]]) (vs := [.pointer (some ⟨bc, 0, none⟩), .slice (some ⟨b4, 0, none⟩) 4 4]) (caps := []) Tcall_38 rfl rfl (Weak.front [.own (.slice (some ⟨b4, 0, none⟩) 4 4) 3 1 4 ([.int .i64 0, .int .i64 1, .int .i64 8, .int .i64 9])] (.blk bc 60 [vc, .int .i64 (((s1.1 : Nat) : Int)), .int .u64 (s1.2)]) [.blk b2 25 [.int .i64 N, .slice A_u1 m c_u1], .own (.slice A_u1 m c_u1) 64 2 m (ints es), .blk b1 25 [.int .i64 0, .slice none 0 0]]) (fun w hs => among_spec (by omega) (by decide) (hc.go hs) (hc.apart hs (.tail _ (.head _))) (hs.sub (List.sublist_append_left _ _)).self) ?_)
      rintro _ _ ⟨i1, s9, hi1, hs9, rfl, rfl⟩
      show Run _ _ (putF _ _ _ (.int .i64 (ix [0, 1, 8, 9] i1))) [.blk bc 60 [vc, .int .i64 (((s9.1 : Nat) : Int)), .int .u64 (s9.2)], .blk b2 25 [.int .i64 N, .slice A_u1 m c_u1], .own (.slice A_u1 m c_u1) 64 2 m (ints es), .blk b1 25 [.int .i64 0, .slice none 0 0]]
      have hix : 0 ≤ ix [0, 1, 8, 9] i1 ∧ ix [0, 1, 8, 9] i1 ≤ 9 := by
        rcases (by omega : i1 = 0 ∨ i1 = 1 ∨ i1 = 2 ∨ i1 = 3) with rfl | rfl | rfl | rfl <;> simp [ix]
      refine Run.q (v := .pointer (some ⟨b2, 0, none⟩)) rfl (OpQ.y (OpY.fieldAddr Tfo_25_0 rfl rfl)) ?_
      refine Run.step rfl (OpStep.store (us := [.int .i64 (ix [0, 1, 8, 9] i1)]) Tsize_3 rfl rfl rfl (.there _ (.here _)) (by simp only [List.length_cons, List.length_nil]; omega) ?_)
      show Run _ _ _ [.blk bc 60 [vc, .int .i64 (((s9.1 : Nat) : Int)), .int .u64 (s9.2)], .blk b2 25 [.int .i64 (ix [0, 1, 8, 9] i1), .slice A_u1 m c_u1], .own (.slice A_u1 m c_u1) 64 2 m (ints es), .blk b1 25 [.int .i64 0, .slice none 0 0]]
      refine Run.done ?_
      refine Run.blockEnd ?_
      refine Run.seq ?_
      refine Run.region ?_
      refine Run.q (v := .agg #[.int .i64 (ix [0, 1, 8, 9] i1), .slice A_u1 m c_u1]) rfl (OpQ.y (OpY.loadN (cs := [.int .i64 (ix [0, 1, 8, 9] i1), .slice A_u1 m c_u1]) Tagg_25 rfl (Cells.blk (.tail _ (List.Mem.head _)) ⟨rfl, rfl, trivial⟩))) ?_
      refine Run.step rfl (OpStep.storeAll (us := [.int .i64 (ix [0, 1, 8, 9] i1), .slice A_u1 m c_u1]) Tsize_25 rfl rfl rfl (.there _ (.there _ (.there _ (.here _)))) rfl ?_)
      refine Run.done ?_
      refine Run.ret ?_
      refine ⟨.agg #[.int .i64 (ix [0, 1, 8, 9] i1), .slice A_u1 m c_u1], [.own (.slice A_u1 m c_u1) 64 2 m (ints es), .blk bc 60 [vc, .int .i64 (((s9.1 : Nat) : Int)), .int .u64 (s9.2)]], Out.cell1 (cs := [.int .i64 (ix [0, 1, 8, 9] i1), .slice A_u1 m c_u1]) rfl Tagg_25 rfl (Cells.blk (.tail _ (.tail _ (.tail _ (List.Mem.head _)))) ⟨rfl, rfl, trivial⟩), ((Weak.front [.blk bc 60 [vc, .int .i64 (((s9.1 : Nat) : Int)), .int .u64 (s9.2)], .blk b2 25 [.int .i64 (ix [0, 1, 8, 9] i1), .slice A_u1 m c_u1]] (.own (.slice A_u1 m c_u1) 64 2 m (ints es)) [.blk b1 25 [.int .i64 (ix [0, 1, 8, 9] i1), .slice A_u1 m c_u1]]).trans (Some'.weak (.take (.take (.nil _))))), ?_⟩
      first | exact ⟨_, _, _, _, _, ⟨hN, by omega, hel, hes⟩, by omega, rfl, rfl⟩ | exact ⟨_, _, _, _, _, ⟨by omega, by omega, hel, hes⟩, by omega, rfl, rfl⟩ | exact ⟨_, _, _, _, _, ⟨hN, by omega, by simp; omega, fun x hx => by
          rcases List.mem_append.1 hx with h | h
          · exact hes x h
          · simp only [List.mem_cons, List.not_mem_nil, or_false] at h; omega⟩, by omega, rfl, rfl⟩ | exact ⟨_, _, _, _, _, ⟨hN, by omega, by simp; omega, fun x hx => by
          rcases List.mem_or_eq_of_mem_set hx with h | h
          · exact hes x h
          · omega⟩, by omega, rfl, rfl⟩
    · have p20 := h20; try simp only [decide_eq_true_eq, decide_eq_false_iff_not, beq_iff_eq, bne_iff_ne, beq_eq_false_iff_ne, ne_eq, gt_iff_lt, ge_iff_le, Int.not_lt, Int.not_le, bne_eq_false_iff_eq, Bool.not_eq_true', Bool.not_eq_false', Bool.and_eq_true, Bool.and_eq_false_iff, Bool.or_eq_true, Bool.or_eq_false_iff, Decidable.not_not, List.cons.injEq, and_true] at p20
      refine Run.seq ?_
      refine Run.region ?_
      refine Run.q (v := .bool (x1 == 2)) rfl (OpQ.y (OpY.pure rfl)) ?_
      refine Run.q (v := .bool (x1 == 2)) rfl (OpQ.y (OpY.pure rfl)) ?_
      refine Run.done ?_
      refine Run.cond (b := x1 == 2) rfl (fun h26 => ?_) (fun h26 => ?_)
      · have p26 := h26; try simp only [decide_eq_true_eq, decide_eq_false_iff_not, beq_iff_eq, bne_iff_ne, beq_eq_false_iff_ne, ne_eq, gt_iff_lt, ge_iff_le, Int.not_lt, Int.not_le, bne_eq_false_iff_eq, Bool.not_eq_true', Bool.not_eq_false', Bool.and_eq_true, Bool.and_eq_false_iff, Bool.or_eq_true, Bool.or_eq_false_iff, Decidable.not_not, List.cons.injEq, and_true] at p26
        refine Run.seq ?_
        refine Run.region ?_
        refine Run.q (v := .pointer (some ⟨b2, 1, none⟩)) rfl (OpQ.y (OpY.fieldAddr Tfo_25_1 rfl rfl)) ?_
        refine Run.q (v := .slice A_u1 m c_u1) rfl (OpQ.y (OpY.load1 Tone_23 rfl (Cells.blk (.tail _ (List.Mem.head _)) ⟨rfl, trivial⟩))) ?_
        refine Run.q (v := .int .i64 (((m : Nat) : Int))) rfl (OpQ.y (OpY.len Tsl_23 rfl)) ?_
        refine Run.q (v := .bool (decide ((((m : Nat) : Int)) > 0))) rfl (OpQ.y (OpY.pure rfl)) ?_
        refine Run.done ?_
        refine Run.cond (b := decide ((((m : Nat) : Int)) > 0)) rfl (fun h31 => ?_) (fun h31 => ?_)
        · have p31 := h31; try simp only [decide_eq_true_eq, decide_eq_false_iff_not, beq_iff_eq, bne_iff_ne, beq_eq_false_iff_ne, ne_eq, gt_iff_lt, ge_iff_le, Int.not_lt, Int.not_le, bne_eq_false_iff_eq, Bool.not_eq_true', Bool.not_eq_false', Bool.and_eq_true, Bool.and_eq_false_iff, Bool.or_eq_true, Bool.or_eq_false_iff, Decidable.not_not, List.cons.injEq, and_true] at p31
          refine Run.region ?_
          refine Run.q (v := .pointer (some ⟨b2, 1, none⟩)) rfl (OpQ.y (OpY.fieldAddr Tfo_25_1 rfl rfl)) ?_
          refine Run.q (v := .slice A_u1 m c_u1) rfl (OpQ.y (OpY.load1 Tone_23 rfl (Cells.blk (.tail _ (List.Mem.head _)) ⟨rfl, trivial⟩))) ?_
          refine Run.openOwn (.tail _ (.tail _ (List.Mem.head _))) (by omega) (fun ge ce hvge hcapge _ => ?_) (fun _ _ _ => ⟨nofun, nofun, nofun⟩)
          injection hvge with hAge _ hcge; subst hAge; subst hcge
          refine Run.q (v := .pointer (some ⟨ge, 0, none⟩)) rfl (OpQ.y (OpY.index (kk := 0) Tsl_23 rfl rfl (by omega) (by omega) (by first | rfl | omega))) ?_
          refine Run.q (v := .pointer (some ⟨ge, 0, none⟩)) rfl (OpQ.y (OpY.fieldAddr Tfo_64_0 rfl rfl)) ?_
          refine Run.step rfl (OpStep.storeOwnInt (o := 0) (a := -1) Tsize_3 rfl rfl (.there _ (.there _ (.here _))) (by omega) ?_)
          refine Run.done ?_
          refine Run.blockEnd ?_
          refine Run.seq ?_
          refine Run.region ?_
          refine Run.q (v := .agg #[.int .i64 N, .slice (some ⟨ge, 0, none⟩) m c_u1]) rfl (OpQ.y (OpY.loadN (cs := [.int .i64 N, .slice (some ⟨ge, 0, none⟩) m c_u1]) Tagg_25 rfl (Cells.blk (.tail _ (List.Mem.head _)) ⟨rfl, rfl, trivial⟩))) ?_
          refine Run.step rfl (OpStep.storeAll (us := [.int .i64 N, .slice (some ⟨ge, 0, none⟩) m c_u1]) Tsize_25 rfl rfl rfl (.there _ (.there _ (.there _ (.here _)))) rfl ?_)
          refine Run.done ?_
          refine Run.ret ?_
          refine ⟨.agg #[.int .i64 N, .slice (some ⟨ge, 0, none⟩) m c_u1], [.own (.slice (some ⟨ge, 0, none⟩) m c_u1) 64 2 m (ints (es.set 0 (-1))), .blk bc 60 [vc, .int .i64 (((s1.1 : Nat) : Int)), .int .u64 (s1.2)]], Out.cell1 (cs := [.int .i64 N, .slice (some ⟨ge, 0, none⟩) m c_u1]) rfl Tagg_25 rfl (Cells.blk (.tail _ (.tail _ (.tail _ (List.Mem.head _)))) ⟨rfl, rfl, trivial⟩), ((Weak.front [.blk bc 60 [vc, .int .i64 (((s1.1 : Nat) : Int)), .int .u64 (s1.2)], .blk b2 25 [.int .i64 N, .slice (some ⟨ge, 0, none⟩) m c_u1]] (.own (.slice (some ⟨ge, 0, none⟩) m c_u1) 64 2 m (ints (es.set 0 (-1)))) [.blk b1 25 [.int .i64 N, .slice (some ⟨ge, 0, none⟩) m c_u1]]).trans (Some'.weak (.take (.take (.nil _))))), ?_⟩
          first | exact ⟨_, _, _, _, _, ⟨hN, by omega, hel, hes⟩, by omega, rfl, rfl⟩ | exact ⟨_, _, _, _, _, ⟨by omega, by omega, hel, hes⟩, by omega, rfl, rfl⟩ | exact ⟨_, _, _, _, _, ⟨hN, by omega, by simp; omega, fun x hx => by
              rcases List.mem_append.1 hx with h | h
              · exact hes x h
              · simp only [List.mem_cons, List.not_mem_nil, or_false] at h; omega⟩, by omega, rfl, rfl⟩ | exact ⟨_, _, _, _, _, ⟨hN, by omega, by simp; omega, fun x hx => by
              rcases List.mem_or_eq_of_mem_set hx with h | h
              · exact hes x h
              · omega⟩, by omega, rfl, rfl⟩
        · have p31 := h31; try simp only [decide_eq_true_eq, decide_eq_false_iff_not, beq_iff_eq, bne_iff_ne, beq_eq_false_iff_ne, ne_eq, gt_iff_lt, ge_iff_le, Int.not_lt, Int.not_le, bne_eq_false_iff_eq, Bool.not_eq_true', Bool.not_eq_false', Bool.and_eq_true, Bool.and_eq_false_iff, Bool.or_eq_true, Bool.or_eq_false_iff, Decidable.not_not, List.cons.injEq, and_true] at p31
          refine Run.skip ?_
          refine Run.blockEnd ?_
          refine Run.seq ?_
          refine Run.region ?_
          refine Run.q (v := .agg #[.int .i64 N, .slice A_u1 m c_u1]) rfl (OpQ.y (OpY.loadN (cs := [.int .i64 N, .slice A_u1 m c_u1]) Tagg_25 rfl (Cells.blk (.tail _ (List.Mem.head _)) ⟨rfl, rfl, trivial⟩))) ?_
          refine Run.step rfl (OpStep.storeAll (us := [.int .i64 N, .slice A_u1 m c_u1]) Tsize_25 rfl rfl rfl (.there _ (.there _ (.there _ (.here _)))) rfl ?_)
          refine Run.done ?_
          refine Run.ret ?_
          refine ⟨.agg #[.int .i64 N, .slice A_u1 m c_u1], [.own (.slice A_u1 m c_u1) 64 2 m (ints es), .blk bc 60 [vc, .int .i64 (((s1.1 : Nat) : Int)), .int .u64 (s1.2)]], Out.cell1 (cs := [.int .i64 N, .slice A_u1 m c_u1]) rfl Tagg_25 rfl (Cells.blk (.tail _ (.tail _ (.tail _ (List.Mem.head _)))) ⟨rfl, rfl, trivial⟩), ((Weak.front [.blk bc 60 [vc, .int .i64 (((s1.1 : Nat) : Int)), .int .u64 (s1.2)], .blk b2 25 [.int .i64 N, .slice A_u1 m c_u1]] (.own (.slice A_u1 m c_u1) 64 2 m (ints es)) [.blk b1 25 [.int .i64 N, .slice A_u1 m c_u1]]).trans (Some'.weak (.take (.take (.nil _))))), ?_⟩
          first | exact ⟨_, _, _, _, _, ⟨hN, by omega, hel, hes⟩, by omega, rfl, rfl⟩ | exact ⟨_, _, _, _, _, ⟨by omega, by omega, hel, hes⟩, by omega, rfl, rfl⟩ | exact ⟨_, _, _, _, _, ⟨hN, by omega, by simp; omega, fun x hx => by
              rcases List.mem_append.1 hx with h | h
              · exact hes x h
              · simp only [List.mem_cons, List.not_mem_nil, or_false] at h; omega⟩, by omega, rfl, rfl⟩ | exact ⟨_, _, _, _, _, ⟨hN, by omega, by simp; omega, fun x hx => by
              rcases List.mem_or_eq_of_mem_set hx with h | h
              · exact hes x h
              · omega⟩, by omega, rfl, rfl⟩
      · have p26 := h26; try simp only [decide_eq_true_eq, decide_eq_false_iff_not, beq_iff_eq, bne_iff_ne, beq_eq_false_iff_ne, ne_eq, gt_iff_lt, ge_iff_le, Int.not_lt, Int.not_le, bne_eq_false_iff_eq, Bool.not_eq_true', Bool.not_eq_false', Bool.and_eq_true, Bool.and_eq_false_iff, Bool.or_eq_true, Bool.or_eq_false_iff, Decidable.not_not, List.cons.injEq, and_true] at p26
        refine Run.skip ?_
        refine Run.blockEnd ?_
        refine Run.seq ?_
        refine Run.region ?_
        refine Run.q (v := .agg #[.int .i64 N, .slice A_u1 m c_u1]) rfl (OpQ.y (OpY.loadN (cs := [.int .i64 N, .slice A_u1 m c_u1]) Tagg_25 rfl (Cells.blk (.tail _ (List.Mem.head _)) ⟨rfl, rfl, trivial⟩))) ?_
        refine Run.step rfl (OpStep.storeAll (us := [.int .i64 N, .slice A_u1 m c_u1]) Tsize_25 rfl rfl rfl (.there _ (.there _ (.there _ (.here _)))) rfl ?_)
        refine Run.done ?_
        refine Run.ret ?_
        refine ⟨.agg #[.int .i64 N, .slice A_u1 m c_u1], [.own (.slice A_u1 m c_u1) 64 2 m (ints es), .blk bc 60 [vc, .int .i64 (((s1.1 : Nat) : Int)), .int .u64 (s1.2)]], Out.cell1 (cs := [.int .i64 N, .slice A_u1 m c_u1]) rfl Tagg_25 rfl (Cells.blk (.tail _ (.tail _ (.tail _ (List.Mem.head _)))) ⟨rfl, rfl, trivial⟩), ((Weak.front [.blk bc 60 [vc, .int .i64 (((s1.1 : Nat) : Int)), .int .u64 (s1.2)], .blk b2 25 [.int .i64 N, .slice A_u1 m c_u1]] (.own (.slice A_u1 m c_u1) 64 2 m (ints es)) [.blk b1 25 [.int .i64 N, .slice A_u1 m c_u1]]).trans (Some'.weak (.take (.take (.nil _))))), ?_⟩
        first | exact ⟨_, _, _, _, _, ⟨hN, by omega, hel, hes⟩, by omega, rfl, rfl⟩ | exact ⟨_, _, _, _, _, ⟨by omega, by omega, hel, hes⟩, by omega, rfl, rfl⟩ | exact ⟨_, _, _, _, _, ⟨hN, by omega, by simp; omega, fun x hx => by
            rcases List.mem_append.1 hx with h | h
            · exact hes x h
            · simp only [List.mem_cons, List.not_mem_nil, or_false] at h; omega⟩, by omega, rfl, rfl⟩ | exact ⟨_, _, _, _, _, ⟨hN, by omega, by simp; omega, fun x hx => by
            rcases List.mem_or_eq_of_mem_set hx with h | h
            · exact hes x h
            · omega⟩, by omega, rfl, rfl⟩

set_option maxHeartbeats 1000000 in
set_option maxRecDepth 20000 in
theorem DrawGraph_spec {va : Value} {n : Nat} {cs : List Int} {w : World} (ha : Sl w va 1 n (u8s cs)) (hby : ∀ x ∈ cs, 0 ≤ x ∧ x < 256) : Calls Try.prog 32 #[va] w (Post No w fun v H => ∃ (N : Int) (u : Value) (m : Nat) (es : List Int), DGr N m es ∧ v = .agg #[.int .i64 N, u] ∧ H = [.own u 64 2 m (ints es)]) := by
  obtain ⟨Ac, cc, rfl, _, _⟩ := ha.form0
  refine enter (n := 9) (args := [.slice Ac n cc]) Try.func32 rfl rfl (St.empty _ _) ?_
  refine Run.seq ?_
  refine Run.region ?_
  refine Run.step rfl (OpStep.alloc (zs := [.int .i64 0, .slice none 0 0]) Tzero_25 fun b1 => ?_)
  refine Run.done ?_
  refine Run.seq ?_
  refine Run.region ?_
  refine Run.q (v := .slice Ac n cc) rfl (OpQ.y (OpY.pure rfl)) ?_
  refine Run.q (v := .agg #[.slice Ac n cc, .int .i64 0, .int .u64 0]) rfl (OpQ.y (OpY.build (cs := [.slice Ac n cc, .int .i64 0, .int .u64 0]) (by kernel_rfl))) ?_
  refine Run.step rfl (OpStep.box (us := [.slice Ac n cc, .int .i64 0, .int .u64 0]) rfl fun b2 => ?_)
  refine Run.q (v := .pointer (some ⟨b2, 0, none⟩)) rfl (OpQ.y (OpY.pure rfl)) ?_
  refine Run.done ?_
  refine Run.seq ?_
  refine Run.region ?_
  refine Run.q (v := .pointer (some ⟨b2, 0, none⟩)) rfl (OpQ.y (OpY.pure rfl)) ?_
  refine Run.step rfl (OpStep.callM (H1 := [.blk b2 60 [.slice Ac n cc, .int .i64 0, .int .u64 0]]) (H2 := [.blk b1 25 [.int .i64 0, .slice none 0 0]]) (vs := [.pointer (some ⟨b2, 0, none⟩)]) (caps := []) Tcall_46 rfl rfl (Weak.refl _) (fun w hs => anyGraph_spec (s := (0, 0)) (by decide) (Cur.top ha hby hs (.head _)) (hs.sub (List.sublist_append_left _ _)).self) ?_)
  rintro _ _ ⟨N, u, m, es, sg, hdg, hsg, rfl, rfl⟩
  show Run _ _ (putF _ _ _ (.agg #[.int .i64 N, u])) [.own u 64 2 m (ints es), .blk b2 60 [.slice Ac n cc, .int .i64 (((sg.1 : Nat) : Int)), .int .u64 (sg.2)], .blk b1 25 [.int .i64 0, .slice none 0 0]]
  refine Run.formOwn (.head _) (fun A_u1 c_u1 hv hcapc_u1 hmaxc_u1 => ?_) (fun _ _ _ => ⟨nofun, nofun, nofun⟩)
  subst hv
  refine Run.step rfl (OpStep.storeAll (us := [.int .i64 N, .slice A_u1 m c_u1]) Tsize_25 rfl rfl rfl (.there _ (.there _ (.here _))) rfl ?_)
  refine Run.done ?_
  refine Run.ret ?_
  refine ⟨.agg #[.int .i64 N, .slice A_u1 m c_u1], [.own (.slice A_u1 m c_u1) 64 2 m (ints es)], Out.cell1 (cs := [.int .i64 N, .slice A_u1 m c_u1]) rfl Tagg_25 rfl (Cells.blk (.tail _ (.tail _ (List.Mem.head _))) ⟨rfl, rfl, trivial⟩), (Some'.weak (.take (.nil _))), ?_⟩
  exact ⟨_, _, _, _, hdg, rfl, rfl⟩

set_option maxHeartbeats 1000000 in
set_option maxRecDepth 20000 in
theorem DrawDiameterOf_spec {va : Value} {n : Nat} {cs : List Int} {w : World} (ha : Sl w va 1 n (u8s cs)) (hby : ∀ x ∈ cs, 0 ≤ x ∧ x < 256) : Calls Try.prog 19 #[va] w (Post No w fun v H => ∃ (N : Int) (u : Value) (m : Nat) (es : List Int), DGr N m es ∧ v = .agg #[.int .i64 N, u] ∧ H = [.own u 64 2 m (ints es)]) := by
  refine enter (n := 5) (args := [va]) Try.func19 rfl rfl (St.empty _ _) ?_
  refine Run.seq ?_
  refine Run.region ?_
  refine Run.step rfl (OpStep.alloc (zs := [.int .i64 0, .slice none 0 0]) Tzero_25 fun b1 => ?_)
  refine Run.done ?_
  refine Run.seq ?_
  refine Run.region ?_
  refine Run.q (v := va) rfl (OpQ.y (OpY.pure rfl)) ?_
  refine Run.step rfl (OpStep.call (vs := [va]) (caps := []) Tcall_32 rfl rfl (fun w hs => DrawGraph_spec (hs.sl ha) hby) ?_)
  rintro _ _ ⟨N, u, m, es, hdg, rfl, rfl⟩
  show Run _ _ (putF _ _ _ (.agg #[.int .i64 N, u])) [.own u 64 2 m (ints es), .blk b1 25 [.int .i64 0, .slice none 0 0]]
  refine Run.formOwn (.head _) (fun A_u1 c_u1 hv hcapc_u1 hmaxc_u1 => ?_) (fun _ _ _ => ⟨nofun, nofun, nofun⟩)
  subst hv
  refine Run.step rfl (OpStep.storeAll (us := [.int .i64 N, .slice A_u1 m c_u1]) Tsize_25 rfl rfl rfl (.there _ (.here _)) rfl ?_)
  refine Run.done ?_
  refine Run.ret ?_
  refine ⟨.agg #[.int .i64 N, .slice A_u1 m c_u1], [.own (.slice A_u1 m c_u1) 64 2 m (ints es)], Out.cell1 (cs := [.int .i64 N, .slice A_u1 m c_u1]) rfl Tagg_25 rfl (Cells.blk (.tail _ (List.Mem.head _)) ⟨rfl, rfl, trivial⟩), (Some'.weak (.take (.nil _))), ?_⟩
  exact ⟨_, _, _, _, hdg, rfl, rfl⟩

set_option maxHeartbeats 1000000 in
set_option maxRecDepth 20000 in
theorem DrawSymmetriesOf_spec {va : Value} {n : Nat} {cs : List Int} {w : World} (ha : Sl w va 1 n (u8s cs)) (hby : ∀ x ∈ cs, 0 ≤ x ∧ x < 256) : Calls Try.prog 6 #[va] w (Post No w fun v H => ∃ (N : Int) (u : Value) (m : Nat) (es : List Int), DGr N m es ∧ v = .agg #[.int .i64 N, u] ∧ H = [.own u 64 2 m (ints es)]) := by
  refine enter (n := 5) (args := [va]) Try.func6 rfl rfl (St.empty _ _) ?_
  refine Run.seq ?_
  refine Run.region ?_
  refine Run.step rfl (OpStep.alloc (zs := [.int .i64 0, .slice none 0 0]) Tzero_25 fun b1 => ?_)
  refine Run.done ?_
  refine Run.seq ?_
  refine Run.region ?_
  refine Run.q (v := va) rfl (OpQ.y (OpY.pure rfl)) ?_
  refine Run.step rfl (OpStep.call (vs := [va]) (caps := []) Tcall_32 rfl rfl (fun w hs => DrawGraph_spec (hs.sl ha) hby) ?_)
  rintro _ _ ⟨N, u, m, es, hdg, rfl, rfl⟩
  show Run _ _ (putF _ _ _ (.agg #[.int .i64 N, u])) [.own u 64 2 m (ints es), .blk b1 25 [.int .i64 0, .slice none 0 0]]
  refine Run.formOwn (.head _) (fun A_u1 c_u1 hv hcapc_u1 hmaxc_u1 => ?_) (fun _ _ _ => ⟨nofun, nofun, nofun⟩)
  subst hv
  refine Run.step rfl (OpStep.storeAll (us := [.int .i64 N, .slice A_u1 m c_u1]) Tsize_25 rfl rfl rfl (.there _ (.here _)) rfl ?_)
  refine Run.done ?_
  refine Run.ret ?_
  refine ⟨.agg #[.int .i64 N, .slice A_u1 m c_u1], [.own (.slice A_u1 m c_u1) 64 2 m (ints es)], Out.cell1 (cs := [.int .i64 N, .slice A_u1 m c_u1]) rfl Tagg_25 rfl (Cells.blk (.tail _ (List.Mem.head _)) ⟨rfl, rfl, trivial⟩), (Some'.weak (.take (.nil _))), ?_⟩
  exact ⟨_, _, _, _, hdg, rfl, rfl⟩

set_option maxHeartbeats 1000000 in
set_option maxRecDepth 20000 in
theorem DrawShortestPath_spec {va : Value} {n : Nat} {cs : List Int} {w : World} (ha : Sl w va 1 n (u8s cs)) (hby : ∀ x ∈ cs, 0 ≤ x ∧ x < 256) : Calls Try.prog 16 #[va] w (Post No w fun v H => ∃ (N : Int) (u : Value) (m : Nat) (es : List Int) (a b : Int), DGr N m es ∧ (-10 ≤ a ∧ a ≤ 10) ∧ (-10 ≤ b ∧ b ≤ 10) ∧ v = .tuple #[.agg #[.int .i64 N, u], .int .i64 a, .int .i64 b] ∧ H = [.own u 64 2 m (ints es)]) := by
  obtain ⟨Ac, cc, rfl, _, _⟩ := ha.form0
  refine enter (n := 21) (args := [.slice Ac n cc]) Try.func16 rfl rfl (St.empty _ _) ?_
  refine Run.seq ?_
  refine Run.region ?_
  refine Run.step rfl (OpStep.alloc (zs := [.int .i64 0, .slice none 0 0]) Tzero_25 fun b1 => ?_)
  refine Run.q (v := .int .i64 0) rfl (OpQ.y (OpY.pure rfl)) ?_
  refine Run.q (v := .int .i64 0) rfl (OpQ.y (OpY.pure rfl)) ?_
  refine Run.done ?_
  refine Run.seq ?_
  refine Run.region ?_
  refine Run.q (v := .slice Ac n cc) rfl (OpQ.y (OpY.pure rfl)) ?_
  refine Run.q (v := .agg #[.slice Ac n cc, .int .i64 0, .int .u64 0]) rfl (OpQ.y (OpY.build (cs := [.slice Ac n cc, .int .i64 0, .int .u64 0]) (by kernel_rfl))) ?_
  refine Run.step rfl (OpStep.box (us := [.slice Ac n cc, .int .i64 0, .int .u64 0]) rfl fun b2 => ?_)
  refine Run.q (v := .pointer (some ⟨b2, 0, none⟩)) rfl (OpQ.y (OpY.pure rfl)) ?_
  refine Run.done ?_
  refine Run.seq ?_
  refine Run.region ?_
  refine Run.q (v := .pointer (some ⟨b2, 0, none⟩)) rfl (OpQ.y (OpY.pure rfl)) ?_
  refine Run.step rfl (OpStep.callM (H1 := [.blk b2 60 [.slice Ac n cc, .int .i64 0, .int .u64 0]]) (H2 := [.blk b1 25 [.int .i64 0, .slice none 0 0]]) (vs := [.pointer (some ⟨b2, 0, none⟩)]) (caps := []) Tcall_46 rfl rfl (Weak.refl _) (fun w hs => anyGraph_spec (s := (0, 0)) (by decide) (Cur.top ha hby hs (.head _)) (hs.sub (List.sublist_append_left _ _)).self) ?_)
  rintro _ _ ⟨N, u, m, es, sg, hdg, hsg, rfl, rfl⟩
  show Run _ _ (putF _ _ _ (.agg #[.int .i64 N, u])) [.own u 64 2 m (ints es), .blk b2 60 [.slice Ac n cc, .int .i64 (((sg.1 : Nat) : Int)), .int .u64 (sg.2)], .blk b1 25 [.int .i64 0, .slice none 0 0]]
  refine Run.step rfl (OpStep.alloc (zs := [.int .i64 0, .slice none 0 0]) Tzero_25 fun b3 => ?_)
  refine Run.formOwn (.tail _ (List.Mem.head _)) (fun A_u1 c_u1 hv hcapc_u1 hmaxc_u1 => ?_) (fun _ _ _ => ⟨nofun, nofun, nofun⟩)
  subst hv
  refine Run.step rfl (OpStep.storeAll (us := [.int .i64 N, .slice A_u1 m c_u1]) Tsize_25 rfl rfl rfl (.here _) rfl ?_)
  refine Run.done ?_
  refine Run.seq ?_
  refine Run.lastlyB [9] [.blk b3 25 [.int .i64 N, .slice A_u1 m c_u1]] (by kernel_rfl) ?_
  refine DL.take (i := 0) (v := .agg #[.int .i64 N, .slice A_u1 m c_u1]) rfl (by kernel_rfl) (by kernel_rfl) (by kernel_rfl) (by kernel_rfl) (fun _ _ _ h => h) (Some'.weak (.take (.nil _))) rfl (OpY.loadN (cs := [.int .i64 N, .slice A_u1 m c_u1]) Tagg_25 rfl (Cells.blk (.head _) ⟨rfl, rfl, trivial⟩)) ?_
  refine DL.takeP (i := 1) (v := .pointer (some ⟨b2, 0, none⟩)) rfl (by kernel_rfl) (by kernel_rfl) (by kernel_rfl) (fun _ _ _ h => h) rfl (fun _ => OpY.pure rfl) ?_
  refine DL.takeP (i := 3) (v := .pointer (some ⟨b2, 0, none⟩)) rfl (by kernel_rfl) (by kernel_rfl) (by kernel_rfl) (fun _ _ _ h => h) rfl (fun _ => OpY.pure rfl) ?_
  refine DL.takeP (i := 5) (v := .pointer (some ⟨b2, 0, none⟩)) rfl (by kernel_rfl) (by kernel_rfl) (by kernel_rfl) (fun _ _ _ h => h) rfl (fun _ => OpY.pure rfl) ?_
  refine DL.stepS (i := 2) (by kernel_rfl) rfl rfl (OpStep.callM (H1 := [.blk b2 60 [.slice Ac n cc, .int .i64 (((sg.1 : Nat) : Int)), .int .u64 (sg.2)]]) (H2 := [.blk b3 25 [.int .i64 N, .slice A_u1 m c_u1], .own (.slice A_u1 m c_u1) 64 2 m (ints es), .blk b1 25 [.int .i64 0, .slice none 0 0]]) (vs := [.pointer (some ⟨b2, 0, none⟩), .int .i64 5]) (caps := []) Tcall_47 rfl rfl (Weak.front [.blk b3 25 [.int .i64 N, .slice A_u1 m c_u1], .own (.slice A_u1 m c_u1) 64 2 m (ints es)] (.blk b2 60 [.slice Ac n cc, .int .i64 (((sg.1 : Nat) : Int)), .int .u64 (sg.2)]) [.blk b1 25 [.int .i64 0, .slice none 0 0]]) (fun w hs => pick_ex (s := sg) (by have h0 : ((0 : Nat), (0 : Int)).1 = 0 := rfl; omega) (Cur.top ha hby hs (.head _)) (hs.sub (List.sublist_append_left _ _)).self) ?_)
  rintro _ _ ⟨x1, s1, hx1, hs1, rfl, rfl⟩
  refine ⟨(Some'.weak (.skip (.take (.nil _)))), ?_⟩
  refine DL.stepS (i := 4) (by kernel_rfl) rfl rfl (OpStep.callM (H1 := [.blk b2 60 [.slice Ac n cc, .int .i64 (((s1.1 : Nat) : Int)), .int .u64 (s1.2)]]) (H2 := [.blk b3 25 [.int .i64 N, .slice A_u1 m c_u1], .own (.slice A_u1 m c_u1) 64 2 m (ints es), .blk b1 25 [.int .i64 0, .slice none 0 0]]) (vs := [.pointer (some ⟨b2, 0, none⟩), .int .i64 6]) (caps := []) Tcall_47 rfl rfl (Weak.refl _) (fun w hs => pick_ex (s := s1) (by have h0 : ((0 : Nat), (0 : Int)).1 = 0 := rfl; omega) (Cur.top ha hby hs (.head _)) (hs.sub (List.sublist_append_left _ _)).self) ?_)
  rintro _ _ ⟨x2, s2, hx2, hs2, rfl, rfl⟩
  refine ⟨(Some'.weak (.skip (.take (.nil _)))), ?_⟩
  refine DL.stepS (i := 6) (by kernel_rfl) rfl rfl (OpStep.callM (H1 := [.blk b2 60 [.slice Ac n cc, .int .i64 (((s2.1 : Nat) : Int)), .int .u64 (s2.2)]]) (H2 := [.blk b3 25 [.int .i64 N, .slice A_u1 m c_u1], .own (.slice A_u1 m c_u1) 64 2 m (ints es), .blk b1 25 [.int .i64 0, .slice none 0 0]]) (vs := [.pointer (some ⟨b2, 0, none⟩), .int .i64 9]) (caps := []) Tcall_47 rfl rfl (Weak.refl _) (fun w hs => pick_ex (s := s2) (by have h0 : ((0 : Nat), (0 : Int)).1 = 0 := rfl; omega) (Cur.top ha hby hs (.head _)) (hs.sub (List.sublist_append_left _ _)).self) ?_)
  rintro _ _ ⟨x3, s3, hx3, hs3, rfl, rfl⟩
  refine ⟨(Some'.weak (.skip (.take (.nil _)))), ?_⟩
  refine DL.takeP (i := 7) (v := .int .i64 (x3 / 8)) rfl (by kernel_rfl) (by kernel_rfl) (by kernel_rfl) (fun _ _ _ h => h) rfl (fun _ => OpY.quo rfl rfl (by omega) (by omega) (by decide)) ?_
  refine DL.takeP (i := 8) (v := .int .i64 (x2 - (x3 / 8))) rfl (by kernel_rfl) (by kernel_rfl) (by kernel_rfl) (fun _ _ _ h => h) rfl (fun _ => OpY.sub rfl rfl rfl (by omega) (by omega)) ?_
  refine DL.step (i := 9) (by kernel_rfl) (by kernel_rfl) rfl rfl (OpStep.storeAll (us := [.int .i64 N, .slice A_u1 m c_u1]) Tsize_25 rfl rfl rfl (.there _ (.there _ (.there _ (.here _)))) rfl ?_)
  refine DL.takeP (i := 10) (v := .int .i64 x1) rfl (by kernel_rfl) (by kernel_rfl) (by kernel_rfl) (fun _ _ _ h => h) rfl (fun _ => OpY.pure rfl) ?_
  refine DL.takeP (i := 11) (v := .int .i64 (x2 - (x3 / 8))) rfl (by kernel_rfl) (by kernel_rfl) (by kernel_rfl) (fun _ _ _ h => h) rfl (fun _ => OpY.pure rfl) ?_
  refine DL.done (by kernel_rfl) ?_
  refine Run.ret ?_
  refine ⟨.tuple #[.agg #[.int .i64 N, .slice A_u1 m c_u1], .int .i64 x1, .int .i64 (x2 - (x3 / 8))], [.own (.slice A_u1 m c_u1) 64 2 m (ints es)], Out.cell3 (cs := [.int .i64 N, .slice A_u1 m c_u1]) rfl Tagg_25 rfl (Cells.blk (.tail _ (.tail _ (.tail _ (List.Mem.head _)))) ⟨rfl, rfl, trivial⟩) rfl rfl, (Some'.weak (.skip (.skip (.take (.nil _))))), ?_⟩
  exact ⟨_, _, _, _, _, _, hdg, by omega, by omega, rfl, rfl⟩


theorem Cur.apart0 {w0 w : World} {va vl : Value} {n m size : Nat} {e : TypeId} {cs : List Int} {ls : List Value} {H : List Res} (ha : Sl w0 va 1 n (u8s cs)) (hs : St No w0 w H) (hm : Res.own vl e size m ls ∈ H) : 0 < n → ∀ k, va.ownBlock = some k → vl.ownBlock ≠ some k := by
  intro h0 k hk hl
  obtain ⟨_, A, c, rfl, _, _, h4⟩ := ha
  obtain ⟨b', o, rfl, hb, _⟩ := h4 h0
  simp only [Value.ownBlock, Option.some.injEq] at hk; subst hk
  exact hs.fresh _ hm b' hl hb

set_option maxHeartbeats 1000000 in
set_option maxRecDepth 20000 in
theorem DrawLineGraph_spec {va : Value} {n : Nat} {cs : List Int} {w : World} (ha : Sl w va 1 n (u8s cs)) (hby : ∀ x ∈ cs, 0 ≤ x ∧ x < 256) : Calls Try.prog 9 #[va] w (Post No w fun v H => ∃ k : Int, (-1 ≤ k ∧ k ≤ 9) ∧ v = .int .i64 k ∧ H = []) := by
  obtain ⟨Ac, cc, rfl, _, _⟩ := ha.form0
  refine enter (n := 10) (args := [.slice Ac n cc]) Try.func9 rfl rfl (St.empty _ _) ?_
  refine Run.seq ?_
  refine Run.region ?_
  refine Run.q (v := .int .i64 0) rfl (OpQ.y (OpY.pure rfl)) ?_
  refine Run.done ?_
  refine Run.seq ?_
  refine Run.region ?_
  refine Run.q (v := .slice Ac n cc) rfl (OpQ.y (OpY.pure rfl)) ?_
  refine Run.q (v := .agg #[.slice Ac n cc, .int .i64 0, .int .u64 0]) rfl (OpQ.y (OpY.build (cs := [.slice Ac n cc, .int .i64 0, .int .u64 0]) (by kernel_rfl))) ?_
  refine Run.step rfl (OpStep.box (us := [.slice Ac n cc, .int .i64 0, .int .u64 0]) rfl fun b1 => ?_)
  refine Run.q (v := .pointer (some ⟨b1, 0, none⟩)) rfl (OpQ.y (OpY.pure rfl)) ?_
  refine Run.done ?_
  refine Run.seq ?_
  refine Run.region ?_
  refine Run.q (v := .pointer (some ⟨b1, 0, none⟩)) rfl (OpQ.y (OpY.pure rfl)) ?_
  refine Run.step rfl (OpStep.buildSlice (us := [.int .i64 0, .int .i64 1, .int .i64 2, .int .i64 5, .int .i64 8, .int .i64 9, .int .i64 (-1)]) Tsl_34 (by decide) (by decide) ⟨rfl, [.int .i64 0], _, rfl, rfl, rfl, ⟨rfl, [.int .i64 1], _, rfl, rfl, rfl, ⟨rfl, [.int .i64 2], _, rfl, rfl, rfl, ⟨rfl, [.int .i64 5], _, rfl, rfl, rfl, ⟨rfl, [.int .i64 8], _, rfl, rfl, rfl, ⟨rfl, [.int .i64 9], _, rfl, rfl, rfl, ⟨rfl, [.int .i64 (-1)], _, rfl, rfl, rfl, rfl⟩⟩⟩⟩⟩⟩⟩ rfl fun b2 => ?_)
  refine Run.step rfl (OpStep.callM (H1 := [.blk b1 60 [.slice Ac n cc, .int .i64 0, .int .u64 0], .own (.slice (some ⟨b2, 0, none⟩) 7 7) 3 1 7 (ints [0, 1, 2, 5, 8, 9, -1])]) (H2 := []) (vs := [.pointer (some ⟨b1, 0, none⟩), .slice (some ⟨b2, 0, none⟩) 7 7]) (caps := []) Tcall_38 rfl rfl (Weak.front [.own (.slice (some ⟨b2, 0, none⟩) 7 7) 3 1 7 ([.int .i64 0, .int .i64 1, .int .i64 2, .int .i64 5, .int .i64 8, .int .i64 9, .int .i64 (-1)])] (.blk b1 60 [.slice Ac n cc, .int .i64 0, .int .u64 0]) []) (fun w hs => among_spec (s := (0, 0)) (by decide) (by decide) (Cur.top ha hby hs (.head _)) (Cur.apart0 ha hs (.tail _ (.head _))) (hs.sub (List.sublist_append_left _ _)).self) ?_)
  rintro _ _ ⟨i1, s9, hi1, hs9, rfl, rfl⟩
  show Run _ _ (putF _ _ _ (.int .i64 (ix [0, 1, 2, 5, 8, 9, -1] i1))) [.blk b1 60 [.slice Ac n cc, .int .i64 (((s9.1 : Nat) : Int)), .int .u64 (s9.2)]]
  have hix : -1 ≤ ix [0, 1, 2, 5, 8, 9, -1] i1 ∧ ix [0, 1, 2, 5, 8, 9, -1] i1 ≤ 9 := by
    rcases (by omega : i1 = 0 ∨ i1 = 1 ∨ i1 = 2 ∨ i1 = 3 ∨ i1 = 4 ∨ i1 = 5 ∨ i1 = 6) with rfl | rfl | rfl | rfl | rfl | rfl | rfl <;> simp [ix]
  refine Run.q (v := .int .i64 (ix [0, 1, 2, 5, 8, 9, -1] i1)) rfl (OpQ.y (OpY.pure rfl)) ?_
  refine Run.done ?_
  refine Run.ret ?_
  refine ⟨.int .i64 (ix [0, 1, 2, 5, 8, 9, -1] i1), [], Out.one rfl rfl, (Some'.weak (.nil _)), ?_⟩
  exact ⟨_, hix, rfl, rfl⟩

end Go.Proofs.Ytgghmjijjdboeaa
