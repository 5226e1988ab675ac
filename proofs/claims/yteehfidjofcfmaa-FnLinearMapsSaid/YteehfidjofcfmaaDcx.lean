/- Walks: drawn circuits. -/
import Derived.Test.YteehfidjofcfmaaDr
import Derived.Test.YteehfidjofcfmaaCi
import Derived.Test.YteehfidjofcfmaaCg3
import Derived.Test.YteehfidjofcfmaaProg
set_option linter.unusedSimpArgs false
set_option linter.unusedVariables false
namespace Go.Proofs.Yteehfidjofcfmaa
open Go Go.RowKit
namespace DcxT
theorem Tagg_38 : aggOf Try.prog 38 = some 2 := by kernel_rfl
theorem Tagg_71 : aggOf Try.prog 71 = some 3 := by kernel_rfl
theorem Tcall_100 : callable Try.prog 100 = true := by kernel_rfl
theorem Tcall_104 : callable Try.prog 104 = true := by kernel_rfl
theorem Tcall_128 : callable Try.prog 128 = true := by kernel_rfl
theorem Tcall_134 : callable Try.prog 134 = true := by kernel_rfl
theorem Tcall_62 : callable Try.prog 62 = true := by kernel_rfl
theorem Tcall_63 : callable Try.prog 63 = true := by kernel_rfl
theorem Tcall_64 : callable Try.prog 64 = true := by kernel_rfl
theorem Tcall_65 : callable Try.prog 65 = true := by kernel_rfl
theorem Tfo_38_0 : fieldOff Try.prog 38 0 = some 0 := by kernel_rfl
theorem Tfo_38_1 : fieldOff Try.prog 38 1 = some 1 := by kernel_rfl
theorem Tfo_71_0 : fieldOff Try.prog 71 0 = some 0 := by kernel_rfl
theorem Tfo_71_1 : fieldOff Try.prog 71 1 = some 1 := by kernel_rfl
theorem Tfo_71_2 : fieldOff Try.prog 71 2 = some 2 := by kernel_rfl
theorem Tone_3 : oneOf Try.prog 3 = true := by kernel_rfl
theorem Tone_36 : oneOf Try.prog 36 = true := by kernel_rfl
theorem Tsize_3 : (Try.prog.info? 3).map (·.size) = some 1 := by kernel_rfl
theorem Tsize_36 : (Try.prog.info? 36).map (·.size) = some 1 := by kernel_rfl
theorem Tsize_38 : (Try.prog.info? 38).map (·.size) = some 2 := by kernel_rfl
theorem Tsize_71 : (Try.prog.info? 71).map (·.size) = some 3 := by kernel_rfl
theorem Tsl_22 : sliceOf Try.prog 22 = some (3, 1, 8, [.int .i64 0]) := by kernel_rfl
theorem Tsl_36 : sliceOf Try.prog 36 = some (71, 3, 24, [.int .i64 0, .int .i64 0, .int .i64 0]) := by kernel_rfl
theorem Tzero_38 : zeroOf Try.prog 38 = some [.int .i64 0, .slice none 0 0] := by kernel_rfl
theorem Tzero_71 : zeroOf Try.prog 71 = some [.int .i64 0, .int .i64 0, .int .i64 0] := by kernel_rfl
end DcxT
open DcxT
set_option maxHeartbeats 1000000 in
set_option maxRecDepth 20000 in
theorem gate_spec {N m : Nat} {vk : Value} {ks : List Int} {bc n : Nat} {vc : Value} {cs : List Int} {s : Nat × Int} {w : World} (hN : 1 ≤ N ∧ N ≤ 6) (hat : s.1 < 2305843009213000000) (hc : Cur w bc vc n cs) (hm : 0 < m ∧ m ≤ 100) (hoff : 0 < n → ∀ k, vc.ownBlock = some k → vk.ownBlock ≠ some k) (hst : St (Of [.blk bc 84 [vc, .int .i64 (((s.1 : Nat) : Int)), .int .u64 (s.2)], .own vk 3 1 m (ints ks)]) w w [.blk bc 84 [vc, .int .i64 (((s.1 : Nat) : Int)), .int .u64 (s.2)], .own vk 3 1 m (ints ks)]) : Calls Try.prog 134 #[.pointer (some ⟨bc, 0, none⟩), .int .i64 (N : Nat), vk] w (Post (Of [.blk bc 84 [vc, .int .i64 (((s.1 : Nat) : Int)), .int .u64 (s.2)], .own vk 3 1 m (ints ks)]) w fun v H => ∃ (k1 a1 b1 : Int) (s1 : Nat × Int), s1.1 ≤ s.1 + 10 ∧ v = .agg #[.int .i64 k1, .int .i64 a1, .int .i64 b1] ∧ H = [.blk bc 84 [vc, .int .i64 (s1.1 : Nat), .int .u64 s1.2], .own vk 3 1 m (ints ks)]) := by
  have hkl : ks.length = m := by have h := (hst.slOwn (.tail _ (.head _))).len; omega
  refine enter (n := 42) (args := [.pointer (some ⟨bc, 0, none⟩), .int .i64 (((N : Nat) : Int)), vk]) Try.func134 rfl rfl (hst) ?_
  refine Run.seq ?_
  refine Run.region ?_
  refine Run.step rfl (OpStep.alloc (zs := [.int .i64 0, .int .i64 0, .int .i64 0]) Tzero_71 fun b1 => ?_)
  refine Run.done ?_
  refine Run.seq ?_
  refine Run.openOwn (.tail _ (.tail _ (List.Mem.head _))) (by omega) (fun gk ck hvgk hcapgk _ => ?_) (fun _ _ _ => ⟨nofun, nofun, nofun⟩)
  subst hvgk
  refine Run.region ?_
  refine Run.q (v := .slice (some ⟨gk, 0, none⟩) m ck) rfl (OpQ.y (OpY.pure rfl)) ?_
  refine Run.q (v := .pointer (some ⟨bc, 0, none⟩)) rfl (OpQ.y (OpY.pure rfl)) ?_
  refine Run.q (v := .slice (some ⟨gk, 0, none⟩) m ck) rfl (OpQ.y (OpY.pure rfl)) ?_
  refine Run.q (v := .int .i64 (((m : Nat) : Int))) rfl (OpQ.y (OpY.len Tsl_22 rfl)) ?_
  refine Run.step rfl (OpStep.callM (H1 := [.blk bc 84 [vc, .int .i64 (((s.1 : Nat) : Int)), .int .u64 (s.2)]]) (H2 := [.blk b1 71 [.int .i64 0, .int .i64 0, .int .i64 0], .own (.slice (some ⟨gk, 0, none⟩) m ck) 3 1 m (ints ks)]) (vs := [.pointer (some ⟨bc, 0, none⟩), .int .i64 (((m : Nat) : Int))]) (caps := []) Tcall_64 rfl rfl (Weak.front [.blk b1 71 [.int .i64 0, .int .i64 0, .int .i64 0]] (.blk bc 84 [vc, .int .i64 (((s.1 : Nat) : Int)), .int .u64 (s.2)]) [.own (.slice (some ⟨gk, 0, none⟩) m ck) 3 1 m (ints ks)]) (fun w hs => pick_ex (by omega) (Cur.go2 hc hoff hs) (hs.sub (List.sublist_append_left _ _)).self) ?_)
  rintro _ _ ⟨x1, s1, hx1, hs1, rfl, rfl⟩
  show Run _ _ (putF _ _ _ (.int .i64 x1)) [.blk bc 84 [vc, .int .i64 (((s1.1 : Nat) : Int)), .int .u64 (s1.2)], .blk b1 71 [.int .i64 0, .int .i64 0, .int .i64 0], .own (.slice (some ⟨gk, 0, none⟩) m ck) 3 1 m (ints ks)]
  refine Run.q (v := .pointer (some ⟨gk, x1.toNat, none⟩)) rfl (OpQ.y (OpY.index (kk := x1.toNat) Tsl_22 rfl rfl (by omega) (by omega) (by first | rfl | omega))) ?_
  refine Run.q (v := .int .i64 (ix ks (x1.toNat))) rfl (OpQ.y (OpY.load1 Tone_3 rfl (Cells.own0 (.tail _ (.tail _ (List.Mem.head _))) (pre1 (by omega))))) ?_
  refine Run.q (v := .agg #[.int .i64 (ix ks (x1.toNat)), .int .i64 0, .int .i64 0]) rfl (OpQ.y (OpY.build (cs := [.int .i64 (ix ks (x1.toNat)), .int .i64 0, .int .i64 0]) (by kernel_rfl))) ?_
  refine Run.step rfl (OpStep.alloc (zs := [.int .i64 0, .int .i64 0, .int .i64 0]) Tzero_71 fun b2 => ?_)
  refine Run.step rfl (OpStep.storeAll (us := [.int .i64 (ix ks (x1.toNat)), .int .i64 0, .int .i64 0]) Tsize_71 rfl rfl rfl (.here _) rfl ?_)
  refine Run.done ?_
  refine Run.seq ?_
  refine Run.seq ?_
  refine Run.region ?_
  refine Run.q (v := .pointer (some ⟨b2, 0, none⟩)) rfl (OpQ.y (OpY.fieldAddr Tfo_71_0 rfl rfl)) ?_
  refine Run.q (v := .int .i64 (ix ks (x1.toNat))) rfl (OpQ.y (OpY.load1 Tone_3 rfl (Cells.blk (.head _) ⟨rfl, trivial⟩))) ?_
  refine Run.q (v := .bool ((ix ks (x1.toNat)) == 12)) rfl (OpQ.y (OpY.pure rfl)) ?_
  refine Run.done ?_
  refine Run.cond (b := (ix ks (x1.toNat)) == 12) rfl (fun h18 => ?_) (fun h18 => ?_)
  · have p18 := h18; try simp only [bs] at p18
    refine Run.seq ?_
    refine Run.region ?_
    refine Run.q (v := .agg #[.int .i64 (ix ks (x1.toNat)), .int .i64 0, .int .i64 0]) rfl (OpQ.y (OpY.loadN (cs := [.int .i64 (ix ks (x1.toNat)), .int .i64 0, .int .i64 0]) Tagg_71 rfl (Cells.blk (.head _) ⟨rfl, rfl, rfl, trivial⟩))) ?_
    refine Run.step rfl (OpStep.storeAll (us := [.int .i64 (ix ks (x1.toNat)), .int .i64 0, .int .i64 0]) Tsize_71 rfl rfl rfl (.there _ (.there _ (.here _))) rfl ?_)
    refine Run.done ?_
    refine Run.ret ?_
    refine ⟨.agg #[.int .i64 (ix ks (x1.toNat)), .int .i64 0, .int .i64 0], [.blk bc 84 [vc, .int .i64 (((s1.1 : Nat) : Int)), .int .u64 (s1.2)], .own (.slice (some ⟨gk, 0, none⟩) m ck) 3 1 m (ints ks)], Out.cell1 (cs := [.int .i64 (ix ks (x1.toNat)), .int .i64 0, .int .i64 0]) rfl Tagg_71 rfl (Cells.blk (.tail _ (.tail _ (List.Mem.head _))) ⟨rfl, rfl, rfl, trivial⟩), (Some'.weak (.skip (.take (.skip (.take (.nil _)))))), ?_⟩
    exact ⟨_, _, _, _, by omega, rfl, rfl⟩
  · have p18 := h18; try simp only [bs] at p18
    refine Run.skip ?_
    refine Run.seq ?_
    refine Run.region ?_
    refine Run.q (v := .pointer (some ⟨bc, 0, none⟩)) rfl (OpQ.y (OpY.pure rfl)) ?_
    refine Run.q (v := .int .i64 (((N : Nat) : Int))) rfl (OpQ.y (OpY.pure rfl)) ?_
    refine Run.step rfl (OpStep.callM (H1 := [.blk bc 84 [vc, .int .i64 (((s1.1 : Nat) : Int)), .int .u64 (s1.2)]]) (H2 := [.blk b2 71 [.int .i64 (ix ks (x1.toNat)), .int .i64 0, .int .i64 0], .blk b1 71 [.int .i64 0, .int .i64 0, .int .i64 0], .own (.slice (some ⟨gk, 0, none⟩) m ck) 3 1 m (ints ks)]) (vs := [.pointer (some ⟨bc, 0, none⟩), .int .i64 (((N : Nat) : Int))]) (caps := []) Tcall_64 rfl rfl (Weak.front [.blk b2 71 [.int .i64 (ix ks (x1.toNat)), .int .i64 0, .int .i64 0]] (.blk bc 84 [vc, .int .i64 (((s1.1 : Nat) : Int)), .int .u64 (s1.2)]) [.blk b1 71 [.int .i64 0, .int .i64 0, .int .i64 0], .own (.slice (some ⟨gk, 0, none⟩) m ck) 3 1 m (ints ks)]) (fun w hs => pick_ex (by omega) (Cur.go2 hc hoff hs) (hs.sub (List.sublist_append_left _ _)).self) ?_)
    rintro _ _ ⟨x2, s2, hx2, hs2, rfl, rfl⟩
    show Run _ _ (putF _ _ _ (.int .i64 x2)) [.blk bc 84 [vc, .int .i64 (((s2.1 : Nat) : Int)), .int .u64 (s2.2)], .blk b2 71 [.int .i64 (ix ks (x1.toNat)), .int .i64 0, .int .i64 0], .blk b1 71 [.int .i64 0, .int .i64 0, .int .i64 0], .own (.slice (some ⟨gk, 0, none⟩) m ck) 3 1 m (ints ks)]
    refine Run.q (v := .pointer (some ⟨b2, 1, none⟩)) rfl (OpQ.y (OpY.fieldAddr Tfo_71_1 rfl rfl)) ?_
    refine Run.step rfl (OpStep.store (us := [.int .i64 x2]) Tsize_3 rfl rfl rfl (.there _ (.here _)) (by simp only [List.length_cons, List.length_nil]; omega) ?_)
    show Run _ _ _ [.blk bc 84 [vc, .int .i64 (((s2.1 : Nat) : Int)), .int .u64 (s2.2)], .blk b2 71 [.int .i64 (ix ks (x1.toNat)), .int .i64 x2, .int .i64 0], .blk b1 71 [.int .i64 0, .int .i64 0, .int .i64 0], .own (.slice (some ⟨gk, 0, none⟩) m ck) 3 1 m (ints ks)]
    refine Run.done ?_
    refine Run.seq ?_
    refine Run.seq ?_
    refine Run.region ?_
    refine Run.q (v := .pointer (some ⟨b2, 0, none⟩)) rfl (OpQ.y (OpY.fieldAddr Tfo_71_0 rfl rfl)) ?_
    refine Run.q (v := .int .i64 (ix ks (x1.toNat))) rfl (OpQ.y (OpY.load1 Tone_3 rfl (Cells.blk (.tail _ (List.Mem.head _)) ⟨rfl, trivial⟩))) ?_
    refine Run.q (v := .bool (within (ix ks (x1.toNat)) 9 11)) rfl (OpQ.call (vs := [.int .i64 (ix ks (x1.toNat)), .int .i64 9, .int .i64 11]) (caps := []) Tcall_100 rfl rfl (fun w hs => l1In_spec _ _ _ w)) ?_
    refine Run.done ?_
    refine Run.cond (b := within (ix ks (x1.toNat)) 9 11) rfl (fun h26 => ?_) (fun h26 => ?_)
    · have p26 := h26; try simp only [bs] at p26
      refine Run.seq ?_
      refine Run.seq ?_
      refine Run.region ?_
      refine Run.q (v := .int .i64 (((N : Nat) : Int))) rfl (OpQ.y (OpY.pure rfl)) ?_
      refine Run.q (v := .bool ((((N : Nat) : Int)) == 1)) rfl (OpQ.y (OpY.pure rfl)) ?_
      refine Run.done ?_
      refine Run.cond (b := (((N : Nat) : Int)) == 1) rfl (fun h28 => ?_) (fun h28 => ?_)
      · have p28 := h28; try simp only [bs] at p28
        refine Run.seq ?_
        refine Run.region ?_
        refine Run.q (v := .agg #[.int .i64 1, .int .i64 0, .int .i64 0]) rfl (OpQ.y (OpY.build (cs := [.int .i64 1, .int .i64 0, .int .i64 0]) (by kernel_rfl))) ?_
        refine Run.step rfl (OpStep.storeAll (us := [.int .i64 1, .int .i64 0, .int .i64 0]) Tsize_71 rfl rfl rfl (.there _ (.there _ (.here _))) rfl ?_)
        refine Run.done ?_
        refine Run.ret ?_
        refine ⟨.agg #[.int .i64 1, .int .i64 0, .int .i64 0], [.blk bc 84 [vc, .int .i64 (((s2.1 : Nat) : Int)), .int .u64 (s2.2)], .own (.slice (some ⟨gk, 0, none⟩) m ck) 3 1 m (ints ks)], Out.cell1 (cs := [.int .i64 1, .int .i64 0, .int .i64 0]) rfl Tagg_71 rfl (Cells.blk (.tail _ (.tail _ (List.Mem.head _))) ⟨rfl, rfl, rfl, trivial⟩), (Some'.weak (.take (.skip (.skip (.take (.nil _)))))), ?_⟩
        exact ⟨_, _, _, _, by omega, rfl, rfl⟩
      · have p28 := h28; try simp only [bs] at p28
        refine Run.skip ?_
        refine Run.heldB (base := []) (by kernel_rfl) ?_
        refine DW.take (i := 0) (v := .pointer (some ⟨b2, 1, none⟩)) rfl (by kernel_rfl) (by kernel_rfl) (by kernel_rfl) (fun _ _ _ h => h) (Some'.weak (.nil _)) rfl (OpY.fieldAddr Tfo_71_1 rfl rfl) ?_
        refine DW.take (i := 3) (v := .pointer (some ⟨bc, 0, none⟩)) rfl (by kernel_rfl) (by kernel_rfl) (by kernel_rfl) (fun _ _ _ h => h) (Some'.weak (.nil _)) rfl (OpY.pure rfl) ?_
        refine DW.take (i := 4) (v := .int .i64 (((N : Nat) : Int))) rfl (by kernel_rfl) (by kernel_rfl) (by kernel_rfl) (fun _ _ _ h => h) (Some'.weak (.nil _)) rfl (OpY.pure rfl) ?_
        refine DW.take (i := 5) (v := .int .i64 ((((N : Nat) : Int)) - 1)) rfl (by kernel_rfl) (by kernel_rfl) (by kernel_rfl) (fun _ _ _ h => h) (Some'.weak (.nil _)) rfl (OpY.sub rfl rfl rfl (by omega) (by omega)) ?_
        refine DW.take (i := 8) (v := .int .i64 (((N : Nat) : Int))) rfl (by kernel_rfl) (by kernel_rfl) (by kernel_rfl) (fun _ _ _ h => h) (Some'.weak (.nil _)) rfl (OpY.pure rfl) ?_
        refine DW.two (i := 1) (j := 6) (by kernel_rfl) rfl rfl rfl rfl ?_ ?_
        · refine OpStep.q (v := .int .i64 x2) (OpQ.y (OpY.load1 Tone_3 rfl (Cells.blk (.tail _ (List.Mem.head _)) ⟨rfl, trivial⟩))) ?_
          refine ⟨(Some'.weak (.nil _)), ?_⟩
          refine DW.take (i := 2) (v := .int .i64 (x2 + 1)) rfl (by kernel_rfl) (by kernel_rfl) (by kernel_rfl) (fun _ _ _ h => h) (Some'.weak (.nil _)) rfl (OpY.add rfl rfl rfl (by omega) (by omega)) ?_
          refine DW.step (i := 6) (by kernel_rfl) rfl rfl (OpStep.callM (H1 := [.blk bc 84 [vc, .int .i64 (((s2.1 : Nat) : Int)), .int .u64 (s2.2)]]) (H2 := [.blk b2 71 [.int .i64 (ix ks (x1.toNat)), .int .i64 x2, .int .i64 0], .blk b1 71 [.int .i64 0, .int .i64 0, .int .i64 0], .own (.slice (some ⟨gk, 0, none⟩) m ck) 3 1 m (ints ks)]) (vs := [.pointer (some ⟨bc, 0, none⟩), .int .i64 ((((N : Nat) : Int)) - 1)]) (caps := []) Tcall_64 rfl rfl (Weak.refl _) (fun w hs => pick_ex (by omega) (Cur.go2 hc hoff hs) (hs.sub (List.sublist_append_left _ _)).self) ?_)
          rintro _ _ ⟨x3, s3, hx3, hs3, rfl, rfl⟩
          refine ⟨(Some'.weak (.nil _)), ?_⟩
          refine DW.take (i := 7) (v := .int .i64 ((x2 + 1) + x3)) rfl (by kernel_rfl) (by kernel_rfl) (by kernel_rfl) (fun _ _ _ h => h) (Some'.weak (.nil _)) rfl (OpY.add rfl rfl rfl (by omega) (by omega)) ?_
          have hem := Int.emod_nonneg ((x2 + 1) + x3) (show ((N : Nat) : Int) ≠ 0 by omega)
          refine DW.take (i := 9) (v := .int .i64 (((x2 + 1) + x3) % (((N : Nat) : Int)))) rfl (by kernel_rfl) (by kernel_rfl) (by kernel_rfl) (fun _ _ _ h => h) (Some'.weak (.nil _)) rfl (OpY.rem rfl rfl (by omega) (by omega)) ?_
          refine DW.take (i := 10) (v := .pointer (some ⟨b2, 2, none⟩)) rfl (by kernel_rfl) (by kernel_rfl) (by kernel_rfl) (fun _ _ _ h => h) (Some'.weak (.nil _)) rfl (OpY.fieldAddr Tfo_71_2 rfl rfl) ?_
          refine DW.step (i := 11) (by kernel_rfl) rfl rfl (OpStep.store (us := [.int .i64 (((x2 + 1) + x3) % (((N : Nat) : Int)))]) Tsize_3 rfl rfl rfl (.there _ (.here _)) (by simp only [List.length_cons, List.length_nil]; omega) ?_)
          show Weak [.blk bc 84 [vc, .int .i64 (((s3.1 : Nat) : Int)), .int .u64 (s3.2)], .blk b2 71 [.int .i64 (ix ks (x1.toNat)), .int .i64 x2, .int .i64 (((x2 + 1) + x3) % (((N : Nat) : Int)))], .blk b1 71 [.int .i64 0, .int .i64 0, .int .i64 0], .own (.slice (some ⟨gk, 0, none⟩) m ck) 3 1 m (ints ks)] _ ∧ DW _ _ _ _ _ _ _ [.blk bc 84 [vc, .int .i64 (((s3.1 : Nat) : Int)), .int .u64 (s3.2)], .blk b2 71 [.int .i64 (ix ks (x1.toNat)), .int .i64 x2, .int .i64 (((x2 + 1) + x3) % (((N : Nat) : Int)))], .blk b1 71 [.int .i64 0, .int .i64 0, .int .i64 0], .own (.slice (some ⟨gk, 0, none⟩) m ck) 3 1 m (ints ks)]
          refine ⟨(Some'.weak (.nil _)), ?_⟩
          refine DW.done (by kernel_rfl) ?_
          refine Run.seq ?_
          refine Run.region ?_
          refine Run.q (v := .agg #[.int .i64 (ix ks (x1.toNat)), .int .i64 x2, .int .i64 (((x2 + 1) + x3) % (((N : Nat) : Int)))]) rfl (OpQ.y (OpY.loadN (cs := [.int .i64 (ix ks (x1.toNat)), .int .i64 x2, .int .i64 (((x2 + 1) + x3) % (((N : Nat) : Int)))]) Tagg_71 rfl (Cells.blk (.tail _ (List.Mem.head _)) ⟨rfl, rfl, rfl, trivial⟩))) ?_
          refine Run.step rfl (OpStep.storeAll (us := [.int .i64 (ix ks (x1.toNat)), .int .i64 x2, .int .i64 (((x2 + 1) + x3) % (((N : Nat) : Int)))]) Tsize_71 rfl rfl rfl (.there _ (.there _ (.here _))) rfl ?_)
          refine Run.done ?_
          refine Run.ret ?_
          refine ⟨.agg #[.int .i64 (ix ks (x1.toNat)), .int .i64 x2, .int .i64 (((x2 + 1) + x3) % (((N : Nat) : Int)))], [.blk bc 84 [vc, .int .i64 (((s3.1 : Nat) : Int)), .int .u64 (s3.2)], .own (.slice (some ⟨gk, 0, none⟩) m ck) 3 1 m (ints ks)], Out.cell1 (cs := [.int .i64 (ix ks (x1.toNat)), .int .i64 x2, .int .i64 (((x2 + 1) + x3) % (((N : Nat) : Int)))]) rfl Tagg_71 rfl (Cells.blk (.tail _ (.tail _ (List.Mem.head _))) ⟨rfl, rfl, rfl, trivial⟩), (Some'.weak (.take (.skip (.skip (.take (.nil _)))))), ?_⟩
          exact ⟨_, _, _, _, by omega, rfl, rfl⟩
        · refine OpStep.callM (H1 := [.blk bc 84 [vc, .int .i64 (((s2.1 : Nat) : Int)), .int .u64 (s2.2)]]) (H2 := [.blk b2 71 [.int .i64 (ix ks (x1.toNat)), .int .i64 x2, .int .i64 0], .blk b1 71 [.int .i64 0, .int .i64 0, .int .i64 0], .own (.slice (some ⟨gk, 0, none⟩) m ck) 3 1 m (ints ks)]) (vs := [.pointer (some ⟨bc, 0, none⟩), .int .i64 ((((N : Nat) : Int)) - 1)]) (caps := []) Tcall_64 rfl rfl (Weak.refl _) (fun w hs => pick_ex (by omega) (Cur.go2 hc hoff hs) (hs.sub (List.sublist_append_left _ _)).self) ?_
          rintro _ _ ⟨x4, s4, hx4, hs4, rfl, rfl⟩
          refine ⟨(Some'.weak (.nil _)), ?_⟩
          refine DW.step (i := 1) (by kernel_rfl) rfl rfl (OpStep.q (v := .int .i64 x2) (OpQ.y (OpY.load1 Tone_3 rfl (Cells.blk (.tail _ (List.Mem.head _)) ⟨rfl, trivial⟩))) ?_)
          refine ⟨(Some'.weak (.nil _)), ?_⟩
          refine DW.take (i := 2) (v := .int .i64 (x2 + 1)) rfl (by kernel_rfl) (by kernel_rfl) (by kernel_rfl) (fun _ _ _ h => h) (Some'.weak (.nil _)) rfl (OpY.add rfl rfl rfl (by omega) (by omega)) ?_
          refine DW.take (i := 7) (v := .int .i64 ((x2 + 1) + x4)) rfl (by kernel_rfl) (by kernel_rfl) (by kernel_rfl) (fun _ _ _ h => h) (Some'.weak (.nil _)) rfl (OpY.add rfl rfl rfl (by omega) (by omega)) ?_
          have hem := Int.emod_nonneg ((x2 + 1) + x4) (show ((N : Nat) : Int) ≠ 0 by omega)
          refine DW.take (i := 9) (v := .int .i64 (((x2 + 1) + x4) % (((N : Nat) : Int)))) rfl (by kernel_rfl) (by kernel_rfl) (by kernel_rfl) (fun _ _ _ h => h) (Some'.weak (.nil _)) rfl (OpY.rem rfl rfl (by omega) (by omega)) ?_
          refine DW.take (i := 10) (v := .pointer (some ⟨b2, 2, none⟩)) rfl (by kernel_rfl) (by kernel_rfl) (by kernel_rfl) (fun _ _ _ h => h) (Some'.weak (.nil _)) rfl (OpY.fieldAddr Tfo_71_2 rfl rfl) ?_
          refine DW.step (i := 11) (by kernel_rfl) rfl rfl (OpStep.store (us := [.int .i64 (((x2 + 1) + x4) % (((N : Nat) : Int)))]) Tsize_3 rfl rfl rfl (.there _ (.here _)) (by simp only [List.length_cons, List.length_nil]; omega) ?_)
          show Weak [.blk bc 84 [vc, .int .i64 (((s4.1 : Nat) : Int)), .int .u64 (s4.2)], .blk b2 71 [.int .i64 (ix ks (x1.toNat)), .int .i64 x2, .int .i64 (((x2 + 1) + x4) % (((N : Nat) : Int)))], .blk b1 71 [.int .i64 0, .int .i64 0, .int .i64 0], .own (.slice (some ⟨gk, 0, none⟩) m ck) 3 1 m (ints ks)] _ ∧ DW _ _ _ _ _ _ _ [.blk bc 84 [vc, .int .i64 (((s4.1 : Nat) : Int)), .int .u64 (s4.2)], .blk b2 71 [.int .i64 (ix ks (x1.toNat)), .int .i64 x2, .int .i64 (((x2 + 1) + x4) % (((N : Nat) : Int)))], .blk b1 71 [.int .i64 0, .int .i64 0, .int .i64 0], .own (.slice (some ⟨gk, 0, none⟩) m ck) 3 1 m (ints ks)]
          refine ⟨(Some'.weak (.nil _)), ?_⟩
          refine DW.done (by kernel_rfl) ?_
          refine Run.seq ?_
          refine Run.region ?_
          refine Run.q (v := .agg #[.int .i64 (ix ks (x1.toNat)), .int .i64 x2, .int .i64 (((x2 + 1) + x4) % (((N : Nat) : Int)))]) rfl (OpQ.y (OpY.loadN (cs := [.int .i64 (ix ks (x1.toNat)), .int .i64 x2, .int .i64 (((x2 + 1) + x4) % (((N : Nat) : Int)))]) Tagg_71 rfl (Cells.blk (.tail _ (List.Mem.head _)) ⟨rfl, rfl, rfl, trivial⟩))) ?_
          refine Run.step rfl (OpStep.storeAll (us := [.int .i64 (ix ks (x1.toNat)), .int .i64 x2, .int .i64 (((x2 + 1) + x4) % (((N : Nat) : Int)))]) Tsize_71 rfl rfl rfl (.there _ (.there _ (.here _))) rfl ?_)
          refine Run.done ?_
          refine Run.ret ?_
          refine ⟨.agg #[.int .i64 (ix ks (x1.toNat)), .int .i64 x2, .int .i64 (((x2 + 1) + x4) % (((N : Nat) : Int)))], [.blk bc 84 [vc, .int .i64 (((s4.1 : Nat) : Int)), .int .u64 (s4.2)], .own (.slice (some ⟨gk, 0, none⟩) m ck) 3 1 m (ints ks)], Out.cell1 (cs := [.int .i64 (ix ks (x1.toNat)), .int .i64 x2, .int .i64 (((x2 + 1) + x4) % (((N : Nat) : Int)))]) rfl Tagg_71 rfl (Cells.blk (.tail _ (.tail _ (List.Mem.head _))) ⟨rfl, rfl, rfl, trivial⟩), (Some'.weak (.take (.skip (.skip (.take (.nil _)))))), ?_⟩
          exact ⟨_, _, _, _, by omega, rfl, rfl⟩
    · have p26 := h26; try simp only [bs] at p26
      refine Run.skip ?_
      refine Run.seq ?_
      refine Run.region ?_
      refine Run.q (v := .agg #[.int .i64 (ix ks (x1.toNat)), .int .i64 x2, .int .i64 0]) rfl (OpQ.y (OpY.loadN (cs := [.int .i64 (ix ks (x1.toNat)), .int .i64 x2, .int .i64 0]) Tagg_71 rfl (Cells.blk (.tail _ (List.Mem.head _)) ⟨rfl, rfl, rfl, trivial⟩))) ?_
      refine Run.step rfl (OpStep.storeAll (us := [.int .i64 (ix ks (x1.toNat)), .int .i64 x2, .int .i64 0]) Tsize_71 rfl rfl rfl (.there _ (.there _ (.here _))) rfl ?_)
      refine Run.done ?_
      refine Run.ret ?_
      refine ⟨.agg #[.int .i64 (ix ks (x1.toNat)), .int .i64 x2, .int .i64 0], [.blk bc 84 [vc, .int .i64 (((s2.1 : Nat) : Int)), .int .u64 (s2.2)], .own (.slice (some ⟨gk, 0, none⟩) m ck) 3 1 m (ints ks)], Out.cell1 (cs := [.int .i64 (ix ks (x1.toNat)), .int .i64 x2, .int .i64 0]) rfl Tagg_71 rfl (Cells.blk (.tail _ (.tail _ (List.Mem.head _))) ⟨rfl, rfl, rfl, trivial⟩), (Some'.weak (.take (.skip (.skip (.take (.nil _)))))), ?_⟩
      exact ⟨_, _, _, _, by omega, rfl, rfl⟩

set_option maxHeartbeats 1000000 in
set_option maxRecDepth 20000 in
theorem built_spec {N m K : Nat} {vk : Value} {ks : List Int} {bc n : Nat} {vc : Value} {cs : List Int} {s : Nat × Int} {w : World} (hN : 1 ≤ N ∧ N ≤ 6) (hK : K ≤ 100) (hat : s.1 < 2305843009212000000) (hc : Cur w bc vc n cs) (hm : 0 < m ∧ m ≤ 100) (hoff : 0 < n → ∀ k, vc.ownBlock = some k → vk.ownBlock ≠ some k) (hst : St (Of [.blk bc 84 [vc, .int .i64 (((s.1 : Nat) : Int)), .int .u64 (s.2)], .own vk 3 1 m (ints ks)]) w w [.blk bc 84 [vc, .int .i64 (((s.1 : Nat) : Int)), .int .u64 (s.2)], .own vk 3 1 m (ints ks)]) : Calls Try.prog 128 #[.pointer (some ⟨bc, 0, none⟩), .int .i64 (N : Nat), .int .i64 (K : Nat), vk] w (Post (Of [.blk bc 84 [vc, .int .i64 (((s.1 : Nat) : Int)), .int .u64 (s.2)], .own vk 3 1 m (ints ks)]) w fun v H => ∃ (u : Value) (g : Nat) (gx : List Int) (s1 : Nat × Int), (g ≤ K ∧ s1.1 ≤ s.1 + 2 + 10 * K) ∧ v = .agg #[.int .i64 (N : Nat), u] ∧ H = [.own u 71 3 g (ints gx), .blk bc 84 [vc, .int .i64 (s1.1 : Nat), .int .u64 s1.2], .own vk 3 1 m (ints ks)]) := by
  refine enter (n := 31) (args := [.pointer (some ⟨bc, 0, none⟩), .int .i64 (((N : Nat) : Int)), .int .i64 (((K : Nat) : Int)), vk]) Try.func128 rfl rfl (hst) ?_
  refine Run.seq ?_
  refine Run.region ?_
  refine Run.step rfl (OpStep.alloc (zs := [.int .i64 0, .slice none 0 0]) Tzero_38 fun b1 => ?_)
  refine Run.done ?_
  refine Run.seq ?_
  refine Run.region ?_
  refine Run.q (v := .int .i64 (((N : Nat) : Int))) rfl (OpQ.y (OpY.pure rfl)) ?_
  refine Run.q (v := .agg #[.int .i64 (((N : Nat) : Int)), .slice none 0 0]) rfl (OpQ.y (OpY.build (cs := [.int .i64 (((N : Nat) : Int)), .slice none 0 0]) (by kernel_rfl))) ?_
  refine Run.step rfl (OpStep.alloc (zs := [.int .i64 0, .slice none 0 0]) Tzero_38 fun b2 => ?_)
  refine Run.step rfl (OpStep.storeAll (us := [.int .i64 (((N : Nat) : Int)), .slice none 0 0]) Tsize_38 rfl rfl rfl (.here _) rfl ?_)
  refine Run.done ?_
  refine Run.seq ?_
  refine Run.seq ?_
  refine Run.region ?_
  refine Run.q (v := .pointer (some ⟨bc, 0, none⟩)) rfl (OpQ.y (OpY.pure rfl)) ?_
  refine Run.q (v := .int .i64 (((K : Nat) : Int))) rfl (OpQ.y (OpY.pure rfl)) ?_
  refine Run.q (v := .int .i64 (((K + 1 : Nat) : Int))) rfl (OpQ.y (OpY.add rfl rfl (by omega) (by omega) (by omega))) ?_
  refine Run.step rfl (OpStep.callM (H1 := [.blk bc 84 [vc, .int .i64 (((s.1 : Nat) : Int)), .int .u64 (s.2)]]) (H2 := [.blk b2 38 [.int .i64 (((N : Nat) : Int)), .slice none 0 0], .blk b1 38 [.int .i64 0, .slice none 0 0], .own vk 3 1 m (ints ks)]) (vs := [.pointer (some ⟨bc, 0, none⟩), .int .i64 (((K + 1 : Nat) : Int))]) (caps := []) Tcall_64 rfl rfl (Weak.front [.blk b2 38 [.int .i64 (((N : Nat) : Int)), .slice none 0 0], .blk b1 38 [.int .i64 0, .slice none 0 0]] (.blk bc 84 [vc, .int .i64 (((s.1 : Nat) : Int)), .int .u64 (s.2)]) [.own vk 3 1 m (ints ks)]) (fun w hs => pick_ex (by omega) (Cur.go2 hc hoff hs) (hs.sub (List.sublist_append_left _ _)).self) ?_)
  rintro _ _ ⟨x1, s1, hx1, hs1, rfl, rfl⟩
  show Run _ _ (putF _ _ _ (.int .i64 x1)) [.blk bc 84 [vc, .int .i64 (((s1.1 : Nat) : Int)), .int .u64 (s1.2)], .blk b2 38 [.int .i64 (((N : Nat) : Int)), .slice none 0 0], .blk b1 38 [.int .i64 0, .slice none 0 0], .own vk 3 1 m (ints ks)]
  refine Run.q (v := .int .i64 x1) rfl (OpQ.y (OpY.pure rfl)) ?_
  refine Run.done ?_
  obtain ⟨i0, hi0⟩ : ∃ i0 : Nat, x1 = ((i0 : Nat) : Int) := ⟨(x1).toNat, by omega⟩
  rw [hi0]
  refine Run.weak (H' := [.own (.slice none 0 0) 71 3 0 ([]), .blk bc 84 [vc, .int .i64 (((s1.1 : Nat) : Int)), .int .u64 (s1.2)], .blk b2 38 [.int .i64 (((N : Nat) : Int)), .slice none 0 0], .blk b1 38 [.int .i64 0, .slice none 0 0], .own vk 3 1 m (ints ks)]) (Weak.nilOwn _ _) ?_ ⟨_, _, rfl, fun _ => nofun, fun _ => nofun⟩
  refine Run.block ?_
  refine Run.loop (ι := Nat × (Nat × Int) × Nat × List Int × Value) [10, 17, 18, 19, 20, 21, 22, 23, 24, 25, 26, 27, 28, 29] (fun ⟨i, sc, g, gx, vg⟩ => [(10, .int .i64 (((i : Nat) : Int)))]) (fun ⟨i, sc, g, gx, vg⟩ => [.own vg 71 3 g (ints gx), .own vk 3 1 m (ints ks), .blk b2 38 [.int .i64 (((N : Nat) : Int)), vg], .blk b1 38 [.int .i64 0, .slice none 0 0], .blk bc 84 [vc, .int .i64 (((sc.1 : Nat) : Int)), .int .u64 (sc.2)]]) (fun ⟨i, sc, g, gx, vg⟩ => g + i ≤ K ∧ sc.1 + 10 * i ≤ s.1 + 2 + 10 * K) (fun ⟨i, sc, g, gx, vg⟩ => i) (i0, s1, 0, [], .slice none 0 0) ?_ ?_ ?_ ?_
  · exact ⟨by omega, by omega⟩
  · exact ⟨rfl, trivial⟩
  · exact ((((((Weak.front [.own (.slice none 0 0) 71 3 0 ([])] (.blk bc 84 [vc, .int .i64 (((s1.1 : Nat) : Int)), .int .u64 (s1.2)]) [.blk b2 38 [.int .i64 (((N : Nat) : Int)), .slice none 0 0], .blk b1 38 [.int .i64 0, .slice none 0 0], .own vk 3 1 m (ints ks)]).trans (Weak.front [.blk bc 84 [vc, .int .i64 (((s1.1 : Nat) : Int)), .int .u64 (s1.2)], .own (.slice none 0 0) 71 3 0 ([]), .blk b2 38 [.int .i64 (((N : Nat) : Int)), .slice none 0 0]] (.blk b1 38 [.int .i64 0, .slice none 0 0]) [.own vk 3 1 m (ints ks)])).trans (Weak.front [.blk b1 38 [.int .i64 0, .slice none 0 0], .blk bc 84 [vc, .int .i64 (((s1.1 : Nat) : Int)), .int .u64 (s1.2)], .own (.slice none 0 0) 71 3 0 ([])] (.blk b2 38 [.int .i64 (((N : Nat) : Int)), .slice none 0 0]) [.own vk 3 1 m (ints ks)])).trans (Weak.front [.blk b2 38 [.int .i64 (((N : Nat) : Int)), .slice none 0 0], .blk b1 38 [.int .i64 0, .slice none 0 0], .blk bc 84 [vc, .int .i64 (((s1.1 : Nat) : Int)), .int .u64 (s1.2)], .own (.slice none 0 0) 71 3 0 ([])] (.own vk 3 1 m (ints ks)) [])).trans (Weak.front [.own vk 3 1 m (ints ks), .blk b2 38 [.int .i64 (((N : Nat) : Int)), .slice none 0 0], .blk b1 38 [.int .i64 0, .slice none 0 0], .blk bc 84 [vc, .int .i64 (((s1.1 : Nat) : Int)), .int .u64 (s1.2)]] (.own (.slice none 0 0) 71 3 0 ([])) [])).trans (Some'.weak (.takeEq (by first | rfl | simp [ints]) (.take (.takeEq (by first | rfl | simp [ints]) (.take (.takeEq (by first | rfl | simp [ints]) (.nil _))))))))
  · rintro ⟨i, sc, g, gx, vg⟩ fr hinv
    show Run _ _ (over _ _ [(10, .int .i64 (((i : Nat) : Int)))] fr) [.own vg 71 3 g (ints gx), .own vk 3 1 m (ints ks), .blk b2 38 [.int .i64 (((N : Nat) : Int)), vg], .blk b1 38 [.int .i64 0, .slice none 0 0], .blk bc 84 [vc, .int .i64 (((sc.1 : Nat) : Int)), .int .u64 (sc.2)]]
    try dsimp only at hinv
    obtain ⟨hgi, hsi⟩ := hinv
    refine Run.seq ?_
    refine Run.seq ?_
    refine Run.region ?_
    refine Run.q (v := .int .i64 (((i : Nat) : Int))) rfl (OpQ.y (OpY.pure rfl)) ?_
    refine Run.q (v := .bool (decide ((((i : Nat) : Int)) > 0))) rfl (OpQ.y (OpY.pure rfl)) ?_
    refine Run.done ?_
    refine Run.cond (b := decide ((((i : Nat) : Int)) > 0)) rfl (fun h18 => ?_) (fun h18 => ?_)
    · have p18 := h18; try simp only [bs] at p18
      refine Run.skip ?_
      refine Run.seq ?_
      refine Run.block ?_
      refine Run.lastlyB [9] [.blk b2 38 [.int .i64 (((N : Nat) : Int)), vg], .blk b1 38 [.int .i64 0, .slice none 0 0]] (by kernel_rfl) ?_
      refine DL.takeP (i := 0) (v := .pointer (some ⟨b2, 1, none⟩)) rfl (by kernel_rfl) (by kernel_rfl) (by kernel_rfl) (fun _ _ _ h => h) rfl (fun _ => OpY.fieldAddr Tfo_38_1 rfl rfl) ?_
      refine DL.take (i := 1) (v := vg) rfl (by kernel_rfl) (by kernel_rfl) (by kernel_rfl) (by kernel_rfl) (fun _ _ _ h => h) (Some'.weak (.skip (.skip (.take (.take (.nil _)))))) rfl (OpY.load1 Tone_36 rfl (Cells.blk (.head _) ⟨rfl, trivial⟩)) ?_
      refine DL.takeP (i := 2) (v := .pointer (some ⟨bc, 0, none⟩)) rfl (by kernel_rfl) (by kernel_rfl) (by kernel_rfl) (fun _ _ _ h => h) rfl (fun _ => OpY.pure rfl) ?_
      refine DL.takeP (i := 3) (v := .int .i64 (((N : Nat) : Int))) rfl (by kernel_rfl) (by kernel_rfl) (by kernel_rfl) (fun _ _ _ h => h) rfl (fun _ => OpY.pure rfl) ?_
      refine DL.takeP (i := 4) (v := vk) rfl (by kernel_rfl) (by kernel_rfl) (by kernel_rfl) (fun _ _ _ h => h) rfl (fun _ => OpY.pure rfl) ?_
      refine DL.stepS (i := 5) (by kernel_rfl) rfl rfl (OpStep.callM (H1 := [.blk bc 84 [vc, .int .i64 (((sc.1 : Nat) : Int)), .int .u64 (sc.2)], .own vk 3 1 m (ints ks)]) (H2 := [.own vg 71 3 g (ints gx), .blk b2 38 [.int .i64 (((N : Nat) : Int)), vg], .blk b1 38 [.int .i64 0, .slice none 0 0]]) (vs := [.pointer (some ⟨bc, 0, none⟩), .int .i64 (((N : Nat) : Int)), vk]) (caps := []) Tcall_134 rfl rfl ((Weak.front [.own vg 71 3 g (ints gx)] (.own vk 3 1 m (ints ks)) [.blk b2 38 [.int .i64 (((N : Nat) : Int)), vg], .blk b1 38 [.int .i64 0, .slice none 0 0], .blk bc 84 [vc, .int .i64 (((sc.1 : Nat) : Int)), .int .u64 (sc.2)]]).trans (Weak.front [.own vk 3 1 m (ints ks), .own vg 71 3 g (ints gx), .blk b2 38 [.int .i64 (((N : Nat) : Int)), vg], .blk b1 38 [.int .i64 0, .slice none 0 0]] (.blk bc 84 [vc, .int .i64 (((sc.1 : Nat) : Int)), .int .u64 (sc.2)]) [])) (fun w hs => gate_spec hN (by omega) (Cur.go2 hc hoff hs) hm hoff (hs.sub (List.sublist_append_left _ _)).self) ?_)
      rintro _ _ ⟨k1, a1, b3, s2, hs2, rfl, rfl⟩
      refine ⟨(Some'.weak (.skip (.skip (.skip (.take (.take (.nil _))))))), ?_⟩
      refine DL.stepS (i := 6) (by kernel_rfl) rfl rfl (OpStep.buildSlice (us := [.int .i64 k1, .int .i64 a1, .int .i64 b3]) Tsl_36 (by decide) (by decide) ⟨rfl, [.int .i64 k1, .int .i64 a1, .int .i64 b3], _, rfl, rfl, rfl, rfl⟩ rfl fun b4 => ?_)
      refine ⟨(Some'.weak (.skip (.skip (.skip (.skip (.take (.take (.nil _)))))))), ?_⟩
      refine DL.stepS (i := 7) (by kernel_rfl) rfl rfl (OpStep.append (H1 := [.own (.slice (some ⟨b4, 0, none⟩) 1 1) 71 3 1 ([.int .i64 k1, .int .i64 a1, .int .i64 b3]), .blk bc 84 [vc, .int .i64 (((s2.1 : Nat) : Int)), .int .u64 (s2.2)], .own vk 3 1 m (ints ks)]) (H2 := [.blk b2 38 [.int .i64 (((N : Nat) : Int)), vg], .blk b1 38 [.int .i64 0, .slice none 0 0]]) (v := vg) (u := .slice (some ⟨b4, 0, none⟩) 1 1) (n := g) (m := 1) (xs := ints gx) (ys := [.int .i64 k1, .int .i64 a1, .int .i64 b3]) Tsl_36 (by decide) rfl rfl rfl rfl (fun w hs => hs.slOwn (.head _)) (by simp [Value.oneCell']) (by omega) (by simp only [maxLen]; omega) fun av1 hnav1 => ?_)
      refine DL.weakS (H' := [.own (.slice (some ⟨b4, 0, none⟩) 1 1) 71 3 1 ([.int .i64 k1, .int .i64 a1, .int .i64 b3]), .blk bc 84 [vc, .int .i64 (((s2.1 : Nat) : Int)), .int .u64 (s2.2)], .own vk 3 1 m (ints ks), .own av1 71 3 (g + 1) (ints (gx ++ [k1, a1, b3])), .blk b2 38 [.int .i64 (((N : Nat) : Int)), vg], .blk b1 38 [.int .i64 0, .slice none 0 0]]) (Some'.weak (.take (.take (.take (.takeEq (by simp [ints]) (.take (.take (.nil _)))))))) ?_
      refine ⟨(Some'.weak (.skip (.skip (.skip (.skip (.take (.take (.nil _)))))))), ?_⟩
      refine DL.takeP (i := 8) (v := .pointer (some ⟨b2, 1, none⟩)) rfl (by kernel_rfl) (by kernel_rfl) (by kernel_rfl) (fun _ _ _ h => h) rfl (fun _ => OpY.fieldAddr Tfo_38_1 rfl rfl) ?_
      refine DL.formOwn (.tail _ (.tail _ (.tail _ (List.Mem.head _)))) (fun A_av11 c_av11 hv hcapc_av11 hmaxc_av11 => ?_)
      subst hv
      refine DL.step (i := 9) (by kernel_rfl) (by kernel_rfl) rfl rfl (OpStep.store (us := [.slice A_av11 (g + 1) c_av11]) Tsize_36 rfl rfl rfl (.there _ (.there _ (.there _ (.there _ (.here _))))) (by simp only [List.length_cons, List.length_nil]; omega) ?_)
      show DL _ _ _ _ _ _ _ _ [.own (.slice (some ⟨b4, 0, none⟩) 1 1) 71 3 1 ([.int .i64 k1, .int .i64 a1, .int .i64 b3]), .blk bc 84 [vc, .int .i64 (((s2.1 : Nat) : Int)), .int .u64 (s2.2)], .own vk 3 1 m (ints ks), .own (.slice A_av11 (g + 1) c_av11) 71 3 (g + 1) (ints (gx ++ [k1, a1, b3])), .blk b2 38 [.int .i64 (((N : Nat) : Int)), .slice A_av11 (g + 1) c_av11], .blk b1 38 [.int .i64 0, .slice none 0 0]]
      refine DL.done (by kernel_rfl) ?_
      refine Run.blockEnd ?_
      refine Run.region ?_
      refine Run.q (v := .int .i64 (((i : Nat) : Int))) rfl (OpQ.y (OpY.pure rfl)) ?_
      refine Run.q (v := .int .i64 (((i - 1 : Nat) : Int))) rfl (OpQ.y (OpY.sub rfl rfl (by omega) (by omega) (by omega))) ?_
      refine Run.q (v := .int .i64 (((i - 1 : Nat) : Int))) rfl (OpQ.y (OpY.pure rfl)) ?_
      refine Run.done ?_
      refine Run.goal ⟨(by repeat (first | exact Same.refl _ _ | refine Same.put rfl ?_ | refine Same.over rfl rfl ?_)), (i - 1, s2, g + 1, (gx ++ [k1, a1, b3]), .slice A_av11 (g + 1) c_av11), ?_, ?_, ?_, ?_⟩
      · exact ⟨by omega, by omega⟩
      · show i - 1 < i; omega
      · exact ⟨(by first | rfl | (congr 1; omega) | simp), trivial⟩
      · exact ((((((Weak.front [.own (.slice (some ⟨b4, 0, none⟩) 1 1) 71 3 1 ([.int .i64 k1, .int .i64 a1, .int .i64 b3])] (.blk bc 84 [vc, .int .i64 (((s2.1 : Nat) : Int)), .int .u64 (s2.2)]) [.own vk 3 1 m (ints ks), .own (.slice A_av11 (g + 1) c_av11) 71 3 (g + 1) (ints (gx ++ [k1, a1, b3])), .blk b2 38 [.int .i64 (((N : Nat) : Int)), .slice A_av11 (g + 1) c_av11], .blk b1 38 [.int .i64 0, .slice none 0 0]]).trans (Weak.front [.blk bc 84 [vc, .int .i64 (((s2.1 : Nat) : Int)), .int .u64 (s2.2)], .own (.slice (some ⟨b4, 0, none⟩) 1 1) 71 3 1 ([.int .i64 k1, .int .i64 a1, .int .i64 b3]), .own vk 3 1 m (ints ks), .own (.slice A_av11 (g + 1) c_av11) 71 3 (g + 1) (ints (gx ++ [k1, a1, b3])), .blk b2 38 [.int .i64 (((N : Nat) : Int)), .slice A_av11 (g + 1) c_av11]] (.blk b1 38 [.int .i64 0, .slice none 0 0]) [])).trans (Weak.front [.blk b1 38 [.int .i64 0, .slice none 0 0], .blk bc 84 [vc, .int .i64 (((s2.1 : Nat) : Int)), .int .u64 (s2.2)], .own (.slice (some ⟨b4, 0, none⟩) 1 1) 71 3 1 ([.int .i64 k1, .int .i64 a1, .int .i64 b3]), .own vk 3 1 m (ints ks), .own (.slice A_av11 (g + 1) c_av11) 71 3 (g + 1) (ints (gx ++ [k1, a1, b3]))] (.blk b2 38 [.int .i64 (((N : Nat) : Int)), .slice A_av11 (g + 1) c_av11]) [])).trans (Weak.front [.blk b2 38 [.int .i64 (((N : Nat) : Int)), .slice A_av11 (g + 1) c_av11], .blk b1 38 [.int .i64 0, .slice none 0 0], .blk bc 84 [vc, .int .i64 (((s2.1 : Nat) : Int)), .int .u64 (s2.2)], .own (.slice (some ⟨b4, 0, none⟩) 1 1) 71 3 1 ([.int .i64 k1, .int .i64 a1, .int .i64 b3])] (.own vk 3 1 m (ints ks)) [.own (.slice A_av11 (g + 1) c_av11) 71 3 (g + 1) (ints (gx ++ [k1, a1, b3]))])).trans (Weak.front [.own vk 3 1 m (ints ks), .blk b2 38 [.int .i64 (((N : Nat) : Int)), .slice A_av11 (g + 1) c_av11], .blk b1 38 [.int .i64 0, .slice none 0 0], .blk bc 84 [vc, .int .i64 (((s2.1 : Nat) : Int)), .int .u64 (s2.2)], .own (.slice (some ⟨b4, 0, none⟩) 1 1) 71 3 1 ([.int .i64 k1, .int .i64 a1, .int .i64 b3])] (.own (.slice A_av11 (g + 1) c_av11) 71 3 (g + 1) (ints (gx ++ [k1, a1, b3]))) [])).trans (Some'.weak (.takeEq (by first | rfl | simp [ints]) (.takeEq (by first | rfl | simp [ints]) (.takeEq (by first | rfl | simp [ints]) (.take (.takeEq (by first | rfl | simp [ints]) (.nil _))))))))
    · have p18 := h18; try simp only [bs] at p18
      refine Run.exit rfl ?_
      refine Run.seq ?_
      refine Run.region ?_
      refine Run.q (v := .agg #[.int .i64 (((N : Nat) : Int)), vg]) rfl (OpQ.y (OpY.loadN (cs := [.int .i64 (((N : Nat) : Int)), vg]) Tagg_38 rfl (Cells.blk (.tail _ (.tail _ (List.Mem.head _))) ⟨rfl, rfl, trivial⟩))) ?_
      refine Run.formOwn (.head _) (fun A_vg1 c_vg1 hv hcapc_vg1 hmaxc_vg1 => ?_) (fun _ _ _ => ⟨nofun, nofun, nofun⟩)
      subst hv
      refine Run.step rfl (OpStep.storeAll (us := [.int .i64 (((N : Nat) : Int)), .slice A_vg1 g c_vg1]) Tsize_38 rfl rfl rfl (.there _ (.there _ (.there _ (.here _)))) rfl ?_)
      refine Run.done ?_
      refine Run.ret ?_
      refine ⟨.agg #[.int .i64 (((N : Nat) : Int)), .slice A_vg1 g c_vg1], [.own (.slice A_vg1 g c_vg1) 71 3 g (ints gx), .blk bc 84 [vc, .int .i64 (((sc.1 : Nat) : Int)), .int .u64 (sc.2)], .own vk 3 1 m (ints ks)], Out.cell1 (cs := [.int .i64 (((N : Nat) : Int)), .slice A_vg1 g c_vg1]) rfl Tagg_38 rfl (Cells.blk (.tail _ (.tail _ (.tail _ (List.Mem.head _)))) ⟨rfl, rfl, trivial⟩), ((((Weak.front [.own (.slice A_vg1 g c_vg1) 71 3 g (ints gx)] (.own vk 3 1 m (ints ks)) [.blk b2 38 [.int .i64 (((N : Nat) : Int)), .slice A_vg1 g c_vg1], .blk b1 38 [.int .i64 (((N : Nat) : Int)), .slice A_vg1 g c_vg1], .blk bc 84 [vc, .int .i64 (((sc.1 : Nat) : Int)), .int .u64 (sc.2)]]).trans (Weak.front [.own vk 3 1 m (ints ks), .own (.slice A_vg1 g c_vg1) 71 3 g (ints gx), .blk b2 38 [.int .i64 (((N : Nat) : Int)), .slice A_vg1 g c_vg1], .blk b1 38 [.int .i64 (((N : Nat) : Int)), .slice A_vg1 g c_vg1]] (.blk bc 84 [vc, .int .i64 (((sc.1 : Nat) : Int)), .int .u64 (sc.2)]) [])).trans (Weak.front [.blk bc 84 [vc, .int .i64 (((sc.1 : Nat) : Int)), .int .u64 (sc.2)], .own vk 3 1 m (ints ks)] (.own (.slice A_vg1 g c_vg1) 71 3 g (ints gx)) [.blk b2 38 [.int .i64 (((N : Nat) : Int)), .slice A_vg1 g c_vg1], .blk b1 38 [.int .i64 (((N : Nat) : Int)), .slice A_vg1 g c_vg1]])).trans (Some'.weak (.take (.take (.take (.nil _)))))), ?_⟩
      exact ⟨_, _, _, _, ⟨by omega, by omega⟩, rfl, rfl⟩

set_option maxHeartbeats 1000000 in
set_option maxRecDepth 20000 in
theorem circuit_spec {bc n : Nat} {vc : Value} {cs : List Int} {s : Nat × Int} {w : World} (hat : s.1 < 2305843009211000000) (hc : Cur w bc vc n cs) (hst : St (Of [.blk bc 84 [vc, .int .i64 (((s.1 : Nat) : Int)), .int .u64 (s.2)]]) w w [.blk bc 84 [vc, .int .i64 (((s.1 : Nat) : Int)), .int .u64 (s.2)]]) : Calls Try.prog 104 #[.pointer (some ⟨bc, 0, none⟩)] w (Post (Of [.blk bc 84 [vc, .int .i64 (((s.1 : Nat) : Int)), .int .u64 (s.2)]]) w fun v H => ∃ (Q : Int) (u : Value) (g : Nat) (gx : List Int) (s1 : Nat × Int), (g ≤ 8 ∧ s1.1 ≤ s.1 + 100) ∧ v = .agg #[.int .i64 Q, u] ∧ H = [.own u 71 3 g (ints gx), .blk bc 84 [vc, .int .i64 (s1.1 : Nat), .int .u64 s1.2]]) := by
  refine enter (n := 9) (args := [.pointer (some ⟨bc, 0, none⟩)]) Try.func104 rfl rfl (hst) ?_
  refine Run.seq ?_
  refine Run.region ?_
  refine Run.step rfl (OpStep.alloc (zs := [.int .i64 0, .slice none 0 0]) Tzero_38 fun b1 => ?_)
  refine Run.done ?_
  refine Run.seq ?_
  refine Run.region ?_
  refine Run.q (v := .pointer (some ⟨bc, 0, none⟩)) rfl (OpQ.y (OpY.pure rfl)) ?_
  refine Run.q (v := .pointer (some ⟨bc, 0, none⟩)) rfl (OpQ.y (OpY.pure rfl)) ?_
  refine Run.step rfl (OpStep.buildSlice (us := [.int .i64 1, .int .i64 2, .int .i64 2, .int .i64 3]) Tsl_22 (by decide) (by decide) ⟨rfl, [.int .i64 1], _, rfl, rfl, rfl, ⟨rfl, [.int .i64 2], _, rfl, rfl, rfl, ⟨rfl, [.int .i64 2], _, rfl, rfl, rfl, ⟨rfl, [.int .i64 3], _, rfl, rfl, rfl, rfl⟩⟩⟩⟩ rfl fun b2 => ?_)
  refine Run.step rfl (OpStep.callM (H1 := [.blk bc 84 [vc, .int .i64 (((s.1 : Nat) : Int)), .int .u64 (s.2)], .own (.slice (some ⟨b2, 0, none⟩) 4 4) 3 1 4 (ints [1, 2, 2, 3])]) (H2 := [.blk b1 38 [.int .i64 0, .slice none 0 0]]) (vs := [.pointer (some ⟨bc, 0, none⟩), .slice (some ⟨b2, 0, none⟩) 4 4]) (caps := []) Tcall_65 rfl rfl (Weak.front [.own (.slice (some ⟨b2, 0, none⟩) 4 4) 3 1 4 ([.int .i64 1, .int .i64 2, .int .i64 2, .int .i64 3]), .blk b1 38 [.int .i64 0, .slice none 0 0]] (.blk bc 84 [vc, .int .i64 (((s.1 : Nat) : Int)), .int .u64 (s.2)]) []) (fun w hs => among_spec (by omega) (by decide) (hc.go hs) (hc.apart hs (.tail _ (.head _))) (hs.sub (List.sublist_append_left _ _)).self) ?_)
  rintro _ _ ⟨i1, s1, hi1, hs1, rfl, rfl⟩
  show Run _ _ (putF _ _ _ (.int .i64 (ix [1, 2, 2, 3] i1))) [.blk bc 84 [vc, .int .i64 (((s1.1 : Nat) : Int)), .int .u64 (s1.2)], .blk b1 38 [.int .i64 0, .slice none 0 0]]
  have hixi1 : 1 ≤ ix [1, 2, 2, 3] i1 ∧ ix [1, 2, 2, 3] i1 ≤ 3 := by
    rcases (by omega : i1 = 0 ∨ i1 = 1 ∨ i1 = 2 ∨ i1 = 3) with rfl | rfl | rfl | rfl <;> simp [ix]
  refine Run.step rfl (OpStep.buildSlice (us := [.int .i64 1, .int .i64 2, .int .i64 3, .int .i64 4, .int .i64 5, .int .i64 6, .int .i64 7, .int .i64 8, .int .i64 9, .int .i64 9, .int .i64 10, .int .i64 11, .int .i64 12, .int .i64 7, .int .i64 1]) Tsl_22 (by decide) (by decide) ⟨rfl, [.int .i64 1], _, rfl, rfl, rfl, ⟨rfl, [.int .i64 2], _, rfl, rfl, rfl, ⟨rfl, [.int .i64 3], _, rfl, rfl, rfl, ⟨rfl, [.int .i64 4], _, rfl, rfl, rfl, ⟨rfl, [.int .i64 5], _, rfl, rfl, rfl, ⟨rfl, [.int .i64 6], _, rfl, rfl, rfl, ⟨rfl, [.int .i64 7], _, rfl, rfl, rfl, ⟨rfl, [.int .i64 8], _, rfl, rfl, rfl, ⟨rfl, [.int .i64 9], _, rfl, rfl, rfl, ⟨rfl, [.int .i64 9], _, rfl, rfl, rfl, ⟨rfl, [.int .i64 10], _, rfl, rfl, rfl, ⟨rfl, [.int .i64 11], _, rfl, rfl, rfl, ⟨rfl, [.int .i64 12], _, rfl, rfl, rfl, ⟨rfl, [.int .i64 7], _, rfl, rfl, rfl, ⟨rfl, [.int .i64 1], _, rfl, rfl, rfl, rfl⟩⟩⟩⟩⟩⟩⟩⟩⟩⟩⟩⟩⟩⟩⟩ rfl fun b3 => ?_)
  obtain ⟨N0, hN0⟩ : ∃ N0 : Nat, ix [1, 2, 2, 3] i1 = ((N0 : Nat) : Int) := ⟨(ix [1, 2, 2, 3] i1).toNat, by omega⟩
  rw [hN0]
  refine Run.step rfl (OpStep.callM (H1 := [.blk bc 84 [vc, .int .i64 (((s1.1 : Nat) : Int)), .int .u64 (s1.2)], .own (.slice (some ⟨b3, 0, none⟩) 15 15) 3 1 15 (ints [1, 2, 3, 4, 5, 6, 7, 8, 9, 9, 10, 11, 12, 7, 1])]) (H2 := [.blk b1 38 [.int .i64 0, .slice none 0 0]]) (vs := [.pointer (some ⟨bc, 0, none⟩), .int .i64 (((N0 : Nat) : Int)), .int .i64 8, .slice (some ⟨b3, 0, none⟩) 15 15]) (caps := []) Tcall_128 rfl rfl (Weak.front [.own (.slice (some ⟨b3, 0, none⟩) 15 15) 3 1 15 ([.int .i64 1, .int .i64 2, .int .i64 3, .int .i64 4, .int .i64 5, .int .i64 6, .int .i64 7, .int .i64 8, .int .i64 9, .int .i64 9, .int .i64 10, .int .i64 11, .int .i64 12, .int .i64 7, .int .i64 1])] (.blk bc 84 [vc, .int .i64 (((s1.1 : Nat) : Int)), .int .u64 (s1.2)]) [.blk b1 38 [.int .i64 0, .slice none 0 0]]) (fun w hs => built_spec (K := 8) (by omega) (by decide) (by omega) (hc.go hs) (by decide) (hc.apart hs (.tail _ (.head _))) (hs.sub (List.sublist_append_left _ _)).self) ?_)
  rintro _ _ ⟨u, g, gx, s8, ⟨hg8, hs8⟩, rfl, rfl⟩
  show Run _ _ (putF _ _ _ (.agg #[.int .i64 (((N0 : Nat) : Int)), u])) [.own u 71 3 g (ints gx), .blk bc 84 [vc, .int .i64 (((s8.1 : Nat) : Int)), .int .u64 (s8.2)], .own (.slice (some ⟨b3, 0, none⟩) 15 15) 3 1 15 (ints [1, 2, 3, 4, 5, 6, 7, 8, 9, 9, 10, 11, 12, 7, 1]), .blk b1 38 [.int .i64 0, .slice none 0 0]]
  refine Run.formOwn (.head _) (fun A_u1 c_u1 hv hcapc_u1 hmaxc_u1 => ?_) (fun _ _ _ => ⟨nofun, nofun, nofun⟩)
  subst hv
  refine Run.step rfl (OpStep.storeAll (us := [.int .i64 (((N0 : Nat) : Int)), .slice A_u1 g c_u1]) Tsize_38 rfl rfl rfl (.there _ (.there _ (.there _ (.here _)))) rfl ?_)
  refine Run.done ?_
  refine Run.ret ?_
  refine ⟨.agg #[.int .i64 (((N0 : Nat) : Int)), .slice A_u1 g c_u1], [.own (.slice A_u1 g c_u1) 71 3 g (ints gx), .blk bc 84 [vc, .int .i64 (((s8.1 : Nat) : Int)), .int .u64 (s8.2)]], Out.cell1 (cs := [.int .i64 (((N0 : Nat) : Int)), .slice A_u1 g c_u1]) rfl Tagg_38 rfl (Cells.blk (.tail _ (.tail _ (.tail _ (List.Mem.head _)))) ⟨rfl, rfl, trivial⟩), (Some'.weak (.take (.take (.nil _)))), ?_⟩
  exact ⟨_, _, _, _, _, ⟨by omega, by omega⟩, rfl, rfl⟩

set_option maxHeartbeats 1000000 in
set_option maxRecDepth 20000 in
theorem anyCircuit_spec {bc n : Nat} {vc : Value} {cs : List Int} {s : Nat × Int} {w : World} (hat : s.1 < 2305843009210000000) (hc : Cur w bc vc n cs) (hst : St (Of [.blk bc 84 [vc, .int .i64 (((s.1 : Nat) : Int)), .int .u64 (s.2)]]) w w [.blk bc 84 [vc, .int .i64 (((s.1 : Nat) : Int)), .int .u64 (s.2)]]) : Calls Try.prog 63 #[.pointer (some ⟨bc, 0, none⟩)] w (Post (Of [.blk bc 84 [vc, .int .i64 (((s.1 : Nat) : Int)), .int .u64 (s.2)]]) w fun v H => ∃ (Q : Int) (u : Value) (g : Nat) (gx : List Int) (s1 : Nat × Int), (g ≤ 9 ∧ s1.1 ≤ s.1 + 200) ∧ v = .agg #[.int .i64 Q, u] ∧ H = [.own u 71 3 g (ints gx), .blk bc 84 [vc, .int .i64 (s1.1 : Nat), .int .u64 s1.2]]) := by
  refine enter (n := 31) (args := [.pointer (some ⟨bc, 0, none⟩)]) Try.func63 rfl rfl (hst) ?_
  refine Run.seq ?_
  refine Run.region ?_
  refine Run.step rfl (OpStep.alloc (zs := [.int .i64 0, .slice none 0 0]) Tzero_38 fun b1 => ?_)
  refine Run.done ?_
  refine Run.seq ?_
  refine Run.region ?_
  refine Run.q (v := .pointer (some ⟨bc, 0, none⟩)) rfl (OpQ.y (OpY.pure rfl)) ?_
  refine Run.step rfl (OpStep.callM (H1 := [.blk bc 84 [vc, .int .i64 (((s.1 : Nat) : Int)), .int .u64 (s.2)]]) (H2 := [.blk b1 38 [.int .i64 0, .slice none 0 0]]) (vs := [.pointer (some ⟨bc, 0, none⟩)]) (caps := []) Tcall_104 rfl rfl (Weak.front [.blk b1 38 [.int .i64 0, .slice none 0 0]] (.blk bc 84 [vc, .int .i64 (((s.1 : Nat) : Int)), .int .u64 (s.2)]) []) (fun w hs => circuit_spec (by omega) (hc.go hs) (hs.sub (List.sublist_append_left _ _)).self) ?_)
  rintro _ _ ⟨Q, u, g, gx, s8, ⟨hg8, hs8⟩, rfl, rfl⟩
  show Run _ _ (putF _ _ _ (.agg #[.int .i64 Q, u])) [.own u 71 3 g (ints gx), .blk bc 84 [vc, .int .i64 (((s8.1 : Nat) : Int)), .int .u64 (s8.2)], .blk b1 38 [.int .i64 0, .slice none 0 0]]
  refine Run.step rfl (OpStep.alloc (zs := [.int .i64 0, .slice none 0 0]) Tzero_38 fun b2 => ?_)
  refine Run.formOwn (.tail _ (List.Mem.head _)) (fun A_u1 c_u1 hv hcapc_u1 hmaxc_u1 => ?_) (fun _ _ _ => ⟨nofun, nofun, nofun⟩)
  subst hv
  refine Run.step rfl (OpStep.storeAll (us := [.int .i64 Q, .slice A_u1 g c_u1]) Tsize_38 rfl rfl rfl (.here _) rfl ?_)
  refine Run.done ?_
  refine Run.seq ?_
  refine Run.seq ?_
  refine Run.region ?_
  refine Run.q (v := .pointer (some ⟨bc, 0, none⟩)) rfl (OpQ.y (OpY.pure rfl)) ?_
  refine Run.step rfl (OpStep.callM (H1 := [.blk bc 84 [vc, .int .i64 (((s8.1 : Nat) : Int)), .int .u64 (s8.2)]]) (H2 := [.blk b2 38 [.int .i64 Q, .slice A_u1 g c_u1], .own (.slice A_u1 g c_u1) 71 3 g (ints gx), .blk b1 38 [.int .i64 0, .slice none 0 0]]) (vs := [.pointer (some ⟨bc, 0, none⟩), .int .i64 14]) (caps := []) Tcall_64 rfl rfl (Weak.front [.blk b2 38 [.int .i64 Q, .slice A_u1 g c_u1], .own (.slice A_u1 g c_u1) 71 3 g (ints gx)] (.blk bc 84 [vc, .int .i64 (((s8.1 : Nat) : Int)), .int .u64 (s8.2)]) [.blk b1 38 [.int .i64 0, .slice none 0 0]]) (fun w hs => pick_ex (by omega) (hc.go hs) (hs.sub (List.sublist_append_left _ _)).self) ?_)
  rintro _ _ ⟨x1, s1, hx1, hs1, rfl, rfl⟩
  show Run _ _ (putF _ _ _ (.int .i64 x1)) [.blk bc 84 [vc, .int .i64 (((s1.1 : Nat) : Int)), .int .u64 (s1.2)], .blk b2 38 [.int .i64 Q, .slice A_u1 g c_u1], .own (.slice A_u1 g c_u1) 71 3 g (ints gx), .blk b1 38 [.int .i64 0, .slice none 0 0]]
  refine Run.done ?_
  refine Run.block ?_
  refine Run.seq ?_
  refine Run.region ?_
  refine Run.q (v := .bool (x1 == 0)) rfl (OpQ.y (OpY.pure rfl)) ?_
  refine Run.q (v := .bool (x1 == 0)) rfl (OpQ.y (OpY.pure rfl)) ?_
  refine Run.done ?_
  refine Run.cond (b := x1 == 0) rfl (fun h8 => ?_) (fun h8 => ?_)
  · have p8 := h8; try simp only [bs] at p8
    refine Run.region ?_
    refine Run.q (v := .pointer (some ⟨bc, 0, none⟩)) rfl (OpQ.y (OpY.pure rfl)) ?_
    refine Run.step rfl (OpStep.buildSlice (us := [.int .i64 0, .int .i64 1, .int .i64 5, .int .i64 6]) Tsl_22 (by decide) (by decide) ⟨rfl, [.int .i64 0], _, rfl, rfl, rfl, ⟨rfl, [.int .i64 1], _, rfl, rfl, rfl, ⟨rfl, [.int .i64 5], _, rfl, rfl, rfl, ⟨rfl, [.int .i64 6], _, rfl, rfl, rfl, rfl⟩⟩⟩⟩ rfl fun b3 => ?_)
    refine Run.step rfl (OpStep.callM (H1 := [.blk bc 84 [vc, .int .i64 (((s1.1 : Nat) : Int)), .int .u64 (s1.2)], .own (.slice (some ⟨b3, 0, none⟩) 4 4) 3 1 4 (ints [0, 1, 5, 6])]) (H2 := [.blk b2 38 [.int .i64 Q, .slice A_u1 g c_u1], .own (.slice A_u1 g c_u1) 71 3 g (ints gx), .blk b1 38 [.int .i64 0, .slice none 0 0]]) (vs := [.pointer (some ⟨bc, 0, none⟩), .slice (some ⟨b3, 0, none⟩) 4 4]) (caps := []) Tcall_65 rfl rfl (Weak.front [.own (.slice (some ⟨b3, 0, none⟩) 4 4) 3 1 4 ([.int .i64 0, .int .i64 1, .int .i64 5, .int .i64 6])] (.blk bc 84 [vc, .int .i64 (((s1.1 : Nat) : Int)), .int .u64 (s1.2)]) [.blk b2 38 [.int .i64 Q, .slice A_u1 g c_u1], .own (.slice A_u1 g c_u1) 71 3 g (ints gx), .blk b1 38 [.int .i64 0, .slice none 0 0]]) (fun w hs => among_spec (by omega) (by decide) (hc.go hs) (hc.apart hs (.tail _ (.head _))) (hs.sub (List.sublist_append_left _ _)).self) ?_)
    rintro _ _ ⟨i1, s2, hi1, hs2, rfl, rfl⟩
    show Run _ _ (putF _ _ _ (.int .i64 (ix [0, 1, 5, 6] i1))) [.blk bc 84 [vc, .int .i64 (((s2.1 : Nat) : Int)), .int .u64 (s2.2)], .blk b2 38 [.int .i64 Q, .slice A_u1 g c_u1], .own (.slice A_u1 g c_u1) 71 3 g (ints gx), .blk b1 38 [.int .i64 0, .slice none 0 0]]
    have hixi1 : 0 ≤ ix [0, 1, 5, 6] i1 ∧ ix [0, 1, 5, 6] i1 ≤ 6 := by
      rcases (by omega : i1 = 0 ∨ i1 = 1 ∨ i1 = 2 ∨ i1 = 3) with rfl | rfl | rfl | rfl <;> simp [ix]
    refine Run.q (v := .pointer (some ⟨b2, 0, none⟩)) rfl (OpQ.y (OpY.fieldAddr Tfo_38_0 rfl rfl)) ?_
    refine Run.step rfl (OpStep.store (us := [.int .i64 (ix [0, 1, 5, 6] i1)]) Tsize_3 rfl rfl rfl (.there _ (.here _)) (by simp only [List.length_cons, List.length_nil]; omega) ?_)
    show Run _ _ _ [.blk bc 84 [vc, .int .i64 (((s2.1 : Nat) : Int)), .int .u64 (s2.2)], .blk b2 38 [.int .i64 (ix [0, 1, 5, 6] i1), .slice A_u1 g c_u1], .own (.slice A_u1 g c_u1) 71 3 g (ints gx), .blk b1 38 [.int .i64 0, .slice none 0 0]]
    refine Run.done ?_
    refine Run.blockEnd ?_
    refine Run.seq ?_
    refine Run.region ?_
    refine Run.q (v := .agg #[.int .i64 (ix [0, 1, 5, 6] i1), .slice A_u1 g c_u1]) rfl (OpQ.y (OpY.loadN (cs := [.int .i64 (ix [0, 1, 5, 6] i1), .slice A_u1 g c_u1]) Tagg_38 rfl (Cells.blk (.tail _ (List.Mem.head _)) ⟨rfl, rfl, trivial⟩))) ?_
    refine Run.step rfl (OpStep.storeAll (us := [.int .i64 (ix [0, 1, 5, 6] i1), .slice A_u1 g c_u1]) Tsize_38 rfl rfl rfl (.there _ (.there _ (.there _ (.here _)))) rfl ?_)
    refine Run.done ?_
    refine Run.ret ?_
    refine ⟨.agg #[.int .i64 (ix [0, 1, 5, 6] i1), .slice A_u1 g c_u1], [.own (.slice A_u1 g c_u1) 71 3 g (ints gx), .blk bc 84 [vc, .int .i64 (((s2.1 : Nat) : Int)), .int .u64 (s2.2)]], Out.cell1 (cs := [.int .i64 (ix [0, 1, 5, 6] i1), .slice A_u1 g c_u1]) rfl Tagg_38 rfl (Cells.blk (.tail _ (.tail _ (.tail _ (List.Mem.head _)))) ⟨rfl, rfl, trivial⟩), ((Weak.front [.blk bc 84 [vc, .int .i64 (((s2.1 : Nat) : Int)), .int .u64 (s2.2)], .blk b2 38 [.int .i64 (ix [0, 1, 5, 6] i1), .slice A_u1 g c_u1]] (.own (.slice A_u1 g c_u1) 71 3 g (ints gx)) [.blk b1 38 [.int .i64 (ix [0, 1, 5, 6] i1), .slice A_u1 g c_u1]]).trans (Some'.weak (.take (.take (.nil _))))), ?_⟩
    exact ⟨_, _, _, _, _, ⟨by omega, by omega⟩, rfl, rfl⟩
  · have p8 := h8; try simp only [bs] at p8
    refine Run.seq ?_
    refine Run.region ?_
    refine Run.q (v := .bool (x1 == 1)) rfl (OpQ.y (OpY.pure rfl)) ?_
    refine Run.q (v := .bool (x1 == 1)) rfl (OpQ.y (OpY.pure rfl)) ?_
    refine Run.done ?_
    refine Run.cond (b := x1 == 1) rfl (fun h14 => ?_) (fun h14 => ?_)
    · have p14 := h14; try simp only [bs] at p14
      refine Run.lastlyB [14] [.blk b2 38 [.int .i64 Q, .slice A_u1 g c_u1], .blk b1 38 [.int .i64 0, .slice none 0 0]] (by kernel_rfl) ?_
      refine DL.takeP (i := 0) (v := .pointer (some ⟨b2, 1, none⟩)) rfl (by kernel_rfl) (by kernel_rfl) (by kernel_rfl) (fun _ _ _ h => h) rfl (fun _ => OpY.fieldAddr Tfo_38_1 rfl rfl) ?_
      refine DL.take (i := 1) (v := .slice A_u1 g c_u1) rfl (by kernel_rfl) (by kernel_rfl) (by kernel_rfl) (by kernel_rfl) (fun _ _ _ h => h) (Some'.weak (.skip (.take (.skip (.take (.nil _)))))) rfl (OpY.load1 Tone_36 rfl (Cells.blk (.head _) ⟨rfl, trivial⟩)) ?_
      refine DL.takeP (i := 2) (v := .pointer (some ⟨bc, 0, none⟩)) rfl (by kernel_rfl) (by kernel_rfl) (by kernel_rfl) (fun _ _ _ h => h) rfl (fun _ => OpY.pure rfl) ?_
      refine DL.takeP (i := 4) (v := .pointer (some ⟨bc, 0, none⟩)) rfl (by kernel_rfl) (by kernel_rfl) (by kernel_rfl) (fun _ _ _ h => h) rfl (fun _ => OpY.pure rfl) ?_
      refine DL.takeP (i := 7) (v := .pointer (some ⟨bc, 0, none⟩)) rfl (by kernel_rfl) (by kernel_rfl) (by kernel_rfl) (fun _ _ _ h => h) rfl (fun _ => OpY.pure rfl) ?_
      refine DL.stepS (i := 3) (by kernel_rfl) rfl rfl (OpStep.callM (H1 := [.blk bc 84 [vc, .int .i64 (((s1.1 : Nat) : Int)), .int .u64 (s1.2)]]) (H2 := [.blk b2 38 [.int .i64 Q, .slice A_u1 g c_u1], .own (.slice A_u1 g c_u1) 71 3 g (ints gx), .blk b1 38 [.int .i64 0, .slice none 0 0]]) (vs := [.pointer (some ⟨bc, 0, none⟩), .int .i64 14]) (caps := []) Tcall_64 rfl rfl (Weak.refl _) (fun w hs => pick_ex (by omega) (hc.go hs) (hs.sub (List.sublist_append_left _ _)).self) ?_)
      rintro _ _ ⟨x2, s3, hx2, hs3, rfl, rfl⟩
      refine ⟨(Some'.weak (.skip (.take (.skip (.take (.nil _)))))), ?_⟩
      refine DL.stepS (i := 5) (by kernel_rfl) rfl rfl (OpStep.callM (H1 := [.blk bc 84 [vc, .int .i64 (((s3.1 : Nat) : Int)), .int .u64 (s3.2)]]) (H2 := [.blk b2 38 [.int .i64 Q, .slice A_u1 g c_u1], .own (.slice A_u1 g c_u1) 71 3 g (ints gx), .blk b1 38 [.int .i64 0, .slice none 0 0]]) (vs := [.pointer (some ⟨bc, 0, none⟩), .int .i64 4]) (caps := []) Tcall_64 rfl rfl (Weak.refl _) (fun w hs => pick_ex (by omega) (hc.go hs) (hs.sub (List.sublist_append_left _ _)).self) ?_)
      rintro _ _ ⟨x3, s4, hx3, hs4, rfl, rfl⟩
      refine ⟨(Some'.weak (.skip (.take (.skip (.take (.nil _)))))), ?_⟩
      refine DL.takeP (i := 6) (v := .int .i64 (x3 - 1)) rfl (by kernel_rfl) (by kernel_rfl) (by kernel_rfl) (fun _ _ _ h => h) rfl (fun _ => OpY.sub rfl rfl rfl (by omega) (by omega)) ?_
      refine DL.stepS (i := 8) (by kernel_rfl) rfl rfl (OpStep.callM (H1 := [.blk bc 84 [vc, .int .i64 (((s4.1 : Nat) : Int)), .int .u64 (s4.2)]]) (H2 := [.blk b2 38 [.int .i64 Q, .slice A_u1 g c_u1], .own (.slice A_u1 g c_u1) 71 3 g (ints gx), .blk b1 38 [.int .i64 0, .slice none 0 0]]) (vs := [.pointer (some ⟨bc, 0, none⟩), .int .i64 4]) (caps := []) Tcall_64 rfl rfl (Weak.refl _) (fun w hs => pick_ex (by omega) (hc.go hs) (hs.sub (List.sublist_append_left _ _)).self) ?_)
      rintro _ _ ⟨x4, s5, hx4, hs5, rfl, rfl⟩
      refine ⟨(Some'.weak (.skip (.take (.skip (.take (.nil _)))))), ?_⟩
      refine DL.takeP (i := 9) (v := .int .i64 (x4 - 1)) rfl (by kernel_rfl) (by kernel_rfl) (by kernel_rfl) (fun _ _ _ h => h) rfl (fun _ => OpY.sub rfl rfl rfl (by omega) (by omega)) ?_
      refine DL.takeP (i := 10) (v := .agg #[.int .i64 x2, .int .i64 (x3 - 1), .int .i64 (x4 - 1)]) rfl (by kernel_rfl) (by kernel_rfl) (by kernel_rfl) (fun _ _ _ h => h) rfl (fun _ => OpY.build (cs := [.int .i64 x2, .int .i64 (x3 - 1), .int .i64 (x4 - 1)]) (by kernel_rfl)) ?_
      refine DL.stepS (i := 11) (by kernel_rfl) rfl rfl (OpStep.buildSlice (us := [.int .i64 x2, .int .i64 (x3 - 1), .int .i64 (x4 - 1)]) Tsl_36 (by decide) (by decide) ⟨rfl, [.int .i64 x2, .int .i64 (x3 - 1), .int .i64 (x4 - 1)], _, rfl, rfl, rfl, rfl⟩ rfl fun b4 => ?_)
      refine ⟨(Some'.weak (.skip (.skip (.take (.skip (.take (.nil _))))))), ?_⟩
      refine DL.stepS (i := 12) (by kernel_rfl) rfl rfl (OpStep.append (H1 := [.own (.slice (some ⟨b4, 0, none⟩) 1 1) 71 3 1 ([.int .i64 x2, .int .i64 (x3 - 1), .int .i64 (x4 - 1)]), .blk bc 84 [vc, .int .i64 (((s5.1 : Nat) : Int)), .int .u64 (s5.2)], .blk b2 38 [.int .i64 Q, .slice A_u1 g c_u1]]) (H2 := [.blk b1 38 [.int .i64 0, .slice none 0 0]]) (v := .slice A_u1 g c_u1) (u := .slice (some ⟨b4, 0, none⟩) 1 1) (n := g) (m := 1) (xs := ints gx) (ys := [.int .i64 x2, .int .i64 (x3 - 1), .int .i64 (x4 - 1)]) Tsl_36 (by decide) rfl rfl rfl rfl (fun w hs => hs.slOwn (.head _)) (by simp [Value.oneCell']) (by omega) (by simp only [maxLen]; omega) fun av1 hnav1 => ?_)
      refine DL.weakS (H' := [.own (.slice (some ⟨b4, 0, none⟩) 1 1) 71 3 1 ([.int .i64 x2, .int .i64 (x3 - 1), .int .i64 (x4 - 1)]), .blk bc 84 [vc, .int .i64 (((s5.1 : Nat) : Int)), .int .u64 (s5.2)], .blk b2 38 [.int .i64 Q, .slice A_u1 g c_u1], .own av1 71 3 (g + 1) (ints (gx ++ [x2, x3 - 1, x4 - 1])), .blk b1 38 [.int .i64 0, .slice none 0 0]]) (Some'.weak (.take (.take (.take (.takeEq (by simp [ints]) (.take (.nil _))))))) ?_
      refine ⟨(Some'.weak (.skip (.skip (.take (.skip (.take (.nil _))))))), ?_⟩
      refine DL.takeP (i := 13) (v := .pointer (some ⟨b2, 1, none⟩)) rfl (by kernel_rfl) (by kernel_rfl) (by kernel_rfl) (fun _ _ _ h => h) rfl (fun _ => OpY.fieldAddr Tfo_38_1 rfl rfl) ?_
      refine DL.formOwn (.tail _ (.tail _ (.tail _ (List.Mem.head _)))) (fun A_av11 c_av11 hv hcapc_av11 hmaxc_av11 => ?_)
      subst hv
      refine DL.step (i := 14) (by kernel_rfl) (by kernel_rfl) rfl rfl (OpStep.store (us := [.slice A_av11 (g + 1) c_av11]) Tsize_36 rfl rfl rfl (.there _ (.there _ (.here _))) (by simp only [List.length_cons, List.length_nil]; omega) ?_)
      show DL _ _ _ _ _ _ _ _ [.own (.slice (some ⟨b4, 0, none⟩) 1 1) 71 3 1 ([.int .i64 x2, .int .i64 (x3 - 1), .int .i64 (x4 - 1)]), .blk bc 84 [vc, .int .i64 (((s5.1 : Nat) : Int)), .int .u64 (s5.2)], .blk b2 38 [.int .i64 Q, .slice A_av11 (g + 1) c_av11], .own (.slice A_av11 (g + 1) c_av11) 71 3 (g + 1) (ints (gx ++ [x2, x3 - 1, x4 - 1])), .blk b1 38 [.int .i64 0, .slice none 0 0]]
      refine DL.done (by kernel_rfl) ?_
      refine Run.blockEnd ?_
      refine Run.seq ?_
      refine Run.region ?_
      refine Run.q (v := .agg #[.int .i64 Q, .slice A_av11 (g + 1) c_av11]) rfl (OpQ.y (OpY.loadN (cs := [.int .i64 Q, .slice A_av11 (g + 1) c_av11]) Tagg_38 rfl (Cells.blk (.tail _ (.tail _ (List.Mem.head _))) ⟨rfl, rfl, trivial⟩))) ?_
      refine Run.step rfl (OpStep.storeAll (us := [.int .i64 Q, .slice A_av11 (g + 1) c_av11]) Tsize_38 rfl rfl rfl (.there _ (.there _ (.there _ (.there _ (.here _))))) rfl ?_)
      refine Run.done ?_
      refine Run.ret ?_
      refine ⟨.agg #[.int .i64 Q, .slice A_av11 (g + 1) c_av11], [.own (.slice A_av11 (g + 1) c_av11) 71 3 (g + 1) (ints (gx ++ [x2, x3 - 1, x4 - 1])), .blk bc 84 [vc, .int .i64 (((s5.1 : Nat) : Int)), .int .u64 (s5.2)]], Out.cell1 (cs := [.int .i64 Q, .slice A_av11 (g + 1) c_av11]) rfl Tagg_38 rfl (Cells.blk (.tail _ (.tail _ (.tail _ (.tail _ (List.Mem.head _))))) ⟨rfl, rfl, trivial⟩), (((Weak.front [.own (.slice (some ⟨b4, 0, none⟩) 1 1) 71 3 1 ([.int .i64 x2, .int .i64 (x3 - 1), .int .i64 (x4 - 1)])] (.blk bc 84 [vc, .int .i64 (((s5.1 : Nat) : Int)), .int .u64 (s5.2)]) [.blk b2 38 [.int .i64 Q, .slice A_av11 (g + 1) c_av11], .own (.slice A_av11 (g + 1) c_av11) 71 3 (g + 1) (ints (gx ++ [x2, x3 - 1, x4 - 1])), .blk b1 38 [.int .i64 Q, .slice A_av11 (g + 1) c_av11]]).trans (Weak.front [.blk bc 84 [vc, .int .i64 (((s5.1 : Nat) : Int)), .int .u64 (s5.2)], .own (.slice (some ⟨b4, 0, none⟩) 1 1) 71 3 1 ([.int .i64 x2, .int .i64 (x3 - 1), .int .i64 (x4 - 1)]), .blk b2 38 [.int .i64 Q, .slice A_av11 (g + 1) c_av11]] (.own (.slice A_av11 (g + 1) c_av11) 71 3 (g + 1) (ints (gx ++ [x2, x3 - 1, x4 - 1]))) [.blk b1 38 [.int .i64 Q, .slice A_av11 (g + 1) c_av11]])).trans (Some'.weak (.take (.take (.nil _))))), ?_⟩
      exact ⟨_, _, _, _, _, ⟨by omega, by omega⟩, rfl, rfl⟩
    · have p14 := h14; try simp only [bs] at p14
      refine Run.skip ?_
      refine Run.blockEnd ?_
      refine Run.seq ?_
      refine Run.region ?_
      refine Run.q (v := .agg #[.int .i64 Q, .slice A_u1 g c_u1]) rfl (OpQ.y (OpY.loadN (cs := [.int .i64 Q, .slice A_u1 g c_u1]) Tagg_38 rfl (Cells.blk (.tail _ (List.Mem.head _)) ⟨rfl, rfl, trivial⟩))) ?_
      refine Run.step rfl (OpStep.storeAll (us := [.int .i64 Q, .slice A_u1 g c_u1]) Tsize_38 rfl rfl rfl (.there _ (.there _ (.there _ (.here _)))) rfl ?_)
      refine Run.done ?_
      refine Run.ret ?_
      refine ⟨.agg #[.int .i64 Q, .slice A_u1 g c_u1], [.own (.slice A_u1 g c_u1) 71 3 g (ints gx), .blk bc 84 [vc, .int .i64 (((s1.1 : Nat) : Int)), .int .u64 (s1.2)]], Out.cell1 (cs := [.int .i64 Q, .slice A_u1 g c_u1]) rfl Tagg_38 rfl (Cells.blk (.tail _ (.tail _ (.tail _ (List.Mem.head _)))) ⟨rfl, rfl, trivial⟩), ((Weak.front [.blk bc 84 [vc, .int .i64 (((s1.1 : Nat) : Int)), .int .u64 (s1.2)], .blk b2 38 [.int .i64 Q, .slice A_u1 g c_u1]] (.own (.slice A_u1 g c_u1) 71 3 g (ints gx)) [.blk b1 38 [.int .i64 Q, .slice A_u1 g c_u1]]).trans (Some'.weak (.take (.take (.nil _))))), ?_⟩
      exact ⟨_, _, _, _, _, ⟨by omega, by omega⟩, rfl, rfl⟩


theorem Cur.apart0 {w0 w : World} {va vl : Value} {n m size : Nat} {e : TypeId} {cs : List Int} {ls : List Value} {H : List Res} (ha : Sl w0 va 1 n (u8s cs)) (hs : St No w0 w H) (hm : Res.own vl e size m ls ∈ H) : 0 < n → ∀ k, va.ownBlock = some k → vl.ownBlock ≠ some k := by
  intro h0 k hk hl
  obtain ⟨_, A, c, rfl, _, _, h4⟩ := ha
  obtain ⟨b, o, rfl, hb, _⟩ := h4 h0
  simp only [Value.ownBlock, Option.some.injEq] at hk; subst hk
  exact hs.fresh _ hm _ hl hb

set_option maxHeartbeats 2000000 in
set_option maxRecDepth 20000 in
theorem DrawLinearOf_spec {va : Value} {n : Nat} {cs : List Int} {w : World} (ha : Sl w va 1 n (u8s cs)) (hby : ∀ x ∈ cs, 0 ≤ x ∧ x < 256) : Calls Try.prog 30 #[va] w (Post No w fun v H => ∃ (Q : Int) (u : Value) (g : Nat) (gx : List Int), g ≤ 20 ∧ v = .agg #[.int .i64 Q, u] ∧ H = [.own u 71 3 g (ints gx)]) := by
  obtain ⟨Ac, cc, rfl, _, _⟩ := ha.form0
  refine enter (n := 57) (args := [.slice Ac n cc]) Try.func30 rfl rfl (St.empty _ _) ?_
  refine Run.seq ?_
  refine Run.region ?_
  refine Run.step rfl (OpStep.alloc (zs := [.int .i64 0, .slice none 0 0]) Tzero_38 fun b1 => ?_)
  refine Run.done ?_
  refine Run.seq ?_
  refine Run.region ?_
  refine Run.q (v := .slice Ac n cc) rfl (OpQ.y (OpY.pure rfl)) ?_
  refine Run.q (v := .agg #[.slice Ac n cc, .int .i64 0, .int .u64 0]) rfl (OpQ.y (OpY.build (cs := [.slice Ac n cc, .int .i64 0, .int .u64 0]) (by kernel_rfl))) ?_
  refine Run.step rfl (OpStep.box (us := [.slice Ac n cc, .int .i64 0, .int .u64 0]) rfl fun b2 => ?_)
  refine Run.q (v := .pointer (some ⟨b2, 0, none⟩)) rfl (OpQ.y (OpY.pure rfl)) ?_
  refine Run.done ?_
  refine Run.seq ?_
  refine Run.seq ?_
  refine Run.region ?_
  refine Run.q (v := .pointer (some ⟨b2, 0, none⟩)) rfl (OpQ.y (OpY.pure rfl)) ?_
  refine Run.step rfl (OpStep.callM (H1 := [.blk b2 84 [.slice Ac n cc, .int .i64 0, .int .u64 0]]) (H2 := [.blk b1 38 [.int .i64 0, .slice none 0 0]]) (vs := [.pointer (some ⟨b2, 0, none⟩), .int .i64 6]) (caps := []) Tcall_62 rfl rfl (Weak.refl _) (fun w hs => one_ex (s := (0, 0)) (by decide) (Cur.top ha hby hs (.head _)) (hs.sub (List.sublist_append_left _ _)).self) ?_)
  rintro _ _ ⟨x1, s1, hs1, rfl, rfl⟩
  show Run _ _ (putF _ _ _ (.bool x1)) [.blk b2 84 [.slice Ac n cc, .int .i64 (((s1.1 : Nat) : Int)), .int .u64 (s1.2)], .blk b1 38 [.int .i64 0, .slice none 0 0]]
  have es1 : ((0 : Nat), (0 : Int)).1 = 0 := rfl
  refine Run.done ?_
  refine Run.cond (b := x1) rfl (fun h12 => ?_) (fun h12 => ?_)
  · have p12 := h12; try simp only [bs] at p12
    refine Run.seq ?_
    refine Run.region ?_
    refine Run.q (v := .pointer (some ⟨b2, 0, none⟩)) rfl (OpQ.y (OpY.pure rfl)) ?_
    refine Run.step rfl (OpStep.callM (H1 := [.blk b2 84 [.slice Ac n cc, .int .i64 (((s1.1 : Nat) : Int)), .int .u64 (s1.2)]]) (H2 := [.blk b1 38 [.int .i64 0, .slice none 0 0]]) (vs := [.pointer (some ⟨b2, 0, none⟩)]) (caps := []) Tcall_63 rfl rfl (Weak.refl _) (fun w hs => anyCircuit_spec (s := s1) (by omega) (Cur.top ha hby hs (.head _)) (hs.sub (List.sublist_append_left _ _)).self) ?_)
    rintro _ _ ⟨Q, u, g, gx, s8, ⟨hg8, hs8⟩, rfl, rfl⟩
    show Run _ _ (putF _ _ _ (.agg #[.int .i64 Q, u])) [.own u 71 3 g (ints gx), .blk b2 84 [.slice Ac n cc, .int .i64 (((s8.1 : Nat) : Int)), .int .u64 (s8.2)], .blk b1 38 [.int .i64 0, .slice none 0 0]]
    refine Run.formOwn (.head _) (fun A_u1 c_u1 hv hcapc_u1 hmaxc_u1 => ?_) (fun _ _ _ => ⟨nofun, nofun, nofun⟩)
    subst hv
    refine Run.step rfl (OpStep.storeAll (us := [.int .i64 Q, .slice A_u1 g c_u1]) Tsize_38 rfl rfl rfl (.there _ (.there _ (.here _))) rfl ?_)
    refine Run.done ?_
    refine Run.ret ?_
    refine ⟨.agg #[.int .i64 Q, .slice A_u1 g c_u1], [.own (.slice A_u1 g c_u1) 71 3 g (ints gx)], Out.cell1 (cs := [.int .i64 Q, .slice A_u1 g c_u1]) rfl Tagg_38 rfl (Cells.blk (.tail _ (.tail _ (List.Mem.head _))) ⟨rfl, rfl, trivial⟩), (Some'.weak (.take (.nil _))), ?_⟩
    exact ⟨_, _, _, _, by omega, rfl, rfl⟩
  · have p12 := h12; try simp only [bs] at p12
    refine Run.skip ?_
    refine Run.seq ?_
    refine Run.region ?_
    refine Run.q (v := .pointer (some ⟨b2, 0, none⟩)) rfl (OpQ.y (OpY.pure rfl)) ?_
    refine Run.step rfl (OpStep.callM (H1 := [.blk b2 84 [.slice Ac n cc, .int .i64 (((s1.1 : Nat) : Int)), .int .u64 (s1.2)]]) (H2 := [.blk b1 38 [.int .i64 0, .slice none 0 0]]) (vs := [.pointer (some ⟨b2, 0, none⟩), .int .i64 3]) (caps := []) Tcall_64 rfl rfl (Weak.refl _) (fun w hs => pick_ex (s := s1) (by omega) (Cur.top ha hby hs (.head _)) (hs.sub (List.sublist_append_left _ _)).self) ?_)
    rintro _ _ ⟨x2, s2, hx2, hs2, rfl, rfl⟩
    show Run _ _ (putF _ _ _ (.int .i64 x2)) [.blk b2 84 [.slice Ac n cc, .int .i64 (((s2.1 : Nat) : Int)), .int .u64 (s2.2)], .blk b1 38 [.int .i64 0, .slice none 0 0]]
    refine Run.q (v := .int .i64 (2 + x2)) rfl (OpQ.y (OpY.add rfl rfl rfl (by omega) (by omega))) ?_
    refine Run.q (v := .int .i64 (2 + x2)) rfl (OpQ.y (OpY.pure rfl)) ?_
    refine Run.done ?_
    obtain ⟨N0, hN0⟩ : ∃ N0 : Nat, 2 + x2 = ((N0 : Nat) : Int) := ⟨(2 + x2).toNat, by omega⟩
    rw [hN0]
    refine Run.seq ?_
    refine Run.region ?_
    refine Run.q (v := .int .i64 (((N0 : Nat) : Int))) rfl (OpQ.y (OpY.pure rfl)) ?_
    refine Run.q (v := .agg #[.int .i64 (((N0 : Nat) : Int)), .slice none 0 0]) rfl (OpQ.y (OpY.build (cs := [.int .i64 (((N0 : Nat) : Int)), .slice none 0 0]) (by kernel_rfl))) ?_
    refine Run.step rfl (OpStep.alloc (zs := [.int .i64 0, .slice none 0 0]) Tzero_38 fun b3 => ?_)
    refine Run.step rfl (OpStep.storeAll (us := [.int .i64 (((N0 : Nat) : Int)), .slice none 0 0]) Tsize_38 rfl rfl rfl (.here _) rfl ?_)
    refine Run.done ?_
    refine Run.seq ?_
    refine Run.seq ?_
    refine Run.region ?_
    refine Run.q (v := .pointer (some ⟨b2, 0, none⟩)) rfl (OpQ.y (OpY.pure rfl)) ?_
    refine Run.step rfl (OpStep.callM (H1 := [.blk b2 84 [.slice Ac n cc, .int .i64 (((s2.1 : Nat) : Int)), .int .u64 (s2.2)]]) (H2 := [.blk b3 38 [.int .i64 (((N0 : Nat) : Int)), .slice none 0 0], .blk b1 38 [.int .i64 0, .slice none 0 0]]) (vs := [.pointer (some ⟨b2, 0, none⟩), .int .i64 8]) (caps := []) Tcall_64 rfl rfl (Weak.front [.blk b3 38 [.int .i64 (((N0 : Nat) : Int)), .slice none 0 0]] (.blk b2 84 [.slice Ac n cc, .int .i64 (((s2.1 : Nat) : Int)), .int .u64 (s2.2)]) [.blk b1 38 [.int .i64 0, .slice none 0 0]]) (fun w hs => pick_ex (s := s2) (by omega) (Cur.top ha hby hs (.head _)) (hs.sub (List.sublist_append_left _ _)).self) ?_)
    rintro _ _ ⟨x3, s3, hx3, hs3, rfl, rfl⟩
    show Run _ _ (putF _ _ _ (.int .i64 x3)) [.blk b2 84 [.slice Ac n cc, .int .i64 (((s3.1 : Nat) : Int)), .int .u64 (s3.2)], .blk b3 38 [.int .i64 (((N0 : Nat) : Int)), .slice none 0 0], .blk b1 38 [.int .i64 0, .slice none 0 0]]
    refine Run.q (v := .int .i64 x3) rfl (OpQ.y (OpY.pure rfl)) ?_
    refine Run.done ?_
    obtain ⟨i0, hi0⟩ : ∃ i0 : Nat, x3 = ((i0 : Nat) : Int) := ⟨(x3).toNat, by omega⟩
    rw [hi0]
    refine Run.weak (H' := [.own (.slice none 0 0) 71 3 0 ([]), .blk b2 84 [.slice Ac n cc, .int .i64 (((s3.1 : Nat) : Int)), .int .u64 (s3.2)], .blk b3 38 [.int .i64 (((N0 : Nat) : Int)), .slice none 0 0], .blk b1 38 [.int .i64 0, .slice none 0 0]]) (Weak.nilOwn _ _) ?_ ⟨_, _, rfl, fun _ => nofun, fun _ => nofun⟩
    refine Run.block ?_
    refine Run.loop (ι := Nat × (Nat × Int) × Nat × List Int × Value) [6, 7, 22, 23, 24, 25, 26, 27, 28, 29, 30, 31, 32, 33, 34, 35, 36, 37, 38, 39, 40, 41, 42, 43, 44, 45, 46, 47] (fun ⟨i, sc, g, gx, vg⟩ => [(6, .int .i64 (((i : Nat) : Int)))]) (fun ⟨i, sc, g, gx, vg⟩ => [.own vg 71 3 g (ints gx), .blk b3 38 [.int .i64 (((N0 : Nat) : Int)), vg], .blk b1 38 [.int .i64 0, .slice none 0 0], .blk b2 84 [.slice Ac n cc, .int .i64 (((sc.1 : Nat) : Int)), .int .u64 (sc.2)]]) (fun ⟨i, sc, g, gx, vg⟩ => g + i ≤ 8 ∧ sc.1 + 10 * i ≤ 200) (fun ⟨i, sc, g, gx, vg⟩ => i) (i0, s3, 0, [], .slice none 0 0) ?_ ?_ ?_ ?_
    · exact ⟨by omega, by omega⟩
    · exact ⟨rfl, trivial⟩
    · exact (((((Weak.front [.own (.slice none 0 0) 71 3 0 ([])] (.blk b2 84 [.slice Ac n cc, .int .i64 (((s3.1 : Nat) : Int)), .int .u64 (s3.2)]) [.blk b3 38 [.int .i64 (((N0 : Nat) : Int)), .slice none 0 0], .blk b1 38 [.int .i64 0, .slice none 0 0]]).trans (Weak.front [.blk b2 84 [.slice Ac n cc, .int .i64 (((s3.1 : Nat) : Int)), .int .u64 (s3.2)], .own (.slice none 0 0) 71 3 0 ([]), .blk b3 38 [.int .i64 (((N0 : Nat) : Int)), .slice none 0 0]] (.blk b1 38 [.int .i64 0, .slice none 0 0]) [])).trans (Weak.front [.blk b1 38 [.int .i64 0, .slice none 0 0], .blk b2 84 [.slice Ac n cc, .int .i64 (((s3.1 : Nat) : Int)), .int .u64 (s3.2)], .own (.slice none 0 0) 71 3 0 ([])] (.blk b3 38 [.int .i64 (((N0 : Nat) : Int)), .slice none 0 0]) [])).trans (Weak.front [.blk b3 38 [.int .i64 (((N0 : Nat) : Int)), .slice none 0 0], .blk b1 38 [.int .i64 0, .slice none 0 0], .blk b2 84 [.slice Ac n cc, .int .i64 (((s3.1 : Nat) : Int)), .int .u64 (s3.2)]] (.own (.slice none 0 0) 71 3 0 ([])) [])).trans (Some'.weak (.takeEq (by first | rfl | simp [ints]) (.takeEq (by first | rfl | simp [ints]) (.take (.takeEq (by first | rfl | simp [ints]) (.nil _)))))))
    · rintro ⟨i, sc, g, gx, vg⟩ fr hinv
      show Run _ _ (over _ _ [(6, .int .i64 (((i : Nat) : Int)))] fr) [.own vg 71 3 g (ints gx), .blk b3 38 [.int .i64 (((N0 : Nat) : Int)), vg], .blk b1 38 [.int .i64 0, .slice none 0 0], .blk b2 84 [.slice Ac n cc, .int .i64 (((sc.1 : Nat) : Int)), .int .u64 (sc.2)]]
      try dsimp only at hinv
      obtain ⟨hgi, hsi⟩ := hinv
      refine Run.seq ?_
      refine Run.seq ?_
      refine Run.region ?_
      refine Run.q (v := .int .i64 (((i : Nat) : Int))) rfl (OpQ.y (OpY.pure rfl)) ?_
      refine Run.q (v := .bool (decide ((((i : Nat) : Int)) > 0))) rfl (OpQ.y (OpY.pure rfl)) ?_
      refine Run.done ?_
      refine Run.cond (b := decide ((((i : Nat) : Int)) > 0)) rfl (fun h23 => ?_) (fun h23 => ?_)
      · have p23 := h23; try simp only [bs] at p23
        refine Run.skip ?_
        refine Run.seq ?_
        refine Run.block ?_
        refine Run.seq ?_
        refine Run.region ?_
        refine Run.q (v := .pointer (some ⟨b2, 0, none⟩)) rfl (OpQ.y (OpY.pure rfl)) ?_
        refine Run.q (v := .int .i64 (((N0 : Nat) : Int))) rfl (OpQ.y (OpY.pure rfl)) ?_
        refine Run.step rfl (OpStep.callM (H1 := [.blk b2 84 [.slice Ac n cc, .int .i64 (((sc.1 : Nat) : Int)), .int .u64 (sc.2)]]) (H2 := [.own vg 71 3 g (ints gx), .blk b3 38 [.int .i64 (((N0 : Nat) : Int)), vg], .blk b1 38 [.int .i64 0, .slice none 0 0]]) (vs := [.pointer (some ⟨b2, 0, none⟩), .int .i64 (((N0 : Nat) : Int))]) (caps := []) Tcall_64 rfl rfl (Weak.front [.own vg 71 3 g (ints gx), .blk b3 38 [.int .i64 (((N0 : Nat) : Int)), vg], .blk b1 38 [.int .i64 0, .slice none 0 0]] (.blk b2 84 [.slice Ac n cc, .int .i64 (((sc.1 : Nat) : Int)), .int .u64 (sc.2)]) []) (fun w hs => pick_ex (s := sc) (by omega) (Cur.top ha hby hs (.head _)) (hs.sub (List.sublist_append_left _ _)).self) ?_)
        rintro _ _ ⟨x4, s4, hx4, hs4, rfl, rfl⟩
        show Run _ _ (putF _ _ _ (.int .i64 x4)) [.blk b2 84 [.slice Ac n cc, .int .i64 (((s4.1 : Nat) : Int)), .int .u64 (s4.2)], .own vg 71 3 g (ints gx), .blk b3 38 [.int .i64 (((N0 : Nat) : Int)), vg], .blk b1 38 [.int .i64 0, .slice none 0 0]]
        refine Run.q (v := .int .i64 x4) rfl (OpQ.y (OpY.pure rfl)) ?_
        refine Run.done ?_
        refine Run.lastlyB [19] [.blk b3 38 [.int .i64 (((N0 : Nat) : Int)), vg], .blk b1 38 [.int .i64 0, .slice none 0 0]] (by kernel_rfl) ?_
        refine DL.takeP (i := 0) (v := .pointer (some ⟨b3, 1, none⟩)) rfl (by kernel_rfl) (by kernel_rfl) (by kernel_rfl) (fun _ _ _ h => h) rfl (fun _ => OpY.fieldAddr Tfo_38_1 rfl rfl) ?_
        refine DL.take (i := 1) (v := vg) rfl (by kernel_rfl) (by kernel_rfl) (by kernel_rfl) (by kernel_rfl) (fun _ _ _ h => h) (Some'.weak (.skip (.skip (.take (.take (.nil _)))))) rfl (OpY.load1 Tone_36 rfl (Cells.blk (.head _) ⟨rfl, trivial⟩)) ?_
        refine DL.takeP (i := 2) (v := .pointer (some ⟨b2, 0, none⟩)) rfl (by kernel_rfl) (by kernel_rfl) (by kernel_rfl) (fun _ _ _ h => h) rfl (fun _ => OpY.pure rfl) ?_
        refine DL.takeP (i := 5) (v := .int .i64 x4) rfl (by kernel_rfl) (by kernel_rfl) (by kernel_rfl) (fun _ _ _ h => h) rfl (fun _ => OpY.pure rfl) ?_
        refine DL.takeP (i := 6) (v := .int .i64 x4) rfl (by kernel_rfl) (by kernel_rfl) (by kernel_rfl) (fun _ _ _ h => h) rfl (fun _ => OpY.pure rfl) ?_
        refine DL.takeP (i := 7) (v := .int .i64 (x4 + 1)) rfl (by kernel_rfl) (by kernel_rfl) (by kernel_rfl) (fun _ _ _ h => h) rfl (fun _ => OpY.add rfl rfl rfl (by omega) (by omega)) ?_
        refine DL.takeP (i := 8) (v := .pointer (some ⟨b2, 0, none⟩)) rfl (by kernel_rfl) (by kernel_rfl) (by kernel_rfl) (fun _ _ _ h => h) rfl (fun _ => OpY.pure rfl) ?_
        refine DL.takeP (i := 9) (v := .int .i64 (((N0 : Nat) : Int))) rfl (by kernel_rfl) (by kernel_rfl) (by kernel_rfl) (fun _ _ _ h => h) rfl (fun _ => OpY.pure rfl) ?_
        refine DL.takeP (i := 10) (v := .int .i64 ((((N0 : Nat) : Int)) - 1)) rfl (by kernel_rfl) (by kernel_rfl) (by kernel_rfl) (fun _ _ _ h => h) rfl (fun _ => OpY.sub rfl rfl rfl (by omega) (by omega)) ?_
        refine DL.takeP (i := 13) (v := .int .i64 (((N0 : Nat) : Int))) rfl (by kernel_rfl) (by kernel_rfl) (by kernel_rfl) (fun _ _ _ h => h) rfl (fun _ => OpY.pure rfl) ?_
        refine DL.stepS (i := 3) (by kernel_rfl) rfl rfl (OpStep.buildSlice (us := [.int .i64 9, .int .i64 9, .int .i64 9, .int .i64 11]) Tsl_22 (by decide) (by decide) ⟨rfl, [.int .i64 9], _, rfl, rfl, rfl, ⟨rfl, [.int .i64 9], _, rfl, rfl, rfl, ⟨rfl, [.int .i64 9], _, rfl, rfl, rfl, ⟨rfl, [.int .i64 11], _, rfl, rfl, rfl, rfl⟩⟩⟩⟩ rfl fun b4 => ?_)
        refine ⟨(Some'.weak (.skip (.skip (.skip (.take (.take (.nil _))))))), ?_⟩
        refine DL.stepS (i := 4) (by kernel_rfl) rfl rfl (OpStep.callM (H1 := [.blk b2 84 [.slice Ac n cc, .int .i64 (((s4.1 : Nat) : Int)), .int .u64 (s4.2)], .own (.slice (some ⟨b4, 0, none⟩) 4 4) 3 1 4 (ints [9, 9, 9, 11])]) (H2 := [.own vg 71 3 g (ints gx), .blk b3 38 [.int .i64 (((N0 : Nat) : Int)), vg], .blk b1 38 [.int .i64 0, .slice none 0 0]]) (vs := [.pointer (some ⟨b2, 0, none⟩), .slice (some ⟨b4, 0, none⟩) 4 4]) (caps := []) Tcall_65 rfl rfl (Weak.front [.own (.slice (some ⟨b4, 0, none⟩) 4 4) 3 1 4 ([.int .i64 9, .int .i64 9, .int .i64 9, .int .i64 11])] (.blk b2 84 [.slice Ac n cc, .int .i64 (((s4.1 : Nat) : Int)), .int .u64 (s4.2)]) [.own vg 71 3 g (ints gx), .blk b3 38 [.int .i64 (((N0 : Nat) : Int)), vg], .blk b1 38 [.int .i64 0, .slice none 0 0]]) (fun w hs => among_spec (s := s4) (by omega) (by decide) (Cur.top ha hby hs (.head _)) (Cur.apart0 ha hs (.tail _ (.head _))) (hs.sub (List.sublist_append_left _ _)).self) ?_)
        rintro _ _ ⟨i1, s5, hi1, hs5, rfl, rfl⟩
        have hixi1 : 9 ≤ ix [9, 9, 9, 11] i1 ∧ ix [9, 9, 9, 11] i1 ≤ 11 := by
          rcases (by omega : i1 = 0 ∨ i1 = 1 ∨ i1 = 2 ∨ i1 = 3) with rfl | rfl | rfl | rfl <;> simp [ix]
        refine ⟨(Some'.weak (.skip (.skip (.take (.take (.nil _)))))), ?_⟩
        refine DL.stepS (i := 11) (by kernel_rfl) rfl rfl (OpStep.callM (H1 := [.blk b2 84 [.slice Ac n cc, .int .i64 (((s5.1 : Nat) : Int)), .int .u64 (s5.2)]]) (H2 := [.own vg 71 3 g (ints gx), .blk b3 38 [.int .i64 (((N0 : Nat) : Int)), vg], .blk b1 38 [.int .i64 0, .slice none 0 0]]) (vs := [.pointer (some ⟨b2, 0, none⟩), .int .i64 ((((N0 : Nat) : Int)) - 1)]) (caps := []) Tcall_64 rfl rfl (Weak.refl _) (fun w hs => pick_ex (s := s5) (by omega) (Cur.top ha hby hs (.head _)) (hs.sub (List.sublist_append_left _ _)).self) ?_)
        rintro _ _ ⟨x5, s6, hx5, hs6, rfl, rfl⟩
        refine ⟨(Some'.weak (.skip (.skip (.take (.take (.nil _)))))), ?_⟩
        refine DL.takeP (i := 12) (v := .int .i64 ((x4 + 1) + x5)) rfl (by kernel_rfl) (by kernel_rfl) (by kernel_rfl) (fun _ _ _ h => h) rfl (fun _ => OpY.add rfl rfl rfl (by omega) (by omega)) ?_
        have hem := Int.emod_nonneg ((x4 + 1) + x5) (show ((N0 : Nat) : Int) ≠ 0 by omega)
        refine DL.takeP (i := 14) (v := .int .i64 (((x4 + 1) + x5) % (((N0 : Nat) : Int)))) rfl (by kernel_rfl) (by kernel_rfl) (by kernel_rfl) (fun _ _ _ h => h) rfl (fun _ => OpY.rem rfl rfl (by omega) (by omega)) ?_
        refine DL.takeP (i := 15) (v := .agg #[.int .i64 (ix [9, 9, 9, 11] i1), .int .i64 x4, .int .i64 (((x4 + 1) + x5) % (((N0 : Nat) : Int)))]) rfl (by kernel_rfl) (by kernel_rfl) (by kernel_rfl) (fun _ _ _ h => h) rfl (fun _ => OpY.build (cs := [.int .i64 (ix [9, 9, 9, 11] i1), .int .i64 x4, .int .i64 (((x4 + 1) + x5) % (((N0 : Nat) : Int)))]) (by kernel_rfl)) ?_
        refine DL.stepS (i := 16) (by kernel_rfl) rfl rfl (OpStep.buildSlice (us := [.int .i64 (ix [9, 9, 9, 11] i1), .int .i64 x4, .int .i64 (((x4 + 1) + x5) % (((N0 : Nat) : Int)))]) Tsl_36 (by decide) (by decide) ⟨rfl, [.int .i64 (ix [9, 9, 9, 11] i1), .int .i64 x4, .int .i64 (((x4 + 1) + x5) % (((N0 : Nat) : Int)))], _, rfl, rfl, rfl, rfl⟩ rfl fun b5 => ?_)
        refine ⟨(Some'.weak (.skip (.skip (.skip (.take (.take (.nil _))))))), ?_⟩
        refine DL.stepS (i := 17) (by kernel_rfl) rfl rfl (OpStep.append (H1 := [.own (.slice (some ⟨b5, 0, none⟩) 1 1) 71 3 1 ([.int .i64 (ix [9, 9, 9, 11] i1), .int .i64 x4, .int .i64 (((x4 + 1) + x5) % (((N0 : Nat) : Int)))]), .blk b2 84 [.slice Ac n cc, .int .i64 (((s6.1 : Nat) : Int)), .int .u64 (s6.2)]]) (H2 := [.blk b3 38 [.int .i64 (((N0 : Nat) : Int)), vg], .blk b1 38 [.int .i64 0, .slice none 0 0]]) (v := vg) (u := .slice (some ⟨b5, 0, none⟩) 1 1) (n := g) (m := 1) (xs := ints gx) (ys := [.int .i64 (ix [9, 9, 9, 11] i1), .int .i64 x4, .int .i64 (((x4 + 1) + x5) % (((N0 : Nat) : Int)))]) Tsl_36 (by decide) rfl rfl rfl rfl (fun w hs => hs.slOwn (.head _)) (by simp [Value.oneCell']) (by omega) (by simp only [maxLen]; omega) fun av1 hnav1 => ?_)
        refine DL.weakS (H' := [.own (.slice (some ⟨b5, 0, none⟩) 1 1) 71 3 1 ([.int .i64 (ix [9, 9, 9, 11] i1), .int .i64 x4, .int .i64 (((x4 + 1) + x5) % (((N0 : Nat) : Int)))]), .blk b2 84 [.slice Ac n cc, .int .i64 (((s6.1 : Nat) : Int)), .int .u64 (s6.2)], .own av1 71 3 (g + 1) (ints (gx ++ [ix [9, 9, 9, 11] i1, x4, ((x4 + 1) + x5) % (((N0 : Nat) : Int))])), .blk b3 38 [.int .i64 (((N0 : Nat) : Int)), vg], .blk b1 38 [.int .i64 0, .slice none 0 0]]) (Some'.weak (.take (.take (.takeEq (by simp [ints]) (.take (.take (.nil _))))))) ?_
        refine ⟨(Some'.weak (.skip (.skip (.skip (.take (.take (.nil _))))))), ?_⟩
        refine DL.takeP (i := 18) (v := .pointer (some ⟨b3, 1, none⟩)) rfl (by kernel_rfl) (by kernel_rfl) (by kernel_rfl) (fun _ _ _ h => h) rfl (fun _ => OpY.fieldAddr Tfo_38_1 rfl rfl) ?_
        refine DL.formOwn (.tail _ (.tail _ (List.Mem.head _))) (fun A_av11 c_av11 hv hcapc_av11 hmaxc_av11 => ?_)
        subst hv
        refine DL.step (i := 19) (by kernel_rfl) (by kernel_rfl) rfl rfl (OpStep.store (us := [.slice A_av11 (g + 1) c_av11]) Tsize_36 rfl rfl rfl (.there _ (.there _ (.there _ (.here _)))) (by simp only [List.length_cons, List.length_nil]; omega) ?_)
        show DL _ _ _ _ _ _ _ _ [.own (.slice (some ⟨b5, 0, none⟩) 1 1) 71 3 1 ([.int .i64 (ix [9, 9, 9, 11] i1), .int .i64 x4, .int .i64 (((x4 + 1) + x5) % (((N0 : Nat) : Int)))]), .blk b2 84 [.slice Ac n cc, .int .i64 (((s6.1 : Nat) : Int)), .int .u64 (s6.2)], .own (.slice A_av11 (g + 1) c_av11) 71 3 (g + 1) (ints (gx ++ [ix [9, 9, 9, 11] i1, x4, ((x4 + 1) + x5) % (((N0 : Nat) : Int))])), .blk b3 38 [.int .i64 (((N0 : Nat) : Int)), .slice A_av11 (g + 1) c_av11], .blk b1 38 [.int .i64 0, .slice none 0 0]]
        refine DL.done (by kernel_rfl) ?_
        refine Run.blockEnd ?_
        refine Run.region ?_
        refine Run.q (v := .int .i64 (((i : Nat) : Int))) rfl (OpQ.y (OpY.pure rfl)) ?_
        refine Run.q (v := .int .i64 ((((i : Nat) : Int)) - 1)) rfl (OpQ.y (OpY.sub rfl rfl rfl (by omega) (by omega))) ?_
        refine Run.q (v := .int .i64 ((((i : Nat) : Int)) - 1)) rfl (OpQ.y (OpY.pure rfl)) ?_
        refine Run.done ?_
        refine Run.goal ⟨(by repeat (first | exact Same.refl _ _ | refine Same.put rfl ?_ | refine Same.over rfl rfl ?_)), (i - 1, s6, g + 1, (gx ++ [ix [9, 9, 9, 11] i1, x4, ((x4 + 1) + x5) % (((N0 : Nat) : Int))]), .slice A_av11 (g + 1) c_av11), ?_, ?_, ?_, ?_⟩
        · exact ⟨by omega, by omega⟩
        · show i - 1 < i; omega
        · exact ⟨(by show Value.int _ _ = Value.int _ _; congr 1; omega), trivial⟩
        · exact (((((Weak.front [.own (.slice (some ⟨b5, 0, none⟩) 1 1) 71 3 1 ([.int .i64 (ix [9, 9, 9, 11] i1), .int .i64 x4, .int .i64 (((x4 + 1) + x5) % (((N0 : Nat) : Int)))])] (.blk b2 84 [.slice Ac n cc, .int .i64 (((s6.1 : Nat) : Int)), .int .u64 (s6.2)]) [.own (.slice A_av11 (g + 1) c_av11) 71 3 (g + 1) (ints (gx ++ [ix [9, 9, 9, 11] i1, x4, ((x4 + 1) + x5) % (((N0 : Nat) : Int))])), .blk b3 38 [.int .i64 (((N0 : Nat) : Int)), .slice A_av11 (g + 1) c_av11], .blk b1 38 [.int .i64 0, .slice none 0 0]]).trans (Weak.front [.blk b2 84 [.slice Ac n cc, .int .i64 (((s6.1 : Nat) : Int)), .int .u64 (s6.2)], .own (.slice (some ⟨b5, 0, none⟩) 1 1) 71 3 1 ([.int .i64 (ix [9, 9, 9, 11] i1), .int .i64 x4, .int .i64 (((x4 + 1) + x5) % (((N0 : Nat) : Int)))]), .own (.slice A_av11 (g + 1) c_av11) 71 3 (g + 1) (ints (gx ++ [ix [9, 9, 9, 11] i1, x4, ((x4 + 1) + x5) % (((N0 : Nat) : Int))])), .blk b3 38 [.int .i64 (((N0 : Nat) : Int)), .slice A_av11 (g + 1) c_av11]] (.blk b1 38 [.int .i64 0, .slice none 0 0]) [])).trans (Weak.front [.blk b1 38 [.int .i64 0, .slice none 0 0], .blk b2 84 [.slice Ac n cc, .int .i64 (((s6.1 : Nat) : Int)), .int .u64 (s6.2)], .own (.slice (some ⟨b5, 0, none⟩) 1 1) 71 3 1 ([.int .i64 (ix [9, 9, 9, 11] i1), .int .i64 x4, .int .i64 (((x4 + 1) + x5) % (((N0 : Nat) : Int)))]), .own (.slice A_av11 (g + 1) c_av11) 71 3 (g + 1) (ints (gx ++ [ix [9, 9, 9, 11] i1, x4, ((x4 + 1) + x5) % (((N0 : Nat) : Int))]))] (.blk b3 38 [.int .i64 (((N0 : Nat) : Int)), .slice A_av11 (g + 1) c_av11]) [])).trans (Weak.front [.blk b3 38 [.int .i64 (((N0 : Nat) : Int)), .slice A_av11 (g + 1) c_av11], .blk b1 38 [.int .i64 0, .slice none 0 0], .blk b2 84 [.slice Ac n cc, .int .i64 (((s6.1 : Nat) : Int)), .int .u64 (s6.2)], .own (.slice (some ⟨b5, 0, none⟩) 1 1) 71 3 1 ([.int .i64 (ix [9, 9, 9, 11] i1), .int .i64 x4, .int .i64 (((x4 + 1) + x5) % (((N0 : Nat) : Int)))])] (.own (.slice A_av11 (g + 1) c_av11) 71 3 (g + 1) (ints (gx ++ [ix [9, 9, 9, 11] i1, x4, ((x4 + 1) + x5) % (((N0 : Nat) : Int))]))) [])).trans (Some'.weak (.takeEq (by first | rfl | simp [ints]) (.takeEq (by first | rfl | simp [ints]) (.take (.takeEq (by first | rfl | simp [ints]) (.nil _)))))))
      · have p23 := h23; try simp only [bs] at p23
        refine Run.exit rfl ?_
        refine Run.seq ?_
        refine Run.seq ?_
        refine Run.region ?_
        refine Run.q (v := .pointer (some ⟨b2, 0, none⟩)) rfl (OpQ.y (OpY.pure rfl)) ?_
        refine Run.step rfl (OpStep.callM (H1 := [.blk b2 84 [.slice Ac n cc, .int .i64 (((sc.1 : Nat) : Int)), .int .u64 (sc.2)]]) (H2 := [.own vg 71 3 g (ints gx), .blk b3 38 [.int .i64 (((N0 : Nat) : Int)), vg], .blk b1 38 [.int .i64 0, .slice none 0 0]]) (vs := [.pointer (some ⟨b2, 0, none⟩), .int .i64 8]) (caps := []) Tcall_62 rfl rfl (Weak.front [.own vg 71 3 g (ints gx), .blk b3 38 [.int .i64 (((N0 : Nat) : Int)), vg], .blk b1 38 [.int .i64 0, .slice none 0 0]] (.blk b2 84 [.slice Ac n cc, .int .i64 (((sc.1 : Nat) : Int)), .int .u64 (sc.2)]) []) (fun w hs => one_ex (s := sc) (by omega) (Cur.top ha hby hs (.head _)) (hs.sub (List.sublist_append_left _ _)).self) ?_)
        rintro _ _ ⟨x6, s7, hs7, rfl, rfl⟩
        show Run _ _ (putF _ _ _ (.bool x6)) [.blk b2 84 [.slice Ac n cc, .int .i64 (((s7.1 : Nat) : Int)), .int .u64 (s7.2)], .own vg 71 3 g (ints gx), .blk b3 38 [.int .i64 (((N0 : Nat) : Int)), vg], .blk b1 38 [.int .i64 0, .slice none 0 0]]
        refine Run.done ?_
        refine Run.cond (b := x6) rfl (fun h49 => ?_) (fun h49 => ?_)
        · have p49 := h49; try simp only [bs] at p49
          refine Run.region ?_
          refine Run.q (v := .pointer (some ⟨b3, 1, none⟩)) rfl (OpQ.y (OpY.fieldAddr Tfo_38_1 rfl rfl)) ?_
          refine Run.q (v := vg) rfl (OpQ.y (OpY.load1 Tone_36 rfl (Cells.blk (.tail _ (.tail _ (List.Mem.head _))) ⟨rfl, trivial⟩))) ?_
          refine Run.q (v := .agg #[.int .i64 4, .int .i64 0, .int .i64 0]) rfl (OpQ.y (OpY.build (cs := [.int .i64 4, .int .i64 0, .int .i64 0]) (by kernel_rfl))) ?_
          refine Run.step rfl (OpStep.buildSlice (us := [.int .i64 4, .int .i64 0, .int .i64 0]) Tsl_36 (by decide) (by decide) ⟨rfl, [.int .i64 4, .int .i64 0, .int .i64 0], _, rfl, rfl, rfl, rfl⟩ rfl fun b6 => ?_)
          refine Run.step rfl (OpStep.append (H1 := [.own (.slice (some ⟨b6, 0, none⟩) 1 1) 71 3 1 ([.int .i64 4, .int .i64 0, .int .i64 0]), .blk b2 84 [.slice Ac n cc, .int .i64 (((s7.1 : Nat) : Int)), .int .u64 (s7.2)]]) (H2 := [.blk b3 38 [.int .i64 (((N0 : Nat) : Int)), vg], .blk b1 38 [.int .i64 0, .slice none 0 0]]) (v := vg) (u := .slice (some ⟨b6, 0, none⟩) 1 1) (n := g) (m := 1) (xs := ints gx) (ys := [.int .i64 4, .int .i64 0, .int .i64 0]) Tsl_36 (by decide) rfl rfl rfl rfl (fun w hs => hs.slOwn (.head _)) (by simp [Value.oneCell']) (by omega) (by simp only [maxLen]; omega) fun av2 hnav2 => ?_)
          refine Run.weak (H' := [.own (.slice (some ⟨b6, 0, none⟩) 1 1) 71 3 1 ([.int .i64 4, .int .i64 0, .int .i64 0]), .blk b2 84 [.slice Ac n cc, .int .i64 (((s7.1 : Nat) : Int)), .int .u64 (s7.2)], .own av2 71 3 (g + 1) (ints (gx ++ [4, 0, 0])), .blk b3 38 [.int .i64 (((N0 : Nat) : Int)), vg], .blk b1 38 [.int .i64 0, .slice none 0 0]]) (Some'.weak (.take (.take (.takeEq (by simp [ints]) (.take (.take (.nil _))))))) ?_ ⟨_, _, rfl, fun _ => nofun, fun _ => nofun⟩
          refine Run.q (v := .pointer (some ⟨b3, 1, none⟩)) rfl (OpQ.y (OpY.fieldAddr Tfo_38_1 rfl rfl)) ?_
          refine Run.formOwn (.tail _ (.tail _ (List.Mem.head _))) (fun A_av21 c_av21 hv hcapc_av21 hmaxc_av21 => ?_) (fun _ _ _ => ⟨nofun, nofun, nofun⟩)
          subst hv
          refine Run.step rfl (OpStep.store (us := [.slice A_av21 (g + 1) c_av21]) Tsize_36 rfl rfl rfl (.there _ (.there _ (.there _ (.here _)))) (by simp only [List.length_cons, List.length_nil]; omega) ?_)
          show Run _ _ _ [.own (.slice (some ⟨b6, 0, none⟩) 1 1) 71 3 1 ([.int .i64 4, .int .i64 0, .int .i64 0]), .blk b2 84 [.slice Ac n cc, .int .i64 (((s7.1 : Nat) : Int)), .int .u64 (s7.2)], .own (.slice A_av21 (g + 1) c_av21) 71 3 (g + 1) (ints (gx ++ [4, 0, 0])), .blk b3 38 [.int .i64 (((N0 : Nat) : Int)), .slice A_av21 (g + 1) c_av21], .blk b1 38 [.int .i64 0, .slice none 0 0]]
          refine Run.done ?_
          refine Run.seq ?_
          refine Run.region ?_
          refine Run.q (v := .agg #[.int .i64 (((N0 : Nat) : Int)), .slice A_av21 (g + 1) c_av21]) rfl (OpQ.y (OpY.loadN (cs := [.int .i64 (((N0 : Nat) : Int)), .slice A_av21 (g + 1) c_av21]) Tagg_38 rfl (Cells.blk (.tail _ (.tail _ (.tail _ (List.Mem.head _)))) ⟨rfl, rfl, trivial⟩))) ?_
          refine Run.step rfl (OpStep.storeAll (us := [.int .i64 (((N0 : Nat) : Int)), .slice A_av21 (g + 1) c_av21]) Tsize_38 rfl rfl rfl (.there _ (.there _ (.there _ (.there _ (.here _))))) rfl ?_)
          refine Run.done ?_
          refine Run.ret ?_
          refine ⟨.agg #[.int .i64 (((N0 : Nat) : Int)), .slice A_av21 (g + 1) c_av21], [.own (.slice A_av21 (g + 1) c_av21) 71 3 (g + 1) (ints (gx ++ [4, 0, 0]))], Out.cell1 (cs := [.int .i64 (((N0 : Nat) : Int)), .slice A_av21 (g + 1) c_av21]) rfl Tagg_38 rfl (Cells.blk (.tail _ (.tail _ (.tail _ (.tail _ (List.Mem.head _))))) ⟨rfl, rfl, trivial⟩), (Some'.weak (.skip (.skip (.take (.nil _))))), ?_⟩
          exact ⟨_, _, _, _, by omega, rfl, rfl⟩
        · have p49 := h49; try simp only [bs] at p49
          refine Run.skip ?_
          refine Run.seq ?_
          refine Run.region ?_
          refine Run.q (v := .agg #[.int .i64 (((N0 : Nat) : Int)), vg]) rfl (OpQ.y (OpY.loadN (cs := [.int .i64 (((N0 : Nat) : Int)), vg]) Tagg_38 rfl (Cells.blk (.tail _ (.tail _ (List.Mem.head _))) ⟨rfl, rfl, trivial⟩))) ?_
          refine Run.formOwn (.tail _ (List.Mem.head _)) (fun A_vg1 c_vg1 hv hcapc_vg1 hmaxc_vg1 => ?_) (fun _ _ _ => ⟨nofun, nofun, nofun⟩)
          subst hv
          refine Run.step rfl (OpStep.storeAll (us := [.int .i64 (((N0 : Nat) : Int)), .slice A_vg1 g c_vg1]) Tsize_38 rfl rfl rfl (.there _ (.there _ (.there _ (.here _)))) rfl ?_)
          refine Run.done ?_
          refine Run.ret ?_
          refine ⟨.agg #[.int .i64 (((N0 : Nat) : Int)), .slice A_vg1 g c_vg1], [.own (.slice A_vg1 g c_vg1) 71 3 g (ints gx)], Out.cell1 (cs := [.int .i64 (((N0 : Nat) : Int)), .slice A_vg1 g c_vg1]) rfl Tagg_38 rfl (Cells.blk (.tail _ (.tail _ (.tail _ (List.Mem.head _)))) ⟨rfl, rfl, trivial⟩), (Some'.weak (.skip (.take (.nil _)))), ?_⟩
          exact ⟨_, _, _, _, by omega, rfl, rfl⟩

end Go.Proofs.Yteehfidjofcfmaa
