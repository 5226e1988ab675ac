/- Walks: drawn open graphs. -/
import Derived.Test.YtoiaibgcjfgbcaaG10
import Derived.Test.YtoiaibgcjfgbcaaProg
import Derived.Test.YtoiaibgcjfgbcaaG8
set_option linter.unusedSimpArgs false
set_option linter.unusedVariables false
namespace Go.Proofs.Ytoiaibgcjfgbcaa
open Go Go.RowKit
namespace FwkT
theorem Tagg_26 : aggOf Try.prog 26 = some 4 := by kernel_rfl
theorem Tcall_23 : callable Try.prog 23 = true := by kernel_rfl
theorem Tcall_41 : callable Try.prog 41 = true := by kernel_rfl
theorem Tcall_42 : callable Try.prog 42 = true := by kernel_rfl
theorem Tcall_43 : callable Try.prog 43 = true := by kernel_rfl
theorem Tcall_44 : callable Try.prog 44 = true := by kernel_rfl
theorem Tcall_63 : callable Try.prog 63 = true := by kernel_rfl
theorem Tcall_70 : callable Try.prog 70 = true := by kernel_rfl
theorem Tcall_78 : callable Try.prog 78 = true := by kernel_rfl
theorem Tfo_26_0 : fieldOff Try.prog 26 0 = some 0 := by kernel_rfl
theorem Tfo_26_1 : fieldOff Try.prog 26 1 = some 1 := by kernel_rfl
theorem Tfo_26_2 : fieldOff Try.prog 26 2 = some 2 := by kernel_rfl
theorem Tfo_26_3 : fieldOff Try.prog 26 3 = some 3 := by kernel_rfl
theorem Tone_23 : oneOf Try.prog 23 = true := by kernel_rfl
theorem Tone_24 : oneOf Try.prog 24 = true := by kernel_rfl
theorem Tone_3 : oneOf Try.prog 3 = true := by kernel_rfl
theorem Tsize_23 : (Try.prog.info? 23).map (·.size) = some 1 := by kernel_rfl
theorem Tsize_24 : (Try.prog.info? 24).map (·.size) = some 1 := by kernel_rfl
theorem Tsize_26 : (Try.prog.info? 26).map (·.size) = some 4 := by kernel_rfl
theorem Tsize_3 : (Try.prog.info? 3).map (·.size) = some 1 := by kernel_rfl
theorem Tsl_23 : sliceOf Try.prog 23 = some (80, 2, 16, [.int .i64 0, .int .i64 0]) := by kernel_rfl
theorem Tsl_24 : sliceOf Try.prog 24 = some (3, 1, 8, [.int .i64 0]) := by kernel_rfl
theorem Tsl_97 : sliceOf Try.prog 97 = some (98, 2, 16, [.int .i64 0, .int .i64 0]) := by kernel_rfl
theorem Tzero_26 : zeroOf Try.prog 26 = some [.int .i64 0, .slice none 0 0, .slice none 0 0, .slice none 0 0] := by kernel_rfl
end FwkT
open FwkT
set_option maxHeartbeats 2000000 in
set_option maxRecDepth 20000 in
theorem openGraph_spec {bc n : Nat} {vc : Value} {cs : List Int} {s : Nat × Int} {w : World} (hat : s.1 < 2305843009211000000) (hc : Cur w bc vc n cs) (hst : St (Of [.blk bc 64 [vc, .int .i64 (((s.1 : Nat) : Int)), .int .u64 (s.2)]]) w w [.blk bc 64 [vc, .int .i64 (((s.1 : Nat) : Int)), .int .u64 (s.2)]]) : Calls Try.prog 70 #[.pointer (some ⟨bc, 0, none⟩)] w (Post (Of [.blk bc 64 [vc, .int .i64 (((s.1 : Nat) : Int)), .int .u64 (s.2)]]) w fun v H => ∃ (N m ni no : Nat) (ve vi vo : Value) (es is os : List Int) (s1 : Nat × Int), ((1 ≤ N ∧ N ≤ 10) ∧ m ≤ 100 ∧ ni ≤ 11 ∧ no ≤ 11 ∧ s1.1 ≤ s.1 + 110 ∧ ∀ x ∈ es, 0 ≤ x ∧ x ≤ 100) ∧ v = .agg #[.int .i64 (N : Nat), ve, vi, vo] ∧ H = [.own ve 80 2 m (ints es), .own vi 3 1 ni (ints is), .own vo 3 1 no (ints os), .blk bc 64 [vc, .int .i64 (s1.1 : Nat), .int .u64 s1.2]]) := by
 refine enter (n := 91) (args := [.pointer (some ⟨bc, 0, none⟩)]) Try.func70 rfl rfl (hst) ?_
 refine Run.sr ?_
 refine Run.step rfl (OpStep.alloc (zs := [.int .i64 0, .slice none 0 0, .slice none 0 0, .slice none 0 0]) Tzero_26 fun b1 => ?_)
 refine Run.done ?_
 refine Run.seq ?_
 refine Run.sr ?_
 refine Run.p (.pointer (some ⟨bc, 0, none⟩)) rfl rfl ?_
 refine Run.step rfl (OpStep.callM (H1 := [.blk bc 64 [vc, .int .i64 (((s.1 : Nat) : Int)), .int .u64 (s.2)]]) (H2 := [.blk b1 26 [.int .i64 0, .slice none 0 0, .slice none 0 0, .slice none 0 0]]) (vs := [.pointer (some ⟨bc, 0, none⟩), .int .i64 4]) (caps := []) Tcall_43 rfl rfl (Weak.selF [1]) (fun w hs => pick_ex (by omega) (hc.go hs) (hs.sub (List.sublist_append_left _ _)).self) ?_)
 rintro _ _ ⟨x1, s1, hx1, hs1, rfl, rfl⟩
 show Run _ _ (putF _ _ _ (.int .i64 x1)) [.blk bc 64 [vc, .int .i64 (((s1.1 : Nat) : Int)), .int .u64 (s1.2)], .blk b1 26 [.int .i64 0, .slice none 0 0, .slice none 0 0, .slice none 0 0]]
 refine Run.done ?_
 refine Run.block ?_
 refine Run.sr ?_
 refine Run.p (.bool (x1 == 0)) rfl rfl ?_
 refine Run.p (.bool (x1 == 0)) rfl rfl ?_
 refine Run.done ?_
 refine Run.cond (b := x1 == 0) rfl (fun h12 => ?_) (fun h12 => ?_)
 ·have p12 := h12; try simp only [bs] at p12
  refine Run.sr ?_
  refine Run.p (.pointer (some ⟨bc, 0, none⟩)) rfl rfl ?_
  refine Run.step rfl (OpStep.callM (H1 := [.blk bc 64 [vc, .int .i64 (((s1.1 : Nat) : Int)), .int .u64 (s1.2)]]) (H2 := [.blk b1 26 [.int .i64 0, .slice none 0 0, .slice none 0 0, .slice none 0 0]]) (vs := [.pointer (some ⟨bc, 0, none⟩), .int .i64 7]) (caps := []) Tcall_43 rfl rfl (Weak.refl _) (fun w hs => pick_ex (by omega) (hc.go hs) (hs.sub (List.sublist_append_left _ _)).self) ?_)
  rintro _ _ ⟨x2, s2, hx2, hs2, rfl, rfl⟩
  show Run _ _ (putF _ _ _ (.int .i64 x2)) [.blk bc 64 [vc, .int .i64 (((s2.1 : Nat) : Int)), .int .u64 (s2.2)], .blk b1 26 [.int .i64 0, .slice none 0 0, .slice none 0 0, .slice none 0 0]]
  refine Run.y (.int .i64 (1 + x2)) rfl (OpY.add rfl rfl rfl (by omega) (by omega)) ?_
  obtain ⟨N, hN⟩ : ∃ N : Nat, 1 + x2 = ((N : Nat) : Int) := ⟨(1 + x2).toNat, by omega⟩
  rw [hN]
  refine Run.y (.agg #[.int .i64 (((N : Nat) : Int)), .slice none 0 0, .slice none 0 0, .slice none 0 0]) rfl (OpY.build (cs := [.int .i64 (((N : Nat) : Int)), .slice none 0 0, .slice none 0 0, .slice none 0 0]) (by kernel_rfl)) ?_
  refine Run.step rfl (OpStep.alloc (zs := [.int .i64 0, .slice none 0 0, .slice none 0 0, .slice none 0 0]) Tzero_26 fun b2 => ?_)
  refine Run.step rfl (OpStep.storeAll (us := [.int .i64 (((N : Nat) : Int)), .slice none 0 0, .slice none 0 0, .slice none 0 0]) Tsize_26 rfl rfl rfl (.here _) rfl ?_)
  refine Run.dsr ?_
  refine Run.p (.slice none 0 0) rfl rfl ?_
  refine Run.done ?_
  refine Run.weak (H' := [.own (.slice none 0 0) 98 2 0 ([]), .blk b2 26 [.int .i64 (((N : Nat) : Int)), .slice none 0 0, .slice none 0 0, .slice none 0 0], .blk bc 64 [vc, .int .i64 (((s2.1 : Nat) : Int)), .int .u64 (s2.2)], .blk b1 26 [.int .i64 0, .slice none 0 0, .slice none 0 0, .slice none 0 0]]) (Weak.nilOwn _ _) ?_ ⟨_, _, rfl, fun _ => nofun, fun _ => nofun⟩
  refine Run.weak (H' := [.own (.slice none 0 0) 3 1 0 ([]), .own (.slice none 0 0) 98 2 0 ([]), .blk b2 26 [.int .i64 (((N : Nat) : Int)), .slice none 0 0, .slice none 0 0, .slice none 0 0], .blk bc 64 [vc, .int .i64 (((s2.1 : Nat) : Int)), .int .u64 (s2.2)], .blk b1 26 [.int .i64 0, .slice none 0 0, .slice none 0 0, .slice none 0 0]]) (Weak.nilOwn _ _) ?_ ⟨_, _, rfl, fun _ => nofun, fun _ => nofun⟩
  refine Run.weak (H' := [.own (.slice none 0 0) 3 1 0 ([]), .own (.slice none 0 0) 3 1 0 ([]), .own (.slice none 0 0) 98 2 0 ([]), .blk b2 26 [.int .i64 (((N : Nat) : Int)), .slice none 0 0, .slice none 0 0, .slice none 0 0], .blk bc 64 [vc, .int .i64 (((s2.1 : Nat) : Int)), .int .u64 (s2.2)], .blk b1 26 [.int .i64 0, .slice none 0 0, .slice none 0 0, .slice none 0 0]]) (Weak.nilOwn _ _) ?_ ⟨_, _, rfl, fun _ => nofun, fun _ => nofun⟩
  refine Run.seq ?_
  refine Run.sr ?_
  refine Run.p (.pointer (some ⟨bc, 0, none⟩)) rfl rfl ?_
  refine Run.step rfl (OpStep.callM (H1 := [.blk bc 64 [vc, .int .i64 (((s2.1 : Nat) : Int)), .int .u64 (s2.2)]]) (H2 := [.own (.slice none 0 0) 3 1 0 ([]), .own (.slice none 0 0) 3 1 0 ([]), .own (.slice none 0 0) 98 2 0 ([]), .blk b2 26 [.int .i64 (((N : Nat) : Int)), .slice none 0 0, .slice none 0 0, .slice none 0 0], .blk b1 26 [.int .i64 0, .slice none 0 0, .slice none 0 0, .slice none 0 0]]) (vs := [.pointer (some ⟨bc, 0, none⟩), .int .i64 12]) (caps := []) Tcall_43 rfl rfl (Weak.selF [4]) (fun w hs => pick_ex (by omega) (hc.go hs) (hs.sub (List.sublist_append_left _ _)).self) ?_)
  rintro _ _ ⟨x3, s3, hx3, hs3, rfl, rfl⟩
  show Run _ _ (putF _ _ _ (.int .i64 x3)) [.blk bc 64 [vc, .int .i64 (((s3.1 : Nat) : Int)), .int .u64 (s3.2)], .own (.slice none 0 0) 3 1 0 ([]), .own (.slice none 0 0) 3 1 0 ([]), .own (.slice none 0 0) 98 2 0 ([]), .blk b2 26 [.int .i64 (((N : Nat) : Int)), .slice none 0 0, .slice none 0 0, .slice none 0 0], .blk b1 26 [.int .i64 0, .slice none 0 0, .slice none 0 0, .slice none 0 0]]
  refine Run.p (.int .i64 x3) rfl rfl ?_
  refine Run.done ?_
  obtain ⟨i0, hi0⟩ : ∃ i0 : Nat, x3 = ((i0 : Nat) : Int) := ⟨(x3).toNat, by omega⟩
  rw [hi0]
  refine Run.block ?_
  refine Run.loop (ι := Nat × (Nat × Int) × Nat × List Int × Value) [4, 5, 20, 21, 22, 23, 24, 25, 26, 27, 28, 29, 30, 31, 32, 33, 34, 35] (fun ⟨i, sc, m, ps, vp⟩ => [(4, vp), (5, .int .i64 (((i : Nat) : Int)))]) (fun ⟨i, sc, m, ps, vp⟩ => [.own vp 98 2 m (ints ps), .own (.slice none 0 0) 3 1 0 ([]), .own (.slice none 0 0) 3 1 0 ([]), .blk b2 26 [.int .i64 (((N : Nat) : Int)), .slice none 0 0, .slice none 0 0, .slice none 0 0], .blk b1 26 [.int .i64 0, .slice none 0 0, .slice none 0 0, .slice none 0 0], .blk bc 64 [vc, .int .i64 (((sc.1 : Nat) : Int)), .int .u64 (sc.2)]]) (fun ⟨i, sc, m, ps, vp⟩ => m + i ≤ 12 ∧ sc.1 + 4 * i ≤ s.1 + 60) (fun ⟨i, sc, m, ps, vp⟩ => i) (i0, s3, 0, [], .slice none 0 0) ?_ ?_ ?_ ?_
  ·exact ⟨by omega, by omega⟩
  ·exact ⟨rfl, rfl, trivial⟩
  ·exact ((Weak.selF [3, 1, 1, 1, 1, 0]).trans (Some'.weak (.takeEq (by first | rfl | simp) (.take (.take (.take (.take (.takeEq (by first | rfl | simp) (.nil _)))))))))
  ·rintro ⟨i, sc, m, ps, vp⟩ fr hinv
   show Run _ _ (over _ _ [(4, vp), (5, .int .i64 (((i : Nat) : Int)))] fr) [.own vp 98 2 m (ints ps), .own (.slice none 0 0) 3 1 0 ([]), .own (.slice none 0 0) 3 1 0 ([]), .blk b2 26 [.int .i64 (((N : Nat) : Int)), .slice none 0 0, .slice none 0 0, .slice none 0 0], .blk b1 26 [.int .i64 0, .slice none 0 0, .slice none 0 0, .slice none 0 0], .blk bc 64 [vc, .int .i64 (((sc.1 : Nat) : Int)), .int .u64 (sc.2)]]
   try dsimp only at hinv
   refine Run.seq ?_
   refine Run.sr ?_
   refine Run.p (.int .i64 (((i : Nat) : Int))) rfl rfl ?_
   refine Run.p (.bool (decide ((((i : Nat) : Int)) > 0))) rfl rfl ?_
   refine Run.done ?_
   refine Run.cond (b := decide ((((i : Nat) : Int)) > 0)) rfl (fun h21 => ?_) (fun h21 => ?_)
   ·have p21 := h21; try simp only [bs] at p21
    refine Run.skip ?_
    refine Run.seq ?_
    refine Run.block ?_
    refine Run.heldB (base := [.blk b2 26 [.int .i64 (((N : Nat) : Int)), .slice none 0 0, .slice none 0 0, .slice none 0 0]]) (by kernel_rfl) ?_
    refine DW.take (i := 0) (v := vp) rfl (by kernel_rfl) (by kernel_rfl) (by kernel_rfl) (fun _ _ _ h => h) (Some'.weak (.skip (.skip (.skip (.take (.nil _)))))) rfl (OpY.pure rfl) ?_
    refine DW.take (i := 1) (v := .pointer (some ⟨bc, 0, none⟩)) rfl (by kernel_rfl) (by kernel_rfl) (by kernel_rfl) (fun _ _ _ h => h) (Some'.weak (.skip (.skip (.skip (.take (.nil _)))))) rfl (OpY.pure rfl) ?_
    refine DW.take (i := 2) (v := .pointer (some ⟨b2, 0, none⟩)) rfl (by kernel_rfl) (by kernel_rfl) (by kernel_rfl) (fun _ _ _ h => h) (Some'.weak (.skip (.skip (.skip (.take (.nil _)))))) rfl (OpY.fieldAddr Tfo_26_0 rfl rfl) ?_
    refine DW.take (i := 3) (v := .int .i64 (((N : Nat) : Int))) rfl (by kernel_rfl) (by kernel_rfl) (by kernel_rfl) (fun _ _ _ h => h) (Some'.weak (.skip (.skip (.skip (.take (.nil _)))))) rfl (OpY.load1 Tone_3 rfl (Cells.blk (.head _) ⟨rfl, trivial⟩)) ?_
    refine DW.take (i := 5) (v := .pointer (some ⟨bc, 0, none⟩)) rfl (by kernel_rfl) (by kernel_rfl) (by kernel_rfl) (fun _ _ _ h => h) (Some'.weak (.skip (.skip (.skip (.take (.nil _)))))) rfl (OpY.pure rfl) ?_
    refine DW.take (i := 6) (v := .pointer (some ⟨b2, 0, none⟩)) rfl (by kernel_rfl) (by kernel_rfl) (by kernel_rfl) (fun _ _ _ h => h) (Some'.weak (.skip (.skip (.skip (.take (.nil _)))))) rfl (OpY.fieldAddr Tfo_26_0 rfl rfl) ?_
    refine DW.take (i := 7) (v := .int .i64 (((N : Nat) : Int))) rfl (by kernel_rfl) (by kernel_rfl) (by kernel_rfl) (fun _ _ _ h => h) (Some'.weak (.skip (.skip (.skip (.take (.nil _)))))) rfl (OpY.load1 Tone_3 rfl (Cells.blk (.head _) ⟨rfl, trivial⟩)) ?_
    refine DW.step (i := 4) (by kernel_rfl) rfl rfl (OpStep.callM (H1 := [.blk bc 64 [vc, .int .i64 (((sc.1 : Nat) : Int)), .int .u64 (sc.2)]]) (H2 := [.own vp 98 2 m (ints ps), .own (.slice none 0 0) 3 1 0 ([]), .own (.slice none 0 0) 3 1 0 ([]), .blk b2 26 [.int .i64 (((N : Nat) : Int)), .slice none 0 0, .slice none 0 0, .slice none 0 0], .blk b1 26 [.int .i64 0, .slice none 0 0, .slice none 0 0, .slice none 0 0]]) (vs := [.pointer (some ⟨bc, 0, none⟩), .int .i64 (((N : Nat) : Int))]) (caps := []) Tcall_43 rfl rfl (Weak.selF [5]) (fun w hs => pick_ex (by omega) (hc.go hs) (hs.sub (List.sublist_append_left _ _)).self) ?_)
    rintro _ _ ⟨x4, s4, hx4, hs4, rfl, rfl⟩
    refine ⟨(Some'.weak (.skip (.skip (.skip (.skip (.take (.nil _))))))), ?_⟩
    refine DW.step (i := 8) (by kernel_rfl) rfl rfl (OpStep.callM (H1 := [.blk bc 64 [vc, .int .i64 (((s4.1 : Nat) : Int)), .int .u64 (s4.2)]]) (H2 := [.own vp 98 2 m (ints ps), .own (.slice none 0 0) 3 1 0 ([]), .own (.slice none 0 0) 3 1 0 ([]), .blk b2 26 [.int .i64 (((N : Nat) : Int)), .slice none 0 0, .slice none 0 0, .slice none 0 0], .blk b1 26 [.int .i64 0, .slice none 0 0, .slice none 0 0, .slice none 0 0]]) (vs := [.pointer (some ⟨bc, 0, none⟩), .int .i64 (((N : Nat) : Int))]) (caps := []) Tcall_43 rfl rfl (Weak.refl _) (fun w hs => pick_ex (by omega) (hc.go hs) (hs.sub (List.sublist_append_left _ _)).self) ?_)
    rintro _ _ ⟨x5, s5, hx5, hs5, rfl, rfl⟩
    refine ⟨(Some'.weak (.skip (.skip (.skip (.skip (.take (.nil _))))))), ?_⟩
    refine DW.take (i := 9) (v := .agg #[.int .i64 x4, .int .i64 x5]) rfl (by kernel_rfl) (by kernel_rfl) (by kernel_rfl) (fun _ _ _ h => h) (Some'.weak (.skip (.skip (.skip (.skip (.take (.nil _))))))) rfl (OpY.build (cs := [.int .i64 x4, .int .i64 x5]) (by kernel_rfl)) ?_
    refine DW.step (i := 10) (by kernel_rfl) rfl rfl (OpStep.buildSlice (us := [.int .i64 x4, .int .i64 x5]) Tsl_97 (by decide) (by decide) ⟨rfl, [.int .i64 x4, .int .i64 x5], _, rfl, rfl, rfl, rfl⟩ rfl fun b3 => ?_)
    refine ⟨(Some'.weak (.skip (.skip (.skip (.skip (.skip (.take (.nil _)))))))), ?_⟩
    refine DW.step (i := 11) (by kernel_rfl) rfl rfl (OpStep.append (H1 := [.own (.slice (some ⟨b3, 0, none⟩) 1 1) 98 2 1 ([.int .i64 x4, .int .i64 x5]), .blk bc 64 [vc, .int .i64 (((s5.1 : Nat) : Int)), .int .u64 (s5.2)]]) (H2 := [.own (.slice none 0 0) 3 1 0 ([]), .own (.slice none 0 0) 3 1 0 ([]), .blk b2 26 [.int .i64 (((N : Nat) : Int)), .slice none 0 0, .slice none 0 0, .slice none 0 0], .blk b1 26 [.int .i64 0, .slice none 0 0, .slice none 0 0, .slice none 0 0]]) (v := vp) (u := .slice (some ⟨b3, 0, none⟩) 1 1) (n := m) (m := 1) (xs := ints ps) (ys := [.int .i64 x4, .int .i64 x5]) Tsl_97 (by decide) rfl rfl rfl rfl (fun w hs => hs.slOwn (.head _)) (by simp [Value.oneCell']) (by omega) (by simp only [maxLen]; omega) fun av1 hnav1 => ?_)
    refine DW.weakS (H' := [.own (.slice (some ⟨b3, 0, none⟩) 1 1) 98 2 1 ([.int .i64 x4, .int .i64 x5]), .blk bc 64 [vc, .int .i64 (((s5.1 : Nat) : Int)), .int .u64 (s5.2)], .own av1 98 2 (m + 1) (ints (ps ++ [x4, x5])), .own (.slice none 0 0) 3 1 0 ([]), .own (.slice none 0 0) 3 1 0 ([]), .blk b2 26 [.int .i64 (((N : Nat) : Int)), .slice none 0 0, .slice none 0 0, .slice none 0 0], .blk b1 26 [.int .i64 0, .slice none 0 0, .slice none 0 0, .slice none 0 0]]) (Some'.weak (.take (.take (.takeEq (by simp [ints]) (.take (.take (.take (.take (.nil _))))))))) ?_
    refine ⟨(Some'.weak (.skip (.skip (.skip (.skip (.skip (.take (.nil _)))))))), ?_⟩
    refine DW.take (i := 12) (v := av1) rfl (by kernel_rfl) (by kernel_rfl) (by kernel_rfl) (fun _ _ _ h => h) (Some'.weak (.skip (.skip (.skip (.skip (.skip (.take (.nil _)))))))) rfl (OpY.pure rfl) ?_
    refine DW.done (by kernel_rfl) ?_
    refine Run.blockEnd ?_
    refine Run.region ?_
    refine Run.p (.int .i64 (((i : Nat) : Int))) rfl rfl ?_
    refine Run.y (.int .i64 (((i - 1 : Nat) : Int))) rfl (OpY.sub rfl rfl (by omega) (by omega) (by omega)) ?_
    refine Run.p (.int .i64 (((i - 1 : Nat) : Int))) rfl rfl ?_
    refine Run.done ?_
    refine Run.goal ⟨(by repeat (first | exact Same.refl _ _ | refine Same.put rfl ?_ | refine Same.over rfl rfl ?_)), (i - 1, s5, m + 1, ((ps ++ [x4, x5])), av1), ?_, ?_, ?_, ?_⟩
    ·exact ⟨by omega, by omega⟩
    ·show i - 1 < i; omega
    ·exact ⟨(by first | rfl | (congr 1; omega) | simp), (by first | rfl | (congr 1; omega) | simp), trivial⟩
    ·exact ((Weak.selF [2, 2, 2, 2, 2, 1]).trans (Some'.weak (.takeEq (by first | rfl | simp) (.takeEq (by first | rfl | simp) (.takeEq (by first | rfl | simp) (.take (.take (.takeEq (by first | rfl | simp) (.nil _)))))))))
   ·have p21 := h21; try simp only [bs] at p21
    refine Run.exit rfl ?_
    refine Run.sr ?_
    refine Run.y (.pointer (some ⟨b2, 0, none⟩)) rfl (OpY.fieldAddr Tfo_26_0 rfl rfl) ?_
    refine Run.y (.int .i64 (((N : Nat) : Int))) rfl (OpY.load1 Tone_3 rfl (Cells.blk (.tail _ (.tail _ (.tail _ (List.Mem.head _)))) ⟨rfl, trivial⟩)) ?_
    refine Run.p (vp) rfl rfl ?_
    refine Run.step rfl (OpStep.call (vs := [.int .i64 (((N : Nat) : Int)), vp]) (caps := []) Tcall_78 rfl rfl (fun w hs => l19Edges_spec (N := N) (by omega) (hs.slOwn (.head _))) ?_)
    rintro ve _ ⟨c, es, ⟨hc100, hsm⟩, rfl⟩
    show Run _ _ (putF _ _ _ ve) [.own ve 80 2 c (ints es), .own vp 98 2 m (ints ps), .own (.slice none 0 0) 3 1 0 ([]), .own (.slice none 0 0) 3 1 0 ([]), .blk b2 26 [.int .i64 (((N : Nat) : Int)), .slice none 0 0, .slice none 0 0, .slice none 0 0], .blk b1 26 [.int .i64 0, .slice none 0 0, .slice none 0 0, .slice none 0 0], .blk bc 64 [vc, .int .i64 (((sc.1 : Nat) : Int)), .int .u64 (sc.2)]]
    refine Run.y (.pointer (some ⟨b2, 1, none⟩)) rfl (OpY.fieldAddr Tfo_26_1 rfl rfl) ?_
    refine Run.formOwn (.head _) (fun A_ve1 c_ve1 hv hcapc_ve1 hmaxc_ve1 => ?_) (fun _ _ _ => ⟨nofun, nofun, nofun⟩)
    subst hv
    refine Run.step rfl (OpStep.store (us := [.slice A_ve1 c c_ve1]) Tsize_23 rfl rfl rfl (.there _ (.there _ (.there _ (.there _ (.here _))))) (by simp only [List.length_cons, List.length_nil]; omega) ?_)
    show Run _ _ _ [.own (.slice A_ve1 c c_ve1) 80 2 c (ints es), .own vp 98 2 m (ints ps), .own (.slice none 0 0) 3 1 0 ([]), .own (.slice none 0 0) 3 1 0 ([]), .blk b2 26 [.int .i64 (((N : Nat) : Int)), .slice A_ve1 c c_ve1, .slice none 0 0, .slice none 0 0], .blk b1 26 [.int .i64 0, .slice none 0 0, .slice none 0 0, .slice none 0 0], .blk bc 64 [vc, .int .i64 (((sc.1 : Nat) : Int)), .int .u64 (sc.2)]]
    refine Run.done ?_
    refine Run.seq ?_
    refine Run.sr ?_
    refine Run.p (.int .i64 0) rfl rfl ?_
    refine Run.done ?_
    refine Run.block ?_
    refine Run.loop (ι := Nat × (Nat × Int) × (Nat × List Int × Value) × (Nat × List Int × Value)) [6, 41, 42, 43, 44, 45, 46, 47, 48, 49, 50, 51, 52, 53, 54, 55, 56, 57, 58, 59, 60, 61, 62] (fun ⟨v, sc, ⟨ni, is, vi⟩, ⟨no, os, vo⟩⟩ => [(6, .int .i64 (((v : Nat) : Int)))]) (fun ⟨v, sc, ⟨ni, is, vi⟩, ⟨no, os, vo⟩⟩ => [.blk b2 26 [.int .i64 (((N : Nat) : Int)), .slice A_ve1 c c_ve1, vi, vo], .own vi 3 1 ni (ints is), .own vo 3 1 no (ints os), .own (.slice A_ve1 c c_ve1) 80 2 c (ints es), .blk b1 26 [.int .i64 0, .slice none 0 0, .slice none 0 0, .slice none 0 0], .blk bc 64 [vc, .int .i64 (((sc.1 : Nat) : Int)), .int .u64 (sc.2)]]) (fun ⟨v, sc, ⟨ni, is, vi⟩, ⟨no, os, vo⟩⟩ => v ≤ N ∧ ni ≤ v ∧ no ≤ v ∧ sc.1 ≤ s.1 + 60 + 4 * v) (fun ⟨v, sc, ⟨ni, is, vi⟩, ⟨no, os, vo⟩⟩ => N - v) (0, sc, (0, [], .slice none 0 0), (0, [], .slice none 0 0)) ?_ ?_ ?_ ?_
    ·exact ⟨by omega, by omega, by omega, by omega⟩
    ·exact ⟨rfl, trivial⟩
    ·exact ((Weak.selF [4, 2, 2, 0, 1, 1]).trans (Some'.weak (.takeEq (by first | rfl | simp) (.takeEq (by first | rfl | simp) (.takeEq (by first | rfl | simp) (.take (.take (.take (.nil _)))))))))
    ·rintro ⟨v, sc, ⟨ni, is, vi⟩, ⟨no, os, vo⟩⟩ fr hinv
     show Run _ _ (over _ _ [(6, .int .i64 (((v : Nat) : Int)))] fr) [.blk b2 26 [.int .i64 (((N : Nat) : Int)), .slice A_ve1 c c_ve1, vi, vo], .own vi 3 1 ni (ints is), .own vo 3 1 no (ints os), .own (.slice A_ve1 c c_ve1) 80 2 c (ints es), .blk b1 26 [.int .i64 0, .slice none 0 0, .slice none 0 0, .slice none 0 0], .blk bc 64 [vc, .int .i64 (((sc.1 : Nat) : Int)), .int .u64 (sc.2)]]
     try dsimp only at hinv
     refine Run.seq ?_
     refine Run.sr ?_
     refine Run.p (.int .i64 (((v : Nat) : Int))) rfl rfl ?_
     refine Run.y (.pointer (some ⟨b2, 0, none⟩)) rfl (OpY.fieldAddr Tfo_26_0 rfl rfl) ?_
     refine Run.y (.int .i64 (((N : Nat) : Int))) rfl (OpY.load1 Tone_3 rfl (Cells.blk (.head _) ⟨rfl, trivial⟩)) ?_
     refine Run.p (.bool (decide ((((v : Nat) : Int)) < (((N : Nat) : Int))))) rfl rfl ?_
     refine Run.done ?_
     refine Run.cond (b := decide ((((v : Nat) : Int)) < (((N : Nat) : Int)))) rfl (fun h44 => ?_) (fun h44 => ?_)
     ·have p44 := h44; try simp only [bs] at p44
      obtain ⟨hv1, hv2, hv3, hv4⟩ := hinv
      refine Run.skip ?_
      refine Run.seq ?_
      refine Run.block ?_
      refine Run.seq ?_
      refine Run.sr ?_
      refine Run.p (.pointer (some ⟨bc, 0, none⟩)) rfl rfl ?_
      refine Run.step rfl (OpStep.callM (H1 := [.blk bc 64 [vc, .int .i64 (((sc.1 : Nat) : Int)), .int .u64 (sc.2)]]) (H2 := [.blk b2 26 [.int .i64 (((N : Nat) : Int)), .slice A_ve1 c c_ve1, vi, vo], .own vi 3 1 ni (ints is), .own vo 3 1 no (ints os), .own (.slice A_ve1 c c_ve1) 80 2 c (ints es), .blk b1 26 [.int .i64 0, .slice none 0 0, .slice none 0 0, .slice none 0 0]]) (vs := [.pointer (some ⟨bc, 0, none⟩), .int .i64 3]) (caps := []) Tcall_42 rfl rfl (Weak.selF [5]) (fun w hs => one_ex (by omega) (hc.go hs) (hs.sub (List.sublist_append_left _ _)).self) ?_)
      rintro _ _ ⟨x6, s6, hs6, rfl, rfl⟩
      show Run _ _ (putF _ _ _ (.bool x6)) [.blk bc 64 [vc, .int .i64 (((s6.1 : Nat) : Int)), .int .u64 (s6.2)], .blk b2 26 [.int .i64 (((N : Nat) : Int)), .slice A_ve1 c c_ve1, vi, vo], .own vi 3 1 ni (ints is), .own vo 3 1 no (ints os), .own (.slice A_ve1 c c_ve1) 80 2 c (ints es), .blk b1 26 [.int .i64 0, .slice none 0 0, .slice none 0 0, .slice none 0 0]]
      refine Run.done ?_
      refine Run.cond (b := x6) rfl (fun h48 => ?_) (fun h48 => ?_)
      ·have p48 := h48; try simp only [bs] at p48
       refine Run.region ?_
       refine Run.y (.pointer (some ⟨b2, 2, none⟩)) rfl (OpY.fieldAddr Tfo_26_2 rfl rfl) ?_
       refine Run.y (vi) rfl (OpY.load1 Tone_24 rfl (Cells.blk (.tail _ (List.Mem.head _)) ⟨rfl, trivial⟩)) ?_
       refine Run.p (.int .i64 (((v : Nat) : Int))) rfl rfl ?_
       refine Run.step rfl (OpStep.buildSlice (us := [.int .i64 (((v : Nat) : Int))]) Tsl_24 (by decide) (by decide) ⟨rfl, [.int .i64 (((v : Nat) : Int))], _, rfl, rfl, rfl, rfl⟩ rfl fun b4 => ?_)
       refine Run.step rfl (OpStep.append (H1 := [.own (.slice (some ⟨b4, 0, none⟩) 1 1) 3 1 1 ([.int .i64 (((v : Nat) : Int))]), .blk bc 64 [vc, .int .i64 (((s6.1 : Nat) : Int)), .int .u64 (s6.2)], .blk b2 26 [.int .i64 (((N : Nat) : Int)), .slice A_ve1 c c_ve1, vi, vo]]) (H2 := [.own vo 3 1 no (ints os), .own (.slice A_ve1 c c_ve1) 80 2 c (ints es), .blk b1 26 [.int .i64 0, .slice none 0 0, .slice none 0 0, .slice none 0 0]]) (v := vi) (u := .slice (some ⟨b4, 0, none⟩) 1 1) (n := ni) (m := 1) (xs := ints is) (ys := [.int .i64 (((v : Nat) : Int))]) Tsl_24 (by decide) rfl rfl rfl rfl (fun w hs => hs.slOwn (.head _)) (by simp [Value.oneCell']) (by omega) (by simp only [maxLen]; omega) fun av2 hnav2 => ?_)
       refine Run.weak (H' := [.own (.slice (some ⟨b4, 0, none⟩) 1 1) 3 1 1 ([.int .i64 (((v : Nat) : Int))]), .blk bc 64 [vc, .int .i64 (((s6.1 : Nat) : Int)), .int .u64 (s6.2)], .blk b2 26 [.int .i64 (((N : Nat) : Int)), .slice A_ve1 c c_ve1, vi, vo], .own av2 3 1 (ni + 1) (ints (is ++ [((v : Nat) : Int)])), .own vo 3 1 no (ints os), .own (.slice A_ve1 c c_ve1) 80 2 c (ints es), .blk b1 26 [.int .i64 0, .slice none 0 0, .slice none 0 0, .slice none 0 0]]) (Some'.weak (.take (.take (.take (.takeEq (by simp [ints]) (.take (.take (.take (.nil _))))))))) ?_ ⟨_, _, rfl, fun _ => nofun, fun _ => nofun⟩
       refine Run.y (.pointer (some ⟨b2, 2, none⟩)) rfl (OpY.fieldAddr Tfo_26_2 rfl rfl) ?_
       refine Run.formOwn (.tail _ (.tail _ (.tail _ (List.Mem.head _)))) (fun A_av21 c_av21 hv hcapc_av21 hmaxc_av21 => ?_) (fun _ _ _ => ⟨nofun, nofun, nofun⟩)
       subst hv
       refine Run.step rfl (OpStep.store (us := [.slice A_av21 (ni + 1) c_av21]) Tsize_24 rfl rfl rfl (.there _ (.there _ (.here _))) (by simp only [List.length_cons, List.length_nil]; omega) ?_)
       show Run _ _ _ [.own (.slice (some ⟨b4, 0, none⟩) 1 1) 3 1 1 ([.int .i64 (((v : Nat) : Int))]), .blk bc 64 [vc, .int .i64 (((s6.1 : Nat) : Int)), .int .u64 (s6.2)], .blk b2 26 [.int .i64 (((N : Nat) : Int)), .slice A_ve1 c c_ve1, .slice A_av21 (ni + 1) c_av21, vo], .own (.slice A_av21 (ni + 1) c_av21) 3 1 (ni + 1) (ints (is ++ [((v : Nat) : Int)])), .own vo 3 1 no (ints os), .own (.slice A_ve1 c c_ve1) 80 2 c (ints es), .blk b1 26 [.int .i64 0, .slice none 0 0, .slice none 0 0, .slice none 0 0]]
       refine Run.dsr ?_
       refine Run.p (.pointer (some ⟨bc, 0, none⟩)) rfl rfl ?_
       refine Run.step rfl (OpStep.callM (H1 := [.blk bc 64 [vc, .int .i64 (((s6.1 : Nat) : Int)), .int .u64 (s6.2)]]) (H2 := [.own (.slice (some ⟨b4, 0, none⟩) 1 1) 3 1 1 ([.int .i64 (((v : Nat) : Int))]), .blk b2 26 [.int .i64 (((N : Nat) : Int)), .slice A_ve1 c c_ve1, .slice A_av21 (ni + 1) c_av21, vo], .own (.slice A_av21 (ni + 1) c_av21) 3 1 (ni + 1) (ints (is ++ [((v : Nat) : Int)])), .own vo 3 1 no (ints os), .own (.slice A_ve1 c c_ve1) 80 2 c (ints es), .blk b1 26 [.int .i64 0, .slice none 0 0, .slice none 0 0, .slice none 0 0]]) (vs := [.pointer (some ⟨bc, 0, none⟩), .int .i64 2]) (caps := []) Tcall_42 rfl rfl (Weak.selF [1]) (fun w hs => one_ex (by omega) (hc.go hs) (hs.sub (List.sublist_append_left _ _)).self) ?_)
       rintro _ _ ⟨x7, s7, hs7, rfl, rfl⟩
       show Run _ _ (putF _ _ _ (.bool x7)) [.blk bc 64 [vc, .int .i64 (((s7.1 : Nat) : Int)), .int .u64 (s7.2)], .own (.slice (some ⟨b4, 0, none⟩) 1 1) 3 1 1 ([.int .i64 (((v : Nat) : Int))]), .blk b2 26 [.int .i64 (((N : Nat) : Int)), .slice A_ve1 c c_ve1, .slice A_av21 (ni + 1) c_av21, vo], .own (.slice A_av21 (ni + 1) c_av21) 3 1 (ni + 1) (ints (is ++ [((v : Nat) : Int)])), .own vo 3 1 no (ints os), .own (.slice A_ve1 c c_ve1) 80 2 c (ints es), .blk b1 26 [.int .i64 0, .slice none 0 0, .slice none 0 0, .slice none 0 0]]
       refine Run.done ?_
       refine Run.cond (b := x7) rfl (fun h56 => ?_) (fun h56 => ?_)
       ·have p56 := h56; try simp only [bs] at p56
        refine Run.region ?_
        refine Run.y (.pointer (some ⟨b2, 3, none⟩)) rfl (OpY.fieldAddr Tfo_26_3 rfl rfl) ?_
        refine Run.y (vo) rfl (OpY.load1 Tone_24 rfl (Cells.blk (.tail _ (.tail _ (List.Mem.head _))) ⟨rfl, trivial⟩)) ?_
        refine Run.p (.int .i64 (((v : Nat) : Int))) rfl rfl ?_
        refine Run.step rfl (OpStep.buildSlice (us := [.int .i64 (((v : Nat) : Int))]) Tsl_24 (by decide) (by decide) ⟨rfl, [.int .i64 (((v : Nat) : Int))], _, rfl, rfl, rfl, rfl⟩ rfl fun b5 => ?_)
        refine Run.step rfl (OpStep.append (H1 := [.own (.slice (some ⟨b5, 0, none⟩) 1 1) 3 1 1 ([.int .i64 (((v : Nat) : Int))]), .blk bc 64 [vc, .int .i64 (((s7.1 : Nat) : Int)), .int .u64 (s7.2)], .own (.slice (some ⟨b4, 0, none⟩) 1 1) 3 1 1 ([.int .i64 (((v : Nat) : Int))]), .blk b2 26 [.int .i64 (((N : Nat) : Int)), .slice A_ve1 c c_ve1, .slice A_av21 (ni + 1) c_av21, vo], .own (.slice A_av21 (ni + 1) c_av21) 3 1 (ni + 1) (ints (is ++ [((v : Nat) : Int)]))]) (H2 := [.own (.slice A_ve1 c c_ve1) 80 2 c (ints es), .blk b1 26 [.int .i64 0, .slice none 0 0, .slice none 0 0, .slice none 0 0]]) (v := vo) (u := .slice (some ⟨b5, 0, none⟩) 1 1) (n := no) (m := 1) (xs := ints os) (ys := [.int .i64 (((v : Nat) : Int))]) Tsl_24 (by decide) rfl rfl rfl rfl (fun w hs => hs.slOwn (.head _)) (by simp [Value.oneCell']) (by omega) (by simp only [maxLen]; omega) fun av3 hnav3 => ?_)
        refine Run.weak (H' := [.own (.slice (some ⟨b5, 0, none⟩) 1 1) 3 1 1 ([.int .i64 (((v : Nat) : Int))]), .blk bc 64 [vc, .int .i64 (((s7.1 : Nat) : Int)), .int .u64 (s7.2)], .own (.slice (some ⟨b4, 0, none⟩) 1 1) 3 1 1 ([.int .i64 (((v : Nat) : Int))]), .blk b2 26 [.int .i64 (((N : Nat) : Int)), .slice A_ve1 c c_ve1, .slice A_av21 (ni + 1) c_av21, vo], .own (.slice A_av21 (ni + 1) c_av21) 3 1 (ni + 1) (ints (is ++ [((v : Nat) : Int)])), .own av3 3 1 (no + 1) (ints (os ++ [((v : Nat) : Int)])), .own (.slice A_ve1 c c_ve1) 80 2 c (ints es), .blk b1 26 [.int .i64 0, .slice none 0 0, .slice none 0 0, .slice none 0 0]]) (Some'.weak (.take (.take (.take (.take (.take (.takeEq (by simp [ints]) (.take (.take (.nil _)))))))))) ?_ ⟨_, _, rfl, fun _ => nofun, fun _ => nofun⟩
        refine Run.y (.pointer (some ⟨b2, 3, none⟩)) rfl (OpY.fieldAddr Tfo_26_3 rfl rfl) ?_
        refine Run.formOwn (.tail _ (.tail _ (.tail _ (.tail _ (.tail _ (List.Mem.head _)))))) (fun A_av31 c_av31 hv hcapc_av31 hmaxc_av31 => ?_) (fun _ _ _ => ⟨nofun, nofun, nofun⟩)
        subst hv
        refine Run.step rfl (OpStep.store (us := [.slice A_av31 (no + 1) c_av31]) Tsize_24 rfl rfl rfl (.there _ (.there _ (.there _ (.here _)))) (by simp only [List.length_cons, List.length_nil]; omega) ?_)
        show Run _ _ _ [.own (.slice (some ⟨b5, 0, none⟩) 1 1) 3 1 1 ([.int .i64 (((v : Nat) : Int))]), .blk bc 64 [vc, .int .i64 (((s7.1 : Nat) : Int)), .int .u64 (s7.2)], .own (.slice (some ⟨b4, 0, none⟩) 1 1) 3 1 1 ([.int .i64 (((v : Nat) : Int))]), .blk b2 26 [.int .i64 (((N : Nat) : Int)), .slice A_ve1 c c_ve1, .slice A_av21 (ni + 1) c_av21, .slice A_av31 (no + 1) c_av31], .own (.slice A_av21 (ni + 1) c_av21) 3 1 (ni + 1) (ints (is ++ [((v : Nat) : Int)])), .own (.slice A_av31 (no + 1) c_av31) 3 1 (no + 1) (ints (os ++ [((v : Nat) : Int)])), .own (.slice A_ve1 c c_ve1) 80 2 c (ints es), .blk b1 26 [.int .i64 0, .slice none 0 0, .slice none 0 0, .slice none 0 0]]
        refine Run.done ?_
        refine Run.blockEnd ?_
        refine Run.region ?_
        refine Run.p (.int .i64 (((v : Nat) : Int))) rfl rfl ?_
        refine Run.y (.int .i64 (((v + 1 : Nat) : Int))) rfl (OpY.add rfl rfl (by omega) (by omega) (by omega)) ?_
        refine Run.p (.int .i64 (((v + 1 : Nat) : Int))) rfl rfl ?_
        refine Run.done ?_
        refine Run.goal ⟨(by repeat (first | exact Same.refl _ _ | refine Same.put rfl ?_ | refine Same.over rfl rfl ?_)), (v + 1, s7, (ni + 1, ((is ++ [((v : Nat) : Int)])), .slice A_av21 (ni + 1) c_av21), (no + 1, ((os ++ [((v : Nat) : Int)])), .slice A_av31 (no + 1) c_av31)), ?_, ?_, ?_, ?_⟩
        ·exact ⟨by omega, by omega, by omega, by omega⟩
        ·show N - (v + 1) < N - v; omega
        ·exact ⟨(by first | rfl | (congr 1; omega) | simp), trivial⟩
        ·exact ((Weak.selF [3, 3, 3, 3, 3, 1]).trans (Some'.weak (.takeEq (by first | rfl | simp) (.takeEq (by first | rfl | simp) (.takeEq (by first | rfl | simp) (.takeEq (by first | rfl | simp) (.take (.takeEq (by first | rfl | simp) (.nil _)))))))))
       ·have p56 := h56; try simp only [bs] at p56
        refine Run.skip ?_
        refine Run.blockEnd ?_
        refine Run.region ?_
        refine Run.p (.int .i64 (((v : Nat) : Int))) rfl rfl ?_
        refine Run.y (.int .i64 (((v + 1 : Nat) : Int))) rfl (OpY.add rfl rfl (by omega) (by omega) (by omega)) ?_
        refine Run.p (.int .i64 (((v + 1 : Nat) : Int))) rfl rfl ?_
        refine Run.done ?_
        refine Run.goal ⟨(by repeat (first | exact Same.refl _ _ | refine Same.put rfl ?_ | refine Same.over rfl rfl ?_)), (v + 1, s7, (ni + 1, ((is ++ [((v : Nat) : Int)])), .slice A_av21 (ni + 1) c_av21), (no, os, vo)), ?_, ?_, ?_, ?_⟩
        ·exact ⟨by omega, by omega, by omega, by omega⟩
        ·show N - (v + 1) < N - v; omega
        ·exact ⟨(by first | rfl | (congr 1; omega) | simp), trivial⟩
        ·exact ((Weak.selF [2, 2, 2, 2, 2, 0]).trans (Some'.weak (.takeEq (by first | rfl | simp) (.takeEq (by first | rfl | simp) (.takeEq (by first | rfl | simp) (.takeEq (by first | rfl | simp) (.take (.takeEq (by first | rfl | simp) (.nil _)))))))))
      ·have p48 := h48; try simp only [bs] at p48
       refine Run.skip ?_
       refine Run.sr ?_
       refine Run.p (.pointer (some ⟨bc, 0, none⟩)) rfl rfl ?_
       refine Run.step rfl (OpStep.callM (H1 := [.blk bc 64 [vc, .int .i64 (((s6.1 : Nat) : Int)), .int .u64 (s6.2)]]) (H2 := [.blk b2 26 [.int .i64 (((N : Nat) : Int)), .slice A_ve1 c c_ve1, vi, vo], .own vi 3 1 ni (ints is), .own vo 3 1 no (ints os), .own (.slice A_ve1 c c_ve1) 80 2 c (ints es), .blk b1 26 [.int .i64 0, .slice none 0 0, .slice none 0 0, .slice none 0 0]]) (vs := [.pointer (some ⟨bc, 0, none⟩), .int .i64 2]) (caps := []) Tcall_42 rfl rfl (Weak.refl _) (fun w hs => one_ex (by omega) (hc.go hs) (hs.sub (List.sublist_append_left _ _)).self) ?_)
       rintro _ _ ⟨x8, s8, hs8, rfl, rfl⟩
       show Run _ _ (putF _ _ _ (.bool x8)) [.blk bc 64 [vc, .int .i64 (((s8.1 : Nat) : Int)), .int .u64 (s8.2)], .blk b2 26 [.int .i64 (((N : Nat) : Int)), .slice A_ve1 c c_ve1, vi, vo], .own vi 3 1 ni (ints is), .own vo 3 1 no (ints os), .own (.slice A_ve1 c c_ve1) 80 2 c (ints es), .blk b1 26 [.int .i64 0, .slice none 0 0, .slice none 0 0, .slice none 0 0]]
       refine Run.done ?_
       refine Run.cond (b := x8) rfl (fun h56 => ?_) (fun h56 => ?_)
       ·have p56 := h56; try simp only [bs] at p56
        refine Run.region ?_
        refine Run.y (.pointer (some ⟨b2, 3, none⟩)) rfl (OpY.fieldAddr Tfo_26_3 rfl rfl) ?_
        refine Run.y (vo) rfl (OpY.load1 Tone_24 rfl (Cells.blk (.tail _ (List.Mem.head _)) ⟨rfl, trivial⟩)) ?_
        refine Run.p (.int .i64 (((v : Nat) : Int))) rfl rfl ?_
        refine Run.step rfl (OpStep.buildSlice (us := [.int .i64 (((v : Nat) : Int))]) Tsl_24 (by decide) (by decide) ⟨rfl, [.int .i64 (((v : Nat) : Int))], _, rfl, rfl, rfl, rfl⟩ rfl fun b6 => ?_)
        refine Run.step rfl (OpStep.append (H1 := [.own (.slice (some ⟨b6, 0, none⟩) 1 1) 3 1 1 ([.int .i64 (((v : Nat) : Int))]), .blk bc 64 [vc, .int .i64 (((s8.1 : Nat) : Int)), .int .u64 (s8.2)], .blk b2 26 [.int .i64 (((N : Nat) : Int)), .slice A_ve1 c c_ve1, vi, vo], .own vi 3 1 ni (ints is)]) (H2 := [.own (.slice A_ve1 c c_ve1) 80 2 c (ints es), .blk b1 26 [.int .i64 0, .slice none 0 0, .slice none 0 0, .slice none 0 0]]) (v := vo) (u := .slice (some ⟨b6, 0, none⟩) 1 1) (n := no) (m := 1) (xs := ints os) (ys := [.int .i64 (((v : Nat) : Int))]) Tsl_24 (by decide) rfl rfl rfl rfl (fun w hs => hs.slOwn (.head _)) (by simp [Value.oneCell']) (by omega) (by simp only [maxLen]; omega) fun av4 hnav4 => ?_)
        refine Run.weak (H' := [.own (.slice (some ⟨b6, 0, none⟩) 1 1) 3 1 1 ([.int .i64 (((v : Nat) : Int))]), .blk bc 64 [vc, .int .i64 (((s8.1 : Nat) : Int)), .int .u64 (s8.2)], .blk b2 26 [.int .i64 (((N : Nat) : Int)), .slice A_ve1 c c_ve1, vi, vo], .own vi 3 1 ni (ints is), .own av4 3 1 (no + 1) (ints (os ++ [((v : Nat) : Int)])), .own (.slice A_ve1 c c_ve1) 80 2 c (ints es), .blk b1 26 [.int .i64 0, .slice none 0 0, .slice none 0 0, .slice none 0 0]]) (Some'.weak (.take (.take (.take (.take (.takeEq (by simp [ints]) (.take (.take (.nil _))))))))) ?_ ⟨_, _, rfl, fun _ => nofun, fun _ => nofun⟩
        refine Run.y (.pointer (some ⟨b2, 3, none⟩)) rfl (OpY.fieldAddr Tfo_26_3 rfl rfl) ?_
        refine Run.formOwn (.tail _ (.tail _ (.tail _ (.tail _ (List.Mem.head _))))) (fun A_av41 c_av41 hv hcapc_av41 hmaxc_av41 => ?_) (fun _ _ _ => ⟨nofun, nofun, nofun⟩)
        subst hv
        refine Run.step rfl (OpStep.store (us := [.slice A_av41 (no + 1) c_av41]) Tsize_24 rfl rfl rfl (.there _ (.there _ (.here _))) (by simp only [List.length_cons, List.length_nil]; omega) ?_)
        show Run _ _ _ [.own (.slice (some ⟨b6, 0, none⟩) 1 1) 3 1 1 ([.int .i64 (((v : Nat) : Int))]), .blk bc 64 [vc, .int .i64 (((s8.1 : Nat) : Int)), .int .u64 (s8.2)], .blk b2 26 [.int .i64 (((N : Nat) : Int)), .slice A_ve1 c c_ve1, vi, .slice A_av41 (no + 1) c_av41], .own vi 3 1 ni (ints is), .own (.slice A_av41 (no + 1) c_av41) 3 1 (no + 1) (ints (os ++ [((v : Nat) : Int)])), .own (.slice A_ve1 c c_ve1) 80 2 c (ints es), .blk b1 26 [.int .i64 0, .slice none 0 0, .slice none 0 0, .slice none 0 0]]
        refine Run.done ?_
        refine Run.blockEnd ?_
        refine Run.region ?_
        refine Run.p (.int .i64 (((v : Nat) : Int))) rfl rfl ?_
        refine Run.y (.int .i64 (((v + 1 : Nat) : Int))) rfl (OpY.add rfl rfl (by omega) (by omega) (by omega)) ?_
        refine Run.p (.int .i64 (((v + 1 : Nat) : Int))) rfl rfl ?_
        refine Run.done ?_
        refine Run.goal ⟨(by repeat (first | exact Same.refl _ _ | refine Same.put rfl ?_ | refine Same.over rfl rfl ?_)), (v + 1, s8, (ni, is, vi), (no + 1, ((os ++ [((v : Nat) : Int)])), .slice A_av41 (no + 1) c_av41)), ?_, ?_, ?_, ?_⟩
        ·exact ⟨by omega, by omega, by omega, by omega⟩
        ·show N - (v + 1) < N - v; omega
        ·exact ⟨(by first | rfl | (congr 1; omega) | simp), trivial⟩
        ·exact ((Weak.selF [2, 2, 2, 2, 2, 1]).trans (Some'.weak (.takeEq (by first | rfl | simp) (.takeEq (by first | rfl | simp) (.takeEq (by first | rfl | simp) (.takeEq (by first | rfl | simp) (.take (.takeEq (by first | rfl | simp) (.nil _)))))))))
       ·have p56 := h56; try simp only [bs] at p56
        refine Run.skip ?_
        refine Run.blockEnd ?_
        refine Run.region ?_
        refine Run.p (.int .i64 (((v : Nat) : Int))) rfl rfl ?_
        refine Run.y (.int .i64 (((v + 1 : Nat) : Int))) rfl (OpY.add rfl rfl (by omega) (by omega) (by omega)) ?_
        refine Run.p (.int .i64 (((v + 1 : Nat) : Int))) rfl rfl ?_
        refine Run.done ?_
        refine Run.goal ⟨(by repeat (first | exact Same.refl _ _ | refine Same.put rfl ?_ | refine Same.over rfl rfl ?_)), (v + 1, s8, (ni, is, vi), (no, os, vo)), ?_, ?_, ?_, ?_⟩
        ·exact ⟨by omega, by omega, by omega, by omega⟩
        ·show N - (v + 1) < N - v; omega
        ·exact ⟨(by first | rfl | (congr 1; omega) | simp), trivial⟩
        ·exact ((Weak.selF [1, 1, 1, 1, 1, 0]).trans (Some'.weak (.take (.takeEq (by first | rfl | simp) (.takeEq (by first | rfl | simp) (.takeEq (by first | rfl | simp) (.take (.takeEq (by first | rfl | simp) (.nil _)))))))))
     ·have p44 := h44; try simp only [bs] at p44
      obtain ⟨hv1, hv2, hv3, hv4⟩ := hinv
      refine Run.exit rfl ?_
      refine Run.sr ?_
      refine Run.y (.agg #[.int .i64 (((N : Nat) : Int)), .slice A_ve1 c c_ve1, vi, vo]) rfl (OpY.loadN (cs := [.int .i64 (((N : Nat) : Int)), .slice A_ve1 c c_ve1, vi, vo]) Tagg_26 rfl (Cells.blk (.head _) ⟨rfl, rfl, rfl, rfl, trivial⟩)) ?_
      refine Run.formOwn (.tail _ (List.Mem.head _)) (fun A_vi1 c_vi1 hv hcapc_vi1 hmaxc_vi1 => ?_) (fun _ _ _ => ⟨nofun, nofun, nofun⟩)
      subst hv
      refine Run.formOwn (.tail _ (.tail _ (List.Mem.head _))) (fun A_vo1 c_vo1 hv hcapc_vo1 hmaxc_vo1 => ?_) (fun _ _ _ => ⟨nofun, nofun, nofun⟩)
      subst hv
      refine Run.step rfl (OpStep.storeAll (us := [.int .i64 (((N : Nat) : Int)), .slice A_ve1 c c_ve1, .slice A_vi1 ni c_vi1, .slice A_vo1 no c_vo1]) Tsize_26 rfl rfl rfl (.there _ (.there _ (.there _ (.there _ (.here _))))) rfl ?_)
      refine Run.done ?_
      refine Run.ret ?_
      refine ⟨.agg #[.int .i64 (((N : Nat) : Int)), .slice A_ve1 c c_ve1, .slice A_vi1 ni c_vi1, .slice A_vo1 no c_vo1], [.own (.slice A_ve1 c c_ve1) 80 2 c (ints es), .own (.slice A_vi1 ni c_vi1) 3 1 ni (ints is), .own (.slice A_vo1 no c_vo1) 3 1 no (ints os), .blk bc 64 [vc, .int .i64 (((sc.1 : Nat) : Int)), .int .u64 (sc.2)]], Out.cell1 (cs := [.int .i64 (((N : Nat) : Int)), .slice A_ve1 c c_ve1, .slice A_vi1 ni c_vi1, .slice A_vo1 no c_vo1]) rfl Tagg_26 rfl (Cells.blk (.tail _ (.tail _ (.tail _ (.tail _ (List.Mem.head _))))) ⟨rfl, rfl, rfl, rfl, trivial⟩), ((Weak.selF [3, 1, 1, 2]).trans (Some'.weak (.take (.take (.take (.take (.nil _))))))), ?_⟩
      exact ⟨_, _, _, _, _, _, _, _, _, _, _, ⟨⟨by omega, by omega⟩, by omega, by omega, by omega, by omega, hsm⟩, rfl, rfl⟩
 ·have p12 := h12; try simp only [bs] at p12
  refine Run.sr ?_
  refine Run.p (.bool (x1 == 1)) rfl rfl ?_
  refine Run.p (.bool (x1 == 1)) rfl rfl ?_
  refine Run.done ?_
  refine Run.cond (b := x1 == 1) rfl (fun h64 => ?_) (fun h64 => ?_)
  ·have p64 := h64; try simp only [bs] at p64
   refine Run.sr ?_
   refine Run.step rfl (OpStep.buildSlice (us := [.int .i64 0, .int .i64 1, .int .i64 2]) Tsl_24 (by decide) (by decide) ⟨rfl, [.int .i64 0], _, rfl, rfl, rfl, ⟨rfl, [.int .i64 1], _, rfl, rfl, rfl, ⟨rfl, [.int .i64 2], _, rfl, rfl, rfl, rfl⟩⟩⟩ rfl fun b7 => ?_)
   refine Run.step rfl (OpStep.buildSlice (us := [.int .i64 3, .int .i64 4, .int .i64 5]) Tsl_24 (by decide) (by decide) ⟨rfl, [.int .i64 3], _, rfl, rfl, rfl, ⟨rfl, [.int .i64 4], _, rfl, rfl, rfl, ⟨rfl, [.int .i64 5], _, rfl, rfl, rfl, rfl⟩⟩⟩ rfl fun b8 => ?_)
   refine Run.y (.agg #[.int .i64 6, .slice none 0 0, .slice (some ⟨b7, 0, none⟩) 3 3, .slice (some ⟨b8, 0, none⟩) 3 3]) rfl (OpY.build (cs := [.int .i64 6, .slice none 0 0, .slice (some ⟨b7, 0, none⟩) 3 3, .slice (some ⟨b8, 0, none⟩) 3 3]) (by kernel_rfl)) ?_
   refine Run.step rfl (OpStep.alloc (zs := [.int .i64 0, .slice none 0 0, .slice none 0 0, .slice none 0 0]) Tzero_26 fun b9 => ?_)
   refine Run.step rfl (OpStep.storeAll (us := [.int .i64 6, .slice none 0 0, .slice (some ⟨b7, 0, none⟩) 3 3, .slice (some ⟨b8, 0, none⟩) 3 3]) Tsize_26 rfl rfl rfl (.here _) rfl ?_)
   refine Run.dsr ?_
   refine Run.p (.slice none 0 0) rfl rfl ?_
   refine Run.done ?_
   refine Run.weak (H' := [.own (.slice none 0 0) 98 2 0 ([]), .blk b9 26 [.int .i64 6, .slice none 0 0, .slice (some ⟨b7, 0, none⟩) 3 3, .slice (some ⟨b8, 0, none⟩) 3 3], .own (.slice (some ⟨b8, 0, none⟩) 3 3) 3 1 3 ([.int .i64 3, .int .i64 4, .int .i64 5]), .own (.slice (some ⟨b7, 0, none⟩) 3 3) 3 1 3 ([.int .i64 0, .int .i64 1, .int .i64 2]), .blk bc 64 [vc, .int .i64 (((s1.1 : Nat) : Int)), .int .u64 (s1.2)], .blk b1 26 [.int .i64 0, .slice none 0 0, .slice none 0 0, .slice none 0 0]]) (Weak.nilOwn _ _) ?_ ⟨_, _, rfl, fun _ => nofun, fun _ => nofun⟩
   refine Run.seq ?_
   refine Run.sr ?_
   refine Run.p (.int .i64 0) rfl rfl ?_
   refine Run.done ?_
   refine Run.block ?_
   refine Run.loop (ι := Nat × (Nat × Int) × Nat × List Int × Value) [8, 9, 69, 70, 71, 72, 73, 74, 75, 76, 77, 78, 79, 80, 81, 82, 83, 84] (fun ⟨k, sc, m, ps, vp⟩ => [(8, vp), (9, .int .i64 (((k : Nat) : Int)))]) (fun ⟨k, sc, m, ps, vp⟩ => [.own vp 98 2 m (ints ps), .blk b9 26 [.int .i64 6, .slice none 0 0, .slice (some ⟨b7, 0, none⟩) 3 3, .slice (some ⟨b8, 0, none⟩) 3 3], .own (.slice (some ⟨b8, 0, none⟩) 3 3) 3 1 3 ([.int .i64 3, .int .i64 4, .int .i64 5]), .own (.slice (some ⟨b7, 0, none⟩) 3 3) 3 1 3 ([.int .i64 0, .int .i64 1, .int .i64 2]), .blk b1 26 [.int .i64 0, .slice none 0 0, .slice none 0 0, .slice none 0 0], .blk bc 64 [vc, .int .i64 (((sc.1 : Nat) : Int)), .int .u64 (sc.2)]]) (fun ⟨k, sc, m, ps, vp⟩ => m ≤ k ∧ k ≤ 9 ∧ sc.1 ≤ s.1 + 10 + 2 * k) (fun ⟨k, sc, m, ps, vp⟩ => 9 - k) (0, s1, 0, [], .slice none 0 0) ?_ ?_ ?_ ?_
   ·exact ⟨by omega, by omega, by omega⟩
   ·exact ⟨rfl, rfl, trivial⟩
   ·exact ((Weak.selF [0, 0, 0, 0, 1, 0]).trans (Some'.weak (.takeEq (by first | rfl | simp) (.take (.take (.take (.take (.takeEq (by first | rfl | simp) (.nil _)))))))))
   ·rintro ⟨k, sc, m, ps, vp⟩ fr hinv
    show Run _ _ (over _ _ [(8, vp), (9, .int .i64 (((k : Nat) : Int)))] fr) [.own vp 98 2 m (ints ps), .blk b9 26 [.int .i64 6, .slice none 0 0, .slice (some ⟨b7, 0, none⟩) 3 3, .slice (some ⟨b8, 0, none⟩) 3 3], .own (.slice (some ⟨b8, 0, none⟩) 3 3) 3 1 3 ([.int .i64 3, .int .i64 4, .int .i64 5]), .own (.slice (some ⟨b7, 0, none⟩) 3 3) 3 1 3 ([.int .i64 0, .int .i64 1, .int .i64 2]), .blk b1 26 [.int .i64 0, .slice none 0 0, .slice none 0 0, .slice none 0 0], .blk bc 64 [vc, .int .i64 (((sc.1 : Nat) : Int)), .int .u64 (sc.2)]]
    try dsimp only at hinv
    refine Run.seq ?_
    refine Run.sr ?_
    refine Run.p (.int .i64 (((k : Nat) : Int))) rfl rfl ?_
    refine Run.p (.bool (decide ((((k : Nat) : Int)) < 9))) rfl rfl ?_
    refine Run.done ?_
    refine Run.cond (b := decide ((((k : Nat) : Int)) < 9)) rfl (fun h70 => ?_) (fun h70 => ?_)
    ·have p70 := h70; try simp only [bs] at p70
     obtain ⟨hk1, hk2, hk3⟩ := hinv
     refine Run.skip ?_
     refine Run.seq ?_
     refine Run.block ?_
     refine Run.sr ?_
     refine Run.p (.pointer (some ⟨bc, 0, none⟩)) rfl rfl ?_
     refine Run.step rfl (OpStep.callM (H1 := [.blk bc 64 [vc, .int .i64 (((sc.1 : Nat) : Int)), .int .u64 (sc.2)]]) (H2 := [.own vp 98 2 m (ints ps), .blk b9 26 [.int .i64 6, .slice none 0 0, .slice (some ⟨b7, 0, none⟩) 3 3, .slice (some ⟨b8, 0, none⟩) 3 3], .own (.slice (some ⟨b8, 0, none⟩) 3 3) 3 1 3 ([.int .i64 3, .int .i64 4, .int .i64 5]), .own (.slice (some ⟨b7, 0, none⟩) 3 3) 3 1 3 ([.int .i64 0, .int .i64 1, .int .i64 2]), .blk b1 26 [.int .i64 0, .slice none 0 0, .slice none 0 0, .slice none 0 0]]) (vs := [.pointer (some ⟨bc, 0, none⟩), .int .i64 3]) (caps := []) Tcall_42 rfl rfl (Weak.selF [5]) (fun w hs => one_ex (by omega) (hc.go hs) (hs.sub (List.sublist_append_left _ _)).self) ?_)
     rintro _ _ ⟨x9, s9, hs9, rfl, rfl⟩
     show Run _ _ (putF _ _ _ (.bool x9)) [.blk bc 64 [vc, .int .i64 (((s9.1 : Nat) : Int)), .int .u64 (s9.2)], .own vp 98 2 m (ints ps), .blk b9 26 [.int .i64 6, .slice none 0 0, .slice (some ⟨b7, 0, none⟩) 3 3, .slice (some ⟨b8, 0, none⟩) 3 3], .own (.slice (some ⟨b8, 0, none⟩) 3 3) 3 1 3 ([.int .i64 3, .int .i64 4, .int .i64 5]), .own (.slice (some ⟨b7, 0, none⟩) 3 3) 3 1 3 ([.int .i64 0, .int .i64 1, .int .i64 2]), .blk b1 26 [.int .i64 0, .slice none 0 0, .slice none 0 0, .slice none 0 0]]
     refine Run.p (.bool (!x9)) rfl rfl ?_
     refine Run.done ?_
     refine Run.cond (b := !x9) rfl (fun h75 => ?_) (fun h75 => ?_)
     ·have p75 := h75; try simp only [bs] at p75
      refine Run.region ?_
      refine Run.p (vp) rfl rfl ?_
      refine Run.p (.int .i64 (((k : Nat) : Int))) rfl rfl ?_
      refine Run.y (.int .i64 (((k : Nat) : Int) / 3)) rfl (OpY.quo rfl rfl (by omega) (by omega) (by decide)) ?_
      refine Run.p (.int .i64 (((k : Nat) : Int))) rfl rfl ?_
      refine Run.y (.int .i64 (((k : Nat) : Int) % 3)) rfl (OpY.rem rfl rfl (by omega) (by omega)) ?_
      refine Run.y (.int .i64 (((3 + k % 3 : Nat) : Int))) rfl (OpY.add rfl rfl (by omega) (by omega) (by omega)) ?_
      refine Run.y (.agg #[.int .i64 (((k : Nat) : Int) / 3), .int .i64 (((3 + k % 3 : Nat) : Int))]) rfl (OpY.build (cs := [.int .i64 (((k : Nat) : Int) / 3), .int .i64 (((3 + k % 3 : Nat) : Int))]) (by kernel_rfl)) ?_
      refine Run.step rfl (OpStep.buildSlice (us := [.int .i64 (((k : Nat) : Int) / 3), .int .i64 (((3 + k % 3 : Nat) : Int))]) Tsl_97 (by decide) (by decide) ⟨rfl, [.int .i64 (((k : Nat) : Int) / 3), .int .i64 (((3 + k % 3 : Nat) : Int))], _, rfl, rfl, rfl, rfl⟩ rfl fun b10 => ?_)
      refine Run.step rfl (OpStep.append (H1 := [.own (.slice (some ⟨b10, 0, none⟩) 1 1) 98 2 1 ([.int .i64 (((k : Nat) : Int) / 3), .int .i64 (((3 + k % 3 : Nat) : Int))]), .blk bc 64 [vc, .int .i64 (((s9.1 : Nat) : Int)), .int .u64 (s9.2)]]) (H2 := [.blk b9 26 [.int .i64 6, .slice none 0 0, .slice (some ⟨b7, 0, none⟩) 3 3, .slice (some ⟨b8, 0, none⟩) 3 3], .own (.slice (some ⟨b8, 0, none⟩) 3 3) 3 1 3 ([.int .i64 3, .int .i64 4, .int .i64 5]), .own (.slice (some ⟨b7, 0, none⟩) 3 3) 3 1 3 ([.int .i64 0, .int .i64 1, .int .i64 2]), .blk b1 26 [.int .i64 0, .slice none 0 0, .slice none 0 0, .slice none 0 0]]) (v := vp) (u := .slice (some ⟨b10, 0, none⟩) 1 1) (n := m) (m := 1) (xs := ints ps) (ys := [.int .i64 (((k : Nat) : Int) / 3), .int .i64 (((3 + k % 3 : Nat) : Int))]) Tsl_97 (by decide) rfl rfl rfl rfl (fun w hs => hs.slOwn (.head _)) (by simp [Value.oneCell']) (by omega) (by simp only [maxLen]; omega) fun av5 hnav5 => ?_)
      refine Run.weak (H' := [.own (.slice (some ⟨b10, 0, none⟩) 1 1) 98 2 1 ([.int .i64 (((k : Nat) : Int) / 3), .int .i64 (((3 + k % 3 : Nat) : Int))]), .blk bc 64 [vc, .int .i64 (((s9.1 : Nat) : Int)), .int .u64 (s9.2)], .own av5 98 2 (m + 1) (ints (ps ++ [((k : Nat) : Int) / 3, ((3 + k % 3 : Nat) : Int)])), .blk b9 26 [.int .i64 6, .slice none 0 0, .slice (some ⟨b7, 0, none⟩) 3 3, .slice (some ⟨b8, 0, none⟩) 3 3], .own (.slice (some ⟨b8, 0, none⟩) 3 3) 3 1 3 ([.int .i64 3, .int .i64 4, .int .i64 5]), .own (.slice (some ⟨b7, 0, none⟩) 3 3) 3 1 3 ([.int .i64 0, .int .i64 1, .int .i64 2]), .blk b1 26 [.int .i64 0, .slice none 0 0, .slice none 0 0, .slice none 0 0]]) (Some'.weak (.take (.take (.takeEq (by simp [ints]) (.take (.take (.take (.take (.nil _))))))))) ?_ ⟨_, _, rfl, fun _ => nofun, fun _ => nofun⟩
      refine Run.p (av5) rfl rfl ?_
      refine Run.done ?_
      refine Run.blockEnd ?_
      refine Run.region ?_
      refine Run.p (.int .i64 (((k : Nat) : Int))) rfl rfl ?_
      refine Run.y (.int .i64 (((k + 1 : Nat) : Int))) rfl (OpY.add rfl rfl (by omega) (by omega) (by omega)) ?_
      refine Run.p (.int .i64 (((k + 1 : Nat) : Int))) rfl rfl ?_
      refine Run.done ?_
      refine Run.goal ⟨(by repeat (first | exact Same.refl _ _ | refine Same.put rfl ?_ | refine Same.over rfl rfl ?_)), (k + 1, s9, m + 1, ((ps ++ [((k : Nat) : Int) / 3, ((3 + k % 3 : Nat) : Int)])), av5), ?_, ?_, ?_, ?_⟩
      ·exact ⟨by omega, by omega, by omega⟩
      ·show 9 - (k + 1) < 9 - k; omega
      ·exact ⟨(by first | rfl | (congr 1; omega) | simp), (by first | rfl | (congr 1; omega) | simp), trivial⟩
      ·exact ((Weak.selF [2, 2, 2, 2, 2, 1]).trans (Some'.weak (.takeEq (by first | rfl | simp) (.take (.takeEq (by first | rfl | simp) (.takeEq (by first | rfl | simp) (.take (.takeEq (by first | rfl | simp) (.nil _)))))))))
     ·have p75 := h75; try simp only [bs] at p75
      refine Run.skip ?_
      refine Run.blockEnd ?_
      refine Run.region ?_
      refine Run.p (.int .i64 (((k : Nat) : Int))) rfl rfl ?_
      refine Run.y (.int .i64 (((k + 1 : Nat) : Int))) rfl (OpY.add rfl rfl (by omega) (by omega) (by omega)) ?_
      refine Run.p (.int .i64 (((k + 1 : Nat) : Int))) rfl rfl ?_
      refine Run.done ?_
      refine Run.goal ⟨(by repeat (first | exact Same.refl _ _ | refine Same.put rfl ?_ | refine Same.over rfl rfl ?_)), (k + 1, s9, m, ps, vp), ?_, ?_, ?_, ?_⟩
      ·exact ⟨by omega, by omega, by omega⟩
      ·show 9 - (k + 1) < 9 - k; omega
      ·exact ⟨(by first | rfl | (congr 1; omega) | simp), (by first | rfl | (congr 1; omega) | simp), trivial⟩
      ·exact ((Weak.selF [1, 1, 1, 1, 1, 0]).trans (Some'.weak (.takeEq (by first | rfl | simp) (.take (.takeEq (by first | rfl | simp) (.takeEq (by first | rfl | simp) (.take (.takeEq (by first | rfl | simp) (.nil _)))))))))
    ·have p70 := h70; try simp only [bs] at p70
     obtain ⟨hk1, hk2, hk3⟩ := hinv
     refine Run.exit rfl ?_
     refine Run.sr ?_
     refine Run.p (vp) rfl rfl ?_
     refine Run.step rfl (OpStep.call (vs := [.int .i64 6, vp]) (caps := []) Tcall_78 rfl rfl (fun w hs => (by have h := l19Edges_spec (N := 6) (by omega) (hs.slOwn (.head _)); exact h)) ?_)
     rintro ve _ ⟨c, es, ⟨hc100, hsm⟩, rfl⟩
     show Run _ _ (putF _ _ _ ve) [.own ve 80 2 c (ints es), .own vp 98 2 m (ints ps), .blk b9 26 [.int .i64 6, .slice none 0 0, .slice (some ⟨b7, 0, none⟩) 3 3, .slice (some ⟨b8, 0, none⟩) 3 3], .own (.slice (some ⟨b8, 0, none⟩) 3 3) 3 1 3 ([.int .i64 3, .int .i64 4, .int .i64 5]), .own (.slice (some ⟨b7, 0, none⟩) 3 3) 3 1 3 ([.int .i64 0, .int .i64 1, .int .i64 2]), .blk b1 26 [.int .i64 0, .slice none 0 0, .slice none 0 0, .slice none 0 0], .blk bc 64 [vc, .int .i64 (((sc.1 : Nat) : Int)), .int .u64 (sc.2)]]
     refine Run.y (.pointer (some ⟨b9, 1, none⟩)) rfl (OpY.fieldAddr Tfo_26_1 rfl rfl) ?_
     refine Run.formOwn (.head _) (fun A_ve2 c_ve2 hv hcapc_ve2 hmaxc_ve2 => ?_) (fun _ _ _ => ⟨nofun, nofun, nofun⟩)
     subst hv
     refine Run.step rfl (OpStep.store (us := [.slice A_ve2 c c_ve2]) Tsize_23 rfl rfl rfl (.there _ (.there _ (.here _))) (by simp only [List.length_cons, List.length_nil]; omega) ?_)
     show Run _ _ _ [.own (.slice A_ve2 c c_ve2) 80 2 c (ints es), .own vp 98 2 m (ints ps), .blk b9 26 [.int .i64 6, .slice A_ve2 c c_ve2, .slice (some ⟨b7, 0, none⟩) 3 3, .slice (some ⟨b8, 0, none⟩) 3 3], .own (.slice (some ⟨b8, 0, none⟩) 3 3) 3 1 3 ([.int .i64 3, .int .i64 4, .int .i64 5]), .own (.slice (some ⟨b7, 0, none⟩) 3 3) 3 1 3 ([.int .i64 0, .int .i64 1, .int .i64 2]), .blk b1 26 [.int .i64 0, .slice none 0 0, .slice none 0 0, .slice none 0 0], .blk bc 64 [vc, .int .i64 (((sc.1 : Nat) : Int)), .int .u64 (sc.2)]]
     refine Run.dsr ?_
     refine Run.y (.agg #[.int .i64 6, .slice A_ve2 c c_ve2, .slice (some ⟨b7, 0, none⟩) 3 3, .slice (some ⟨b8, 0, none⟩) 3 3]) rfl (OpY.loadN (cs := [.int .i64 6, .slice A_ve2 c c_ve2, .slice (some ⟨b7, 0, none⟩) 3 3, .slice (some ⟨b8, 0, none⟩) 3 3]) Tagg_26 rfl (Cells.blk (.tail _ (.tail _ (List.Mem.head _))) ⟨rfl, rfl, rfl, rfl, trivial⟩)) ?_
     refine Run.step rfl (OpStep.storeAll (us := [.int .i64 6, .slice A_ve2 c c_ve2, .slice (some ⟨b7, 0, none⟩) 3 3, .slice (some ⟨b8, 0, none⟩) 3 3]) Tsize_26 rfl rfl rfl (.there _ (.there _ (.there _ (.there _ (.there _ (.here _)))))) rfl ?_)
     refine Run.done ?_
     refine Run.ret ?_
     refine ⟨.agg #[.int .i64 6, .slice A_ve2 c c_ve2, .slice (some ⟨b7, 0, none⟩) 3 3, .slice (some ⟨b8, 0, none⟩) 3 3], [.own (.slice A_ve2 c c_ve2) 80 2 c (ints es), .own (.slice (some ⟨b7, 0, none⟩) 3 3) 3 1 3 (ints [0, 1, 2]), .own (.slice (some ⟨b8, 0, none⟩) 3 3) 3 1 3 (ints [3, 4, 5]), .blk bc 64 [vc, .int .i64 (((sc.1 : Nat) : Int)), .int .u64 (sc.2)]], Out.cell1 (cs := [.int .i64 6, .slice A_ve2 c c_ve2, .slice (some ⟨b7, 0, none⟩) 3 3, .slice (some ⟨b8, 0, none⟩) 3 3]) rfl Tagg_26 rfl (Cells.blk (.tail _ (.tail _ (.tail _ (.tail _ (.tail _ (List.Mem.head _)))))) ⟨rfl, rfl, rfl, rfl, trivial⟩), ((Weak.selF [0, 3, 2, 3]).trans (Some'.weak (.take (.takeEq (by first | rfl | simp) (.takeEq (by first | rfl | simp) (.take (.nil _))))))), ?_⟩
     exact ⟨6, _, _, _, _, _, _, _, _, _, _, ⟨⟨by omega, by omega⟩, by omega, by omega, by omega, by omega, hsm⟩, rfl, rfl⟩
  ·have p64 := h64; try simp only [bs] at p64
   refine Run.skip ?_
   refine Run.blockEnd ?_
   refine Run.sr ?_
   refine Run.p (.pointer (some ⟨bc, 0, none⟩)) rfl rfl ?_
   refine Run.step rfl (OpStep.callM (H1 := [.blk bc 64 [vc, .int .i64 (((s1.1 : Nat) : Int)), .int .u64 (s1.2)]]) (H2 := [.blk b1 26 [.int .i64 0, .slice none 0 0, .slice none 0 0, .slice none 0 0]]) (vs := [.pointer (some ⟨bc, 0, none⟩)]) (caps := []) Tcall_63 rfl rfl (Weak.refl _) (fun w hs => wires_spec (s := s1) (by omega) (hc.go hs) (hs.sub (List.sublist_append_left _ _)).self) ?_)
   rintro _ _ ⟨N, m, ni, no, ve, vi, vo, es, is, os, sg, ⟨⟨hN1, hN10⟩, hm1, hni, hno, hsg, hsm⟩, rfl, rfl⟩
   show Run _ _ (putF _ _ _ (.agg #[.int .i64 (((N : Nat) : Int)), ve, vi, vo])) [.own ve 80 2 m (ints es), .own vi 3 1 ni (ints is), .own vo 3 1 no (ints os), .blk bc 64 [vc, .int .i64 (((sg.1 : Nat) : Int)), .int .u64 (sg.2)], .blk b1 26 [.int .i64 0, .slice none 0 0, .slice none 0 0, .slice none 0 0]]
   refine Run.formOwn (.head _) (fun A_ve3 c_ve3 hv hcapc_ve3 hmaxc_ve3 => ?_) (fun _ _ _ => ⟨nofun, nofun, nofun⟩)
   subst hv
   refine Run.formOwn (.tail _ (List.Mem.head _)) (fun A_vi2 c_vi2 hv hcapc_vi2 hmaxc_vi2 => ?_) (fun _ _ _ => ⟨nofun, nofun, nofun⟩)
   subst hv
   refine Run.formOwn (.tail _ (.tail _ (List.Mem.head _))) (fun A_vo2 c_vo2 hv hcapc_vo2 hmaxc_vo2 => ?_) (fun _ _ _ => ⟨nofun, nofun, nofun⟩)
   subst hv
   refine Run.step rfl (OpStep.storeAll (us := [.int .i64 (((N : Nat) : Int)), .slice A_ve3 m c_ve3, .slice A_vi2 ni c_vi2, .slice A_vo2 no c_vo2]) Tsize_26 rfl rfl rfl (.there _ (.there _ (.there _ (.there _ (.here _))))) rfl ?_)
   refine Run.done ?_
   refine Run.ret ?_
   refine ⟨.agg #[.int .i64 (((N : Nat) : Int)), .slice A_ve3 m c_ve3, .slice A_vi2 ni c_vi2, .slice A_vo2 no c_vo2], [.own (.slice A_ve3 m c_ve3) 80 2 m (ints es), .own (.slice A_vi2 ni c_vi2) 3 1 ni (ints is), .own (.slice A_vo2 no c_vo2) 3 1 no (ints os), .blk bc 64 [vc, .int .i64 (((sg.1 : Nat) : Int)), .int .u64 (sg.2)]], Out.cell1 (cs := [.int .i64 (((N : Nat) : Int)), .slice A_ve3 m c_ve3, .slice A_vi2 ni c_vi2, .slice A_vo2 no c_vo2]) rfl Tagg_26 rfl (Cells.blk (.tail _ (.tail _ (.tail _ (.tail _ (List.Mem.head _))))) ⟨rfl, rfl, rfl, rfl, trivial⟩), (Some'.weak (.take (.take (.take (.take (.nil _)))))), ?_⟩
   exact ⟨_, _, _, _, _, _, _, _, _, _, _, ⟨⟨by omega, by omega⟩, by omega, by omega, by omega, by omega, hsm⟩, rfl, rfl⟩

set_option maxHeartbeats 2000000 in
set_option maxRecDepth 20000 in
theorem anyOpenGraph_spec {bc n : Nat} {vc : Value} {cs : List Int} {s : Nat × Int} {w : World} (hat : s.1 < 2305843009210000000) (hc : Cur w bc vc n cs) (hst : St (Of [.blk bc 64 [vc, .int .i64 (((s.1 : Nat) : Int)), .int .u64 (s.2)]]) w w [.blk bc 64 [vc, .int .i64 (((s.1 : Nat) : Int)), .int .u64 (s.2)]]) : Calls Try.prog 41 #[.pointer (some ⟨bc, 0, none⟩)] w (Post (Of [.blk bc 64 [vc, .int .i64 (((s.1 : Nat) : Int)), .int .u64 (s.2)]]) w fun v H => ∃ (N m ni no : Nat) (ve vi vo : Value) (es is os : List Int) (s1 : Nat × Int), ((N ≤ 11 ∧ m ≤ 101 ∧ ni ≤ 12 ∧ no ≤ 12) ∧ s1.1 ≤ s.1 + 130 ∧ ∀ x ∈ es, 0 ≤ x ∧ x ≤ 100) ∧ v = .agg #[.int .i64 (N : Nat), ve, vi, vo] ∧ H = [.own ve 80 2 m (ints es), .own vi 3 1 ni (ints is), .own vo 3 1 no (ints os), .blk bc 64 [vc, .int .i64 (s1.1 : Nat), .int .u64 s1.2]]) := by
 refine enter (n := 46) (args := [.pointer (some ⟨bc, 0, none⟩)]) Try.func41 rfl rfl (hst) ?_
 refine Run.sr ?_
 refine Run.step rfl (OpStep.alloc (zs := [.int .i64 0, .slice none 0 0, .slice none 0 0, .slice none 0 0]) Tzero_26 fun b1 => ?_)
 refine Run.dsr ?_
 refine Run.p (.pointer (some ⟨bc, 0, none⟩)) rfl rfl ?_
 refine Run.step rfl (OpStep.callM (H1 := [.blk bc 64 [vc, .int .i64 (((s.1 : Nat) : Int)), .int .u64 (s.2)]]) (H2 := [.blk b1 26 [.int .i64 0, .slice none 0 0, .slice none 0 0, .slice none 0 0]]) (vs := [.pointer (some ⟨bc, 0, none⟩)]) (caps := []) Tcall_70 rfl rfl (Weak.selF [1]) (fun w hs => openGraph_spec (s := s) (by omega) (hc.go hs) (hs.sub (List.sublist_append_left _ _)).self) ?_)
 rintro _ _ ⟨N, m, ni, no, ve, vi, vo, es, is, os, sg, ⟨⟨hN1, hN10⟩, hm1, hni, hno, hsg, hsm⟩, rfl, rfl⟩
 show Run _ _ (putF _ _ _ (.agg #[.int .i64 (((N : Nat) : Int)), ve, vi, vo])) [.own ve 80 2 m (ints es), .own vi 3 1 ni (ints is), .own vo 3 1 no (ints os), .blk bc 64 [vc, .int .i64 (((sg.1 : Nat) : Int)), .int .u64 (sg.2)], .blk b1 26 [.int .i64 0, .slice none 0 0, .slice none 0 0, .slice none 0 0]]
 refine Run.step rfl (OpStep.alloc (zs := [.int .i64 0, .slice none 0 0, .slice none 0 0, .slice none 0 0]) Tzero_26 fun b2 => ?_)
 refine Run.formOwn (.tail _ (List.Mem.head _)) (fun A_ve1 c_ve1 hv hcapc_ve1 hmaxc_ve1 => ?_) (fun _ _ _ => ⟨nofun, nofun, nofun⟩)
 subst hv
 refine Run.formOwn (.tail _ (.tail _ (List.Mem.head _))) (fun A_vi1 c_vi1 hv hcapc_vi1 hmaxc_vi1 => ?_) (fun _ _ _ => ⟨nofun, nofun, nofun⟩)
 subst hv
 refine Run.formOwn (.tail _ (.tail _ (.tail _ (List.Mem.head _)))) (fun A_vo1 c_vo1 hv hcapc_vo1 hmaxc_vo1 => ?_) (fun _ _ _ => ⟨nofun, nofun, nofun⟩)
 subst hv
 refine Run.step rfl (OpStep.storeAll (us := [.int .i64 (((N : Nat) : Int)), .slice A_ve1 m c_ve1, .slice A_vi1 ni c_vi1, .slice A_vo1 no c_vo1]) Tsize_26 rfl rfl rfl (.here _) rfl ?_)
 refine Run.done ?_
 refine Run.seq ?_
 refine Run.sr ?_
 refine Run.p (.pointer (some ⟨bc, 0, none⟩)) rfl rfl ?_
 refine Run.step rfl (OpStep.callM (H1 := [.blk bc 64 [vc, .int .i64 (((sg.1 : Nat) : Int)), .int .u64 (sg.2)]]) (H2 := [.blk b2 26 [.int .i64 (((N : Nat) : Int)), .slice A_ve1 m c_ve1, .slice A_vi1 ni c_vi1, .slice A_vo1 no c_vo1], .own (.slice A_ve1 m c_ve1) 80 2 m (ints es), .own (.slice A_vi1 ni c_vi1) 3 1 ni (ints is), .own (.slice A_vo1 no c_vo1) 3 1 no (ints os), .blk b1 26 [.int .i64 0, .slice none 0 0, .slice none 0 0, .slice none 0 0]]) (vs := [.pointer (some ⟨bc, 0, none⟩), .int .i64 14]) (caps := []) Tcall_43 rfl rfl (Weak.selF [4]) (fun w hs => pick_ex (by omega) (hc.go hs) (hs.sub (List.sublist_append_left _ _)).self) ?_)
 rintro _ _ ⟨x1, s1, hx1, hs1, rfl, rfl⟩
 show Run _ _ (putF _ _ _ (.int .i64 x1)) [.blk bc 64 [vc, .int .i64 (((s1.1 : Nat) : Int)), .int .u64 (s1.2)], .blk b2 26 [.int .i64 (((N : Nat) : Int)), .slice A_ve1 m c_ve1, .slice A_vi1 ni c_vi1, .slice A_vo1 no c_vo1], .own (.slice A_ve1 m c_ve1) 80 2 m (ints es), .own (.slice A_vi1 ni c_vi1) 3 1 ni (ints is), .own (.slice A_vo1 no c_vo1) 3 1 no (ints os), .blk b1 26 [.int .i64 0, .slice none 0 0, .slice none 0 0, .slice none 0 0]]
 refine Run.done ?_
 refine Run.block ?_
 refine Run.sr ?_
 refine Run.p (.bool (x1 == 0)) rfl rfl ?_
 refine Run.p (.bool (x1 == 0)) rfl rfl ?_
 refine Run.done ?_
 refine Run.cond (b := x1 == 0) rfl (fun h8 => ?_) (fun h8 => ?_)
 ·have p8 := h8; try simp only [bs] at p8
  refine Run.region ?_
  refine Run.p (.pointer (some ⟨bc, 0, none⟩)) rfl rfl ?_
  refine Run.step rfl (OpStep.buildSlice (us := [.int .i64 0, .int .i64 1, .int .i64 10, .int .i64 11]) Tsl_24 (by decide) (by decide) ⟨rfl, [.int .i64 0], _, rfl, rfl, rfl, ⟨rfl, [.int .i64 1], _, rfl, rfl, rfl, ⟨rfl, [.int .i64 10], _, rfl, rfl, rfl, ⟨rfl, [.int .i64 11], _, rfl, rfl, rfl, rfl⟩⟩⟩⟩ rfl fun b3 => ?_)
  refine Run.step rfl (OpStep.callM (H1 := [.blk bc 64 [vc, .int .i64 (((s1.1 : Nat) : Int)), .int .u64 (s1.2)], .own (.slice (some ⟨b3, 0, none⟩) 4 4) 3 1 4 (ints [0, 1, 10, 11])]) (H2 := [.blk b2 26 [.int .i64 (((N : Nat) : Int)), .slice A_ve1 m c_ve1, .slice A_vi1 ni c_vi1, .slice A_vo1 no c_vo1], .own (.slice A_ve1 m c_ve1) 80 2 m (ints es), .own (.slice A_vi1 ni c_vi1) 3 1 ni (ints is), .own (.slice A_vo1 no c_vo1) 3 1 no (ints os), .blk b1 26 [.int .i64 0, .slice none 0 0, .slice none 0 0, .slice none 0 0]]) (vs := [.pointer (some ⟨bc, 0, none⟩), .slice (some ⟨b3, 0, none⟩) 4 4]) (caps := []) Tcall_44 rfl rfl (Weak.selF [1, 0]) (fun w hs => among_spec (by omega) (by decide) (hc.go hs) (hc.apart hs (.tail _ (.head _))) (hs.sub (List.sublist_append_left _ _)).self) ?_)
  rintro _ _ ⟨i1, s2, hi1, hs2, rfl, rfl⟩
  show Run _ _ (putF _ _ _ (.int .i64 (ix [0, 1, 10, 11] i1))) [.blk bc 64 [vc, .int .i64 (((s2.1 : Nat) : Int)), .int .u64 (s2.2)], .blk b2 26 [.int .i64 (((N : Nat) : Int)), .slice A_ve1 m c_ve1, .slice A_vi1 ni c_vi1, .slice A_vo1 no c_vo1], .own (.slice A_ve1 m c_ve1) 80 2 m (ints es), .own (.slice A_vi1 ni c_vi1) 3 1 ni (ints is), .own (.slice A_vo1 no c_vo1) 3 1 no (ints os), .blk b1 26 [.int .i64 0, .slice none 0 0, .slice none 0 0, .slice none 0 0]]
  have hixi1 : 0 ≤ ix [0, 1, 10, 11] i1 ∧ ix [0, 1, 10, 11] i1 ≤ 11 := by
   rcases (by omega : i1 = 0 ∨ i1 = 1 ∨ i1 = 2 ∨ i1 = 3) with rfl | rfl | rfl | rfl <;> simp [ix]
  obtain ⟨N2, hN2⟩ : ∃ N2 : Nat, ix [0, 1, 10, 11] i1 = ((N2 : Nat) : Int) := ⟨(ix [0, 1, 10, 11] i1).toNat, by omega⟩
  rw [hN2]
  refine Run.y (.pointer (some ⟨b2, 0, none⟩)) rfl (OpY.fieldAddr Tfo_26_0 rfl rfl) ?_
  refine Run.step rfl (OpStep.store (us := [.int .i64 (((N2 : Nat) : Int))]) Tsize_3 rfl rfl rfl (.there _ (.here _)) (by simp only [List.length_cons, List.length_nil]; omega) ?_)
  show Run _ _ _ [.blk bc 64 [vc, .int .i64 (((s2.1 : Nat) : Int)), .int .u64 (s2.2)], .blk b2 26 [.int .i64 (((N2 : Nat) : Int)), .slice A_ve1 m c_ve1, .slice A_vi1 ni c_vi1, .slice A_vo1 no c_vo1], .own (.slice A_ve1 m c_ve1) 80 2 m (ints es), .own (.slice A_vi1 ni c_vi1) 3 1 ni (ints is), .own (.slice A_vo1 no c_vo1) 3 1 no (ints os), .blk b1 26 [.int .i64 0, .slice none 0 0, .slice none 0 0, .slice none 0 0]]
  refine Run.done ?_
  refine Run.blockEnd ?_
  refine Run.sr ?_
  refine Run.y (.agg #[.int .i64 (((N2 : Nat) : Int)), .slice A_ve1 m c_ve1, .slice A_vi1 ni c_vi1, .slice A_vo1 no c_vo1]) rfl (OpY.loadN (cs := [.int .i64 (((N2 : Nat) : Int)), .slice A_ve1 m c_ve1, .slice A_vi1 ni c_vi1, .slice A_vo1 no c_vo1]) Tagg_26 rfl (Cells.blk (.tail _ (List.Mem.head _)) ⟨rfl, rfl, rfl, rfl, trivial⟩)) ?_
  refine Run.step rfl (OpStep.storeAll (us := [.int .i64 (((N2 : Nat) : Int)), .slice A_ve1 m c_ve1, .slice A_vi1 ni c_vi1, .slice A_vo1 no c_vo1]) Tsize_26 rfl rfl rfl (.there _ (.there _ (.there _ (.there _ (.there _ (.here _)))))) rfl ?_)
  refine Run.done ?_
  refine Run.ret ?_
  refine ⟨.agg #[.int .i64 (((N2 : Nat) : Int)), .slice A_ve1 m c_ve1, .slice A_vi1 ni c_vi1, .slice A_vo1 no c_vo1], [.own (.slice A_ve1 m c_ve1) 80 2 m (ints es), .own (.slice A_vi1 ni c_vi1) 3 1 ni (ints is), .own (.slice A_vo1 no c_vo1) 3 1 no (ints os), .blk bc 64 [vc, .int .i64 (((s2.1 : Nat) : Int)), .int .u64 (s2.2)]], Out.cell1 (cs := [.int .i64 (((N2 : Nat) : Int)), .slice A_ve1 m c_ve1, .slice A_vi1 ni c_vi1, .slice A_vo1 no c_vo1]) rfl Tagg_26 rfl (Cells.blk (.tail _ (.tail _ (.tail _ (.tail _ (.tail _ (List.Mem.head _)))))) ⟨rfl, rfl, rfl, rfl, trivial⟩), ((Weak.selF [2, 2, 2, 0]).trans (Some'.weak (.take (.take (.take (.take (.nil _))))))), ?_⟩
  exact ⟨_, _, _, _, _, _, _, _, _, _, _, ⟨⟨by omega, by omega, by omega, by omega⟩, by omega, hsm⟩, rfl, rfl⟩
 ·have p8 := h8; try simp only [bs] at p8
  refine Run.sr ?_
  refine Run.p (.bool (x1 == 1)) rfl rfl ?_
  refine Run.p (.bool (x1 == 1)) rfl rfl ?_
  refine Run.done ?_
  refine Run.cond (b := x1 == 1) rfl (fun h14 => ?_) (fun h14 => ?_)
  ·have p14 := h14; try simp only [bs] at p14
   refine Run.lastlyB [10] [.blk b2 26 [.int .i64 (((N : Nat) : Int)), .slice A_ve1 m c_ve1, .slice A_vi1 ni c_vi1, .slice A_vo1 no c_vo1], .blk b1 26 [.int .i64 0, .slice none 0 0, .slice none 0 0, .slice none 0 0]] (by kernel_rfl) ?_
   refine DL.takeP (i := 0) (v := .pointer (some ⟨b2, 1, none⟩)) rfl (by kernel_rfl) (by kernel_rfl) (by kernel_rfl) (fun _ _ _ h => h) rfl (fun _ => OpY.fieldAddr Tfo_26_1 rfl rfl) ?_
   refine DL.take (i := 1) (v := .slice A_ve1 m c_ve1) rfl (by kernel_rfl) (by kernel_rfl) (by kernel_rfl) (by kernel_rfl) (fun _ _ _ h => h) (Some'.weak (.skip (.take (.skip (.skip (.skip (.take (.nil _)))))))) rfl (OpY.load1 Tone_23 rfl (Cells.blk (.head _) ⟨rfl, trivial⟩)) ?_
   refine DL.takeP (i := 2) (v := .pointer (some ⟨bc, 0, none⟩)) rfl (by kernel_rfl) (by kernel_rfl) (by kernel_rfl) (fun _ _ _ h => h) rfl (fun _ => OpY.pure rfl) ?_
   refine DL.takeP (i := 4) (v := .pointer (some ⟨bc, 0, none⟩)) rfl (by kernel_rfl) (by kernel_rfl) (by kernel_rfl) (fun _ _ _ h => h) rfl (fun _ => OpY.pure rfl) ?_
   refine DL.stepS (i := 3) (by kernel_rfl) rfl rfl (OpStep.callM (H1 := [.blk bc 64 [vc, .int .i64 (((s1.1 : Nat) : Int)), .int .u64 (s1.2)]]) (H2 := [.blk b2 26 [.int .i64 (((N : Nat) : Int)), .slice A_ve1 m c_ve1, .slice A_vi1 ni c_vi1, .slice A_vo1 no c_vo1], .own (.slice A_ve1 m c_ve1) 80 2 m (ints es), .own (.slice A_vi1 ni c_vi1) 3 1 ni (ints is), .own (.slice A_vo1 no c_vo1) 3 1 no (ints os), .blk b1 26 [.int .i64 0, .slice none 0 0, .slice none 0 0, .slice none 0 0]]) (vs := [.pointer (some ⟨bc, 0, none⟩), .int .i64 4]) (caps := []) Tcall_43 rfl rfl (Weak.refl _) (fun w hs => pick_ex (by omega) (hc.go hs) (hs.sub (List.sublist_append_left _ _)).self) ?_)
   rintro _ _ ⟨x2, s3, hx2, hs3, rfl, rfl⟩
   refine ⟨(Some'.weak (.skip (.take (.skip (.skip (.skip (.take (.nil _)))))))), ?_⟩
   refine DL.stepS (i := 5) (by kernel_rfl) rfl rfl (OpStep.callM (H1 := [.blk bc 64 [vc, .int .i64 (((s3.1 : Nat) : Int)), .int .u64 (s3.2)]]) (H2 := [.blk b2 26 [.int .i64 (((N : Nat) : Int)), .slice A_ve1 m c_ve1, .slice A_vi1 ni c_vi1, .slice A_vo1 no c_vo1], .own (.slice A_ve1 m c_ve1) 80 2 m (ints es), .own (.slice A_vi1 ni c_vi1) 3 1 ni (ints is), .own (.slice A_vo1 no c_vo1) 3 1 no (ints os), .blk b1 26 [.int .i64 0, .slice none 0 0, .slice none 0 0, .slice none 0 0]]) (vs := [.pointer (some ⟨bc, 0, none⟩), .int .i64 11]) (caps := []) Tcall_43 rfl rfl (Weak.refl _) (fun w hs => pick_ex (by omega) (hc.go hs) (hs.sub (List.sublist_append_left _ _)).self) ?_)
   rintro _ _ ⟨x3, s4, hx3, hs4, rfl, rfl⟩
   refine ⟨(Some'.weak (.skip (.take (.skip (.skip (.skip (.take (.nil _)))))))), ?_⟩
   refine DL.takeP (i := 6) (v := .agg #[.int .i64 x2, .int .i64 x3]) rfl (by kernel_rfl) (by kernel_rfl) (by kernel_rfl) (fun _ _ _ h => h) rfl (fun _ => OpY.build (cs := [.int .i64 x2, .int .i64 x3]) (by kernel_rfl)) ?_
   refine DL.stepS (i := 7) (by kernel_rfl) rfl rfl (OpStep.buildSlice (us := [.int .i64 x2, .int .i64 x3]) Tsl_23 (by decide) (by decide) ⟨rfl, [.int .i64 x2, .int .i64 x3], _, rfl, rfl, rfl, rfl⟩ rfl fun b4 => ?_)
   refine ⟨(Some'.weak (.skip (.skip (.take (.skip (.skip (.skip (.take (.nil _))))))))), ?_⟩
   refine DL.stepS (i := 8) (by kernel_rfl) rfl rfl (OpStep.append (H1 := [.own (.slice (some ⟨b4, 0, none⟩) 1 1) 80 2 1 ([.int .i64 x2, .int .i64 x3]), .blk bc 64 [vc, .int .i64 (((s4.1 : Nat) : Int)), .int .u64 (s4.2)], .blk b2 26 [.int .i64 (((N : Nat) : Int)), .slice A_ve1 m c_ve1, .slice A_vi1 ni c_vi1, .slice A_vo1 no c_vo1]]) (H2 := [.own (.slice A_vi1 ni c_vi1) 3 1 ni (ints is), .own (.slice A_vo1 no c_vo1) 3 1 no (ints os), .blk b1 26 [.int .i64 0, .slice none 0 0, .slice none 0 0, .slice none 0 0]]) (v := .slice A_ve1 m c_ve1) (u := .slice (some ⟨b4, 0, none⟩) 1 1) (n := m) (m := 1) (xs := ints es) (ys := [.int .i64 x2, .int .i64 x3]) Tsl_23 (by decide) rfl rfl rfl rfl (fun w hs => hs.slOwn (.head _)) (by simp [Value.oneCell']) (by omega) (by simp only [maxLen]; omega) fun av1 hnav1 => ?_)
   refine DL.weakS (H' := [.own (.slice (some ⟨b4, 0, none⟩) 1 1) 80 2 1 ([.int .i64 x2, .int .i64 x3]), .blk bc 64 [vc, .int .i64 (((s4.1 : Nat) : Int)), .int .u64 (s4.2)], .blk b2 26 [.int .i64 (((N : Nat) : Int)), .slice A_ve1 m c_ve1, .slice A_vi1 ni c_vi1, .slice A_vo1 no c_vo1], .own av1 80 2 (m + 1) (ints (es ++ [x2, x3])), .own (.slice A_vi1 ni c_vi1) 3 1 ni (ints is), .own (.slice A_vo1 no c_vo1) 3 1 no (ints os), .blk b1 26 [.int .i64 0, .slice none 0 0, .slice none 0 0, .slice none 0 0]]) (Some'.weak (.take (.take (.take (.takeEq (by simp [ints]) (.take (.take (.take (.nil _))))))))) ?_
   refine ⟨(Some'.weak (.skip (.skip (.take (.skip (.skip (.skip (.take (.nil _))))))))), ?_⟩
   refine DL.takeP (i := 9) (v := .pointer (some ⟨b2, 1, none⟩)) rfl (by kernel_rfl) (by kernel_rfl) (by kernel_rfl) (fun _ _ _ h => h) rfl (fun _ => OpY.fieldAddr Tfo_26_1 rfl rfl) ?_
   refine DL.formOwn (.tail _ (.tail _ (.tail _ (List.Mem.head _)))) (fun A_av11 c_av11 hv hcapc_av11 hmaxc_av11 => ?_)
   subst hv
   refine DL.step (i := 10) (by kernel_rfl) (by kernel_rfl) rfl rfl (OpStep.store (us := [.slice A_av11 (m + 1) c_av11]) Tsize_23 rfl rfl rfl (.there _ (.there _ (.here _))) (by simp only [List.length_cons, List.length_nil]; omega) ?_)
   show DL _ _ _ _ _ _ _ _ [.own (.slice (some ⟨b4, 0, none⟩) 1 1) 80 2 1 ([.int .i64 x2, .int .i64 x3]), .blk bc 64 [vc, .int .i64 (((s4.1 : Nat) : Int)), .int .u64 (s4.2)], .blk b2 26 [.int .i64 (((N : Nat) : Int)), .slice A_av11 (m + 1) c_av11, .slice A_vi1 ni c_vi1, .slice A_vo1 no c_vo1], .own (.slice A_av11 (m + 1) c_av11) 80 2 (m + 1) (ints (es ++ [x2, x3])), .own (.slice A_vi1 ni c_vi1) 3 1 ni (ints is), .own (.slice A_vo1 no c_vo1) 3 1 no (ints os), .blk b1 26 [.int .i64 0, .slice none 0 0, .slice none 0 0, .slice none 0 0]]
   refine DL.done (by kernel_rfl) ?_
   refine Run.blockEnd ?_
   refine Run.sr ?_
   refine Run.y (.agg #[.int .i64 (((N : Nat) : Int)), .slice A_av11 (m + 1) c_av11, .slice A_vi1 ni c_vi1, .slice A_vo1 no c_vo1]) rfl (OpY.loadN (cs := [.int .i64 (((N : Nat) : Int)), .slice A_av11 (m + 1) c_av11, .slice A_vi1 ni c_vi1, .slice A_vo1 no c_vo1]) Tagg_26 rfl (Cells.blk (.tail _ (.tail _ (List.Mem.head _))) ⟨rfl, rfl, rfl, rfl, trivial⟩)) ?_
   refine Run.step rfl (OpStep.storeAll (us := [.int .i64 (((N : Nat) : Int)), .slice A_av11 (m + 1) c_av11, .slice A_vi1 ni c_vi1, .slice A_vo1 no c_vo1]) Tsize_26 rfl rfl rfl (.there _ (.there _ (.there _ (.there _ (.there _ (.there _ (.here _))))))) rfl ?_)
   refine Run.done ?_
   refine Run.ret ?_
   refine ⟨.agg #[.int .i64 (((N : Nat) : Int)), .slice A_av11 (m + 1) c_av11, .slice A_vi1 ni c_vi1, .slice A_vo1 no c_vo1], [.own (.slice A_av11 (m + 1) c_av11) 80 2 (m + 1) (ints (es ++ [x2, x3])), .own (.slice A_vi1 ni c_vi1) 3 1 ni (ints is), .own (.slice A_vo1 no c_vo1) 3 1 no (ints os), .blk bc 64 [vc, .int .i64 (((s4.1 : Nat) : Int)), .int .u64 (s4.2)]], Out.cell1 (cs := [.int .i64 (((N : Nat) : Int)), .slice A_av11 (m + 1) c_av11, .slice A_vi1 ni c_vi1, .slice A_vo1 no c_vo1]) rfl Tagg_26 rfl (Cells.blk (.tail _ (.tail _ (.tail _ (.tail _ (.tail _ (.tail _ (List.Mem.head _))))))) ⟨rfl, rfl, rfl, rfl, trivial⟩), ((Weak.selF [3, 3, 3, 1]).trans (Some'.weak (.take (.take (.take (.take (.nil _))))))), ?_⟩
   exact ⟨_, _, _, _, _, _, _, _, _, _, _, ⟨⟨by omega, by omega, by omega, by omega⟩, by omega, small_app hsm (by omega) (by omega)⟩, rfl, rfl⟩
  ·have p14 := h14; try simp only [bs] at p14
   refine Run.sr ?_
   refine Run.p (.bool (x1 == 2)) rfl rfl ?_
   refine Run.p (.bool (x1 == 2)) rfl rfl ?_
   refine Run.done ?_
   refine Run.cond (b := x1 == 2) rfl (fun h26 => ?_) (fun h26 => ?_)
   ·have p26 := h26; try simp only [bs] at p26
    refine Run.lastlyB [7] [.blk b2 26 [.int .i64 (((N : Nat) : Int)), .slice A_ve1 m c_ve1, .slice A_vi1 ni c_vi1, .slice A_vo1 no c_vo1], .blk b1 26 [.int .i64 0, .slice none 0 0, .slice none 0 0, .slice none 0 0]] (by kernel_rfl) ?_
    refine DL.takeP (i := 0) (v := .pointer (some ⟨b2, 2, none⟩)) rfl (by kernel_rfl) (by kernel_rfl) (by kernel_rfl) (fun _ _ _ h => h) rfl (fun _ => OpY.fieldAddr Tfo_26_2 rfl rfl) ?_
    refine DL.take (i := 1) (v := .slice A_vi1 ni c_vi1) rfl (by kernel_rfl) (by kernel_rfl) (by kernel_rfl) (by kernel_rfl) (fun _ _ _ h => h) (Some'.weak (.skip (.take (.skip (.skip (.skip (.take (.nil _)))))))) rfl (OpY.load1 Tone_24 rfl (Cells.blk (.head _) ⟨rfl, trivial⟩)) ?_
    refine DL.takeP (i := 2) (v := .pointer (some ⟨bc, 0, none⟩)) rfl (by kernel_rfl) (by kernel_rfl) (by kernel_rfl) (fun _ _ _ h => h) rfl (fun _ => OpY.pure rfl) ?_
    refine DL.stepS (i := 3) (by kernel_rfl) rfl rfl (OpStep.callM (H1 := [.blk bc 64 [vc, .int .i64 (((s1.1 : Nat) : Int)), .int .u64 (s1.2)]]) (H2 := [.blk b2 26 [.int .i64 (((N : Nat) : Int)), .slice A_ve1 m c_ve1, .slice A_vi1 ni c_vi1, .slice A_vo1 no c_vo1], .own (.slice A_ve1 m c_ve1) 80 2 m (ints es), .own (.slice A_vi1 ni c_vi1) 3 1 ni (ints is), .own (.slice A_vo1 no c_vo1) 3 1 no (ints os), .blk b1 26 [.int .i64 0, .slice none 0 0, .slice none 0 0, .slice none 0 0]]) (vs := [.pointer (some ⟨bc, 0, none⟩), .int .i64 10]) (caps := []) Tcall_43 rfl rfl (Weak.refl _) (fun w hs => pick_ex (by omega) (hc.go hs) (hs.sub (List.sublist_append_left _ _)).self) ?_)
    rintro _ _ ⟨x4, s5, hx4, hs5, rfl, rfl⟩
    refine ⟨(Some'.weak (.skip (.take (.skip (.skip (.skip (.take (.nil _)))))))), ?_⟩
    refine DL.stepS (i := 4) (by kernel_rfl) rfl rfl (OpStep.buildSlice (us := [.int .i64 x4]) Tsl_24 (by decide) (by decide) ⟨rfl, [.int .i64 x4], _, rfl, rfl, rfl, rfl⟩ rfl fun b5 => ?_)
    refine ⟨(Some'.weak (.skip (.skip (.take (.skip (.skip (.skip (.take (.nil _))))))))), ?_⟩
    refine DL.stepS (i := 5) (by kernel_rfl) rfl rfl (OpStep.append (H1 := [.own (.slice (some ⟨b5, 0, none⟩) 1 1) 3 1 1 ([.int .i64 x4]), .blk bc 64 [vc, .int .i64 (((s5.1 : Nat) : Int)), .int .u64 (s5.2)], .blk b2 26 [.int .i64 (((N : Nat) : Int)), .slice A_ve1 m c_ve1, .slice A_vi1 ni c_vi1, .slice A_vo1 no c_vo1], .own (.slice A_ve1 m c_ve1) 80 2 m (ints es)]) (H2 := [.own (.slice A_vo1 no c_vo1) 3 1 no (ints os), .blk b1 26 [.int .i64 0, .slice none 0 0, .slice none 0 0, .slice none 0 0]]) (v := .slice A_vi1 ni c_vi1) (u := .slice (some ⟨b5, 0, none⟩) 1 1) (n := ni) (m := 1) (xs := ints is) (ys := [.int .i64 x4]) Tsl_24 (by decide) rfl rfl rfl rfl (fun w hs => hs.slOwn (.head _)) (by simp [Value.oneCell']) (by omega) (by simp only [maxLen]; omega) fun av2 hnav2 => ?_)
    refine DL.weakS (H' := [.own (.slice (some ⟨b5, 0, none⟩) 1 1) 3 1 1 ([.int .i64 x4]), .blk bc 64 [vc, .int .i64 (((s5.1 : Nat) : Int)), .int .u64 (s5.2)], .blk b2 26 [.int .i64 (((N : Nat) : Int)), .slice A_ve1 m c_ve1, .slice A_vi1 ni c_vi1, .slice A_vo1 no c_vo1], .own (.slice A_ve1 m c_ve1) 80 2 m (ints es), .own av2 3 1 (ni + 1) (ints (is ++ [x4])), .own (.slice A_vo1 no c_vo1) 3 1 no (ints os), .blk b1 26 [.int .i64 0, .slice none 0 0, .slice none 0 0, .slice none 0 0]]) (Some'.weak (.take (.take (.take (.take (.takeEq (by simp [ints]) (.take (.take (.nil _))))))))) ?_
    refine ⟨(Some'.weak (.skip (.skip (.take (.skip (.skip (.skip (.take (.nil _))))))))), ?_⟩
    refine DL.takeP (i := 6) (v := .pointer (some ⟨b2, 2, none⟩)) rfl (by kernel_rfl) (by kernel_rfl) (by kernel_rfl) (fun _ _ _ h => h) rfl (fun _ => OpY.fieldAddr Tfo_26_2 rfl rfl) ?_
    refine DL.formOwn (.tail _ (.tail _ (.tail _ (.tail _ (List.Mem.head _))))) (fun A_av21 c_av21 hv hcapc_av21 hmaxc_av21 => ?_)
    subst hv
    refine DL.step (i := 7) (by kernel_rfl) (by kernel_rfl) rfl rfl (OpStep.store (us := [.slice A_av21 (ni + 1) c_av21]) Tsize_24 rfl rfl rfl (.there _ (.there _ (.here _))) (by simp only [List.length_cons, List.length_nil]; omega) ?_)
    show DL _ _ _ _ _ _ _ _ [.own (.slice (some ⟨b5, 0, none⟩) 1 1) 3 1 1 ([.int .i64 x4]), .blk bc 64 [vc, .int .i64 (((s5.1 : Nat) : Int)), .int .u64 (s5.2)], .blk b2 26 [.int .i64 (((N : Nat) : Int)), .slice A_ve1 m c_ve1, .slice A_av21 (ni + 1) c_av21, .slice A_vo1 no c_vo1], .own (.slice A_ve1 m c_ve1) 80 2 m (ints es), .own (.slice A_av21 (ni + 1) c_av21) 3 1 (ni + 1) (ints (is ++ [x4])), .own (.slice A_vo1 no c_vo1) 3 1 no (ints os), .blk b1 26 [.int .i64 0, .slice none 0 0, .slice none 0 0, .slice none 0 0]]
    refine DL.done (by kernel_rfl) ?_
    refine Run.blockEnd ?_
    refine Run.sr ?_
    refine Run.y (.agg #[.int .i64 (((N : Nat) : Int)), .slice A_ve1 m c_ve1, .slice A_av21 (ni + 1) c_av21, .slice A_vo1 no c_vo1]) rfl (OpY.loadN (cs := [.int .i64 (((N : Nat) : Int)), .slice A_ve1 m c_ve1, .slice A_av21 (ni + 1) c_av21, .slice A_vo1 no c_vo1]) Tagg_26 rfl (Cells.blk (.tail _ (.tail _ (List.Mem.head _))) ⟨rfl, rfl, rfl, rfl, trivial⟩)) ?_
    refine Run.step rfl (OpStep.storeAll (us := [.int .i64 (((N : Nat) : Int)), .slice A_ve1 m c_ve1, .slice A_av21 (ni + 1) c_av21, .slice A_vo1 no c_vo1]) Tsize_26 rfl rfl rfl (.there _ (.there _ (.there _ (.there _ (.there _ (.there _ (.here _))))))) rfl ?_)
    refine Run.done ?_
    refine Run.ret ?_
    refine ⟨.agg #[.int .i64 (((N : Nat) : Int)), .slice A_ve1 m c_ve1, .slice A_av21 (ni + 1) c_av21, .slice A_vo1 no c_vo1], [.own (.slice A_ve1 m c_ve1) 80 2 m (ints es), .own (.slice A_av21 (ni + 1) c_av21) 3 1 (ni + 1) (ints (is ++ [x4])), .own (.slice A_vo1 no c_vo1) 3 1 no (ints os), .blk bc 64 [vc, .int .i64 (((s5.1 : Nat) : Int)), .int .u64 (s5.2)]], Out.cell1 (cs := [.int .i64 (((N : Nat) : Int)), .slice A_ve1 m c_ve1, .slice A_av21 (ni + 1) c_av21, .slice A_vo1 no c_vo1]) rfl Tagg_26 rfl (Cells.blk (.tail _ (.tail _ (.tail _ (.tail _ (.tail _ (.tail _ (List.Mem.head _))))))) ⟨rfl, rfl, rfl, rfl, trivial⟩), ((Weak.selF [3, 3, 3, 1]).trans (Some'.weak (.take (.take (.take (.take (.nil _))))))), ?_⟩
    exact ⟨_, _, _, _, _, _, _, _, _, _, _, ⟨⟨by omega, by omega, by omega, by omega⟩, by omega, hsm⟩, rfl, rfl⟩
   ·have p26 := h26; try simp only [bs] at p26
    refine Run.sr ?_
    refine Run.p (.bool (x1 == 3)) rfl rfl ?_
    refine Run.p (.bool (x1 == 3)) rfl rfl ?_
    refine Run.done ?_
    refine Run.cond (b := x1 == 3) rfl (fun h35 => ?_) (fun h35 => ?_)
    ·have p35 := h35; try simp only [bs] at p35
     refine Run.lastlyB [8] [.blk b2 26 [.int .i64 (((N : Nat) : Int)), .slice A_ve1 m c_ve1, .slice A_vi1 ni c_vi1, .slice A_vo1 no c_vo1], .blk b1 26 [.int .i64 0, .slice none 0 0, .slice none 0 0, .slice none 0 0]] (by kernel_rfl) ?_
     refine DL.takeP (i := 0) (v := .pointer (some ⟨b2, 3, none⟩)) rfl (by kernel_rfl) (by kernel_rfl) (by kernel_rfl) (fun _ _ _ h => h) rfl (fun _ => OpY.fieldAddr Tfo_26_3 rfl rfl) ?_
     refine DL.take (i := 1) (v := .slice A_vo1 no c_vo1) rfl (by kernel_rfl) (by kernel_rfl) (by kernel_rfl) (by kernel_rfl) (fun _ _ _ h => h) (Some'.weak (.skip (.take (.skip (.skip (.skip (.take (.nil _)))))))) rfl (OpY.load1 Tone_24 rfl (Cells.blk (.head _) ⟨rfl, trivial⟩)) ?_
     refine DL.takeP (i := 2) (v := .pointer (some ⟨bc, 0, none⟩)) rfl (by kernel_rfl) (by kernel_rfl) (by kernel_rfl) (fun _ _ _ h => h) rfl (fun _ => OpY.pure rfl) ?_
     refine DL.stepS (i := 3) (by kernel_rfl) rfl rfl (OpStep.callM (H1 := [.blk bc 64 [vc, .int .i64 (((s1.1 : Nat) : Int)), .int .u64 (s1.2)]]) (H2 := [.blk b2 26 [.int .i64 (((N : Nat) : Int)), .slice A_ve1 m c_ve1, .slice A_vi1 ni c_vi1, .slice A_vo1 no c_vo1], .own (.slice A_ve1 m c_ve1) 80 2 m (ints es), .own (.slice A_vi1 ni c_vi1) 3 1 ni (ints is), .own (.slice A_vo1 no c_vo1) 3 1 no (ints os), .blk b1 26 [.int .i64 0, .slice none 0 0, .slice none 0 0, .slice none 0 0]]) (vs := [.pointer (some ⟨bc, 0, none⟩), .int .i64 10]) (caps := []) Tcall_43 rfl rfl (Weak.refl _) (fun w hs => pick_ex (by omega) (hc.go hs) (hs.sub (List.sublist_append_left _ _)).self) ?_)
     rintro _ _ ⟨x5, s6, hx5, hs6, rfl, rfl⟩
     refine ⟨(Some'.weak (.skip (.take (.skip (.skip (.skip (.take (.nil _)))))))), ?_⟩
     refine DL.takeP (i := 4) (v := .int .i64 (x5 - 1)) rfl (by kernel_rfl) (by kernel_rfl) (by kernel_rfl) (fun _ _ _ h => h) rfl (fun _ => OpY.sub rfl rfl rfl (by omega) (by omega)) ?_
     refine DL.stepS (i := 5) (by kernel_rfl) rfl rfl (OpStep.buildSlice (us := [.int .i64 (x5 - 1)]) Tsl_24 (by decide) (by decide) ⟨rfl, [.int .i64 (x5 - 1)], _, rfl, rfl, rfl, rfl⟩ rfl fun b6 => ?_)
     refine ⟨(Some'.weak (.skip (.skip (.take (.skip (.skip (.skip (.take (.nil _))))))))), ?_⟩
     refine DL.stepS (i := 6) (by kernel_rfl) rfl rfl (OpStep.append (H1 := [.own (.slice (some ⟨b6, 0, none⟩) 1 1) 3 1 1 ([.int .i64 (x5 - 1)]), .blk bc 64 [vc, .int .i64 (((s6.1 : Nat) : Int)), .int .u64 (s6.2)], .blk b2 26 [.int .i64 (((N : Nat) : Int)), .slice A_ve1 m c_ve1, .slice A_vi1 ni c_vi1, .slice A_vo1 no c_vo1], .own (.slice A_ve1 m c_ve1) 80 2 m (ints es), .own (.slice A_vi1 ni c_vi1) 3 1 ni (ints is)]) (H2 := [.blk b1 26 [.int .i64 0, .slice none 0 0, .slice none 0 0, .slice none 0 0]]) (v := .slice A_vo1 no c_vo1) (u := .slice (some ⟨b6, 0, none⟩) 1 1) (n := no) (m := 1) (xs := ints os) (ys := [.int .i64 (x5 - 1)]) Tsl_24 (by decide) rfl rfl rfl rfl (fun w hs => hs.slOwn (.head _)) (by simp [Value.oneCell']) (by omega) (by simp only [maxLen]; omega) fun av3 hnav3 => ?_)
     refine DL.weakS (H' := [.own (.slice (some ⟨b6, 0, none⟩) 1 1) 3 1 1 ([.int .i64 (x5 - 1)]), .blk bc 64 [vc, .int .i64 (((s6.1 : Nat) : Int)), .int .u64 (s6.2)], .blk b2 26 [.int .i64 (((N : Nat) : Int)), .slice A_ve1 m c_ve1, .slice A_vi1 ni c_vi1, .slice A_vo1 no c_vo1], .own (.slice A_ve1 m c_ve1) 80 2 m (ints es), .own (.slice A_vi1 ni c_vi1) 3 1 ni (ints is), .own av3 3 1 (no + 1) (ints (os ++ [x5 - 1])), .blk b1 26 [.int .i64 0, .slice none 0 0, .slice none 0 0, .slice none 0 0]]) (Some'.weak (.take (.take (.take (.take (.take (.takeEq (by simp [ints]) (.take (.nil _))))))))) ?_
     refine ⟨(Some'.weak (.skip (.skip (.take (.skip (.skip (.skip (.take (.nil _))))))))), ?_⟩
     refine DL.takeP (i := 7) (v := .pointer (some ⟨b2, 3, none⟩)) rfl (by kernel_rfl) (by kernel_rfl) (by kernel_rfl) (fun _ _ _ h => h) rfl (fun _ => OpY.fieldAddr Tfo_26_3 rfl rfl) ?_
     refine DL.formOwn (.tail _ (.tail _ (.tail _ (.tail _ (.tail _ (List.Mem.head _)))))) (fun A_av31 c_av31 hv hcapc_av31 hmaxc_av31 => ?_)
     subst hv
     refine DL.step (i := 8) (by kernel_rfl) (by kernel_rfl) rfl rfl (OpStep.store (us := [.slice A_av31 (no + 1) c_av31]) Tsize_24 rfl rfl rfl (.there _ (.there _ (.here _))) (by simp only [List.length_cons, List.length_nil]; omega) ?_)
     show DL _ _ _ _ _ _ _ _ [.own (.slice (some ⟨b6, 0, none⟩) 1 1) 3 1 1 ([.int .i64 (x5 - 1)]), .blk bc 64 [vc, .int .i64 (((s6.1 : Nat) : Int)), .int .u64 (s6.2)], .blk b2 26 [.int .i64 (((N : Nat) : Int)), .slice A_ve1 m c_ve1, .slice A_vi1 ni c_vi1, .slice A_av31 (no + 1) c_av31], .own (.slice A_ve1 m c_ve1) 80 2 m (ints es), .own (.slice A_vi1 ni c_vi1) 3 1 ni (ints is), .own (.slice A_av31 (no + 1) c_av31) 3 1 (no + 1) (ints (os ++ [x5 - 1])), .blk b1 26 [.int .i64 0, .slice none 0 0, .slice none 0 0, .slice none 0 0]]
     refine DL.done (by kernel_rfl) ?_
     refine Run.blockEnd ?_
     refine Run.sr ?_
     refine Run.y (.agg #[.int .i64 (((N : Nat) : Int)), .slice A_ve1 m c_ve1, .slice A_vi1 ni c_vi1, .slice A_av31 (no + 1) c_av31]) rfl (OpY.loadN (cs := [.int .i64 (((N : Nat) : Int)), .slice A_ve1 m c_ve1, .slice A_vi1 ni c_vi1, .slice A_av31 (no + 1) c_av31]) Tagg_26 rfl (Cells.blk (.tail _ (.tail _ (List.Mem.head _))) ⟨rfl, rfl, rfl, rfl, trivial⟩)) ?_
     refine Run.step rfl (OpStep.storeAll (us := [.int .i64 (((N : Nat) : Int)), .slice A_ve1 m c_ve1, .slice A_vi1 ni c_vi1, .slice A_av31 (no + 1) c_av31]) Tsize_26 rfl rfl rfl (.there _ (.there _ (.there _ (.there _ (.there _ (.there _ (.here _))))))) rfl ?_)
     refine Run.done ?_
     refine Run.ret ?_
     refine ⟨.agg #[.int .i64 (((N : Nat) : Int)), .slice A_ve1 m c_ve1, .slice A_vi1 ni c_vi1, .slice A_av31 (no + 1) c_av31], [.own (.slice A_ve1 m c_ve1) 80 2 m (ints es), .own (.slice A_vi1 ni c_vi1) 3 1 ni (ints is), .own (.slice A_av31 (no + 1) c_av31) 3 1 (no + 1) (ints (os ++ [x5 - 1])), .blk bc 64 [vc, .int .i64 (((s6.1 : Nat) : Int)), .int .u64 (s6.2)]], Out.cell1 (cs := [.int .i64 (((N : Nat) : Int)), .slice A_ve1 m c_ve1, .slice A_vi1 ni c_vi1, .slice A_av31 (no + 1) c_av31]) rfl Tagg_26 rfl (Cells.blk (.tail _ (.tail _ (.tail _ (.tail _ (.tail _ (.tail _ (List.Mem.head _))))))) ⟨rfl, rfl, rfl, rfl, trivial⟩), ((Weak.selF [3, 3, 3, 1]).trans (Some'.weak (.take (.take (.take (.take (.nil _))))))), ?_⟩
     exact ⟨_, _, _, _, _, _, _, _, _, _, _, ⟨⟨by omega, by omega, by omega, by omega⟩, by omega, hsm⟩, rfl, rfl⟩
    ·have p35 := h35; try simp only [bs] at p35
     refine Run.skip ?_
     refine Run.blockEnd ?_
     refine Run.sr ?_
     refine Run.y (.agg #[.int .i64 (((N : Nat) : Int)), .slice A_ve1 m c_ve1, .slice A_vi1 ni c_vi1, .slice A_vo1 no c_vo1]) rfl (OpY.loadN (cs := [.int .i64 (((N : Nat) : Int)), .slice A_ve1 m c_ve1, .slice A_vi1 ni c_vi1, .slice A_vo1 no c_vo1]) Tagg_26 rfl (Cells.blk (.tail _ (List.Mem.head _)) ⟨rfl, rfl, rfl, rfl, trivial⟩)) ?_
     refine Run.step rfl (OpStep.storeAll (us := [.int .i64 (((N : Nat) : Int)), .slice A_ve1 m c_ve1, .slice A_vi1 ni c_vi1, .slice A_vo1 no c_vo1]) Tsize_26 rfl rfl rfl (.there _ (.there _ (.there _ (.there _ (.there _ (.here _)))))) rfl ?_)
     refine Run.done ?_
     refine Run.ret ?_
     refine ⟨.agg #[.int .i64 (((N : Nat) : Int)), .slice A_ve1 m c_ve1, .slice A_vi1 ni c_vi1, .slice A_vo1 no c_vo1], [.own (.slice A_ve1 m c_ve1) 80 2 m (ints es), .own (.slice A_vi1 ni c_vi1) 3 1 ni (ints is), .own (.slice A_vo1 no c_vo1) 3 1 no (ints os), .blk bc 64 [vc, .int .i64 (((s1.1 : Nat) : Int)), .int .u64 (s1.2)]], Out.cell1 (cs := [.int .i64 (((N : Nat) : Int)), .slice A_ve1 m c_ve1, .slice A_vi1 ni c_vi1, .slice A_vo1 no c_vo1]) rfl Tagg_26 rfl (Cells.blk (.tail _ (.tail _ (.tail _ (.tail _ (.tail _ (List.Mem.head _)))))) ⟨rfl, rfl, rfl, rfl, trivial⟩), ((Weak.selF [2, 2, 2, 0]).trans (Some'.weak (.take (.take (.take (.take (.nil _))))))), ?_⟩
     exact ⟨_, _, _, _, _, _, _, _, _, _, _, ⟨⟨by omega, by omega, by omega, by omega⟩, by omega, hsm⟩, rfl, rfl⟩

set_option maxHeartbeats 1000000 in
set_option maxRecDepth 20000 in
theorem DrawIsValidOpenGraph_spec {va : Value} {n : Nat} {cs : List Int} {w : World} (ha : Sl w va 1 n (u8s cs)) (hby : ∀ x ∈ cs, 0 ≤ x ∧ x < 256) : Calls Try.prog 23 #[va] w (Post No w fun v H => ∃ (N m ni no : Nat) (ve vi vo : Value) (es is os : List Int), ((N ≤ 11 ∧ m ≤ 101 ∧ ni ≤ 12 ∧ no ≤ 12) ∧ ∀ x ∈ es, 0 ≤ x ∧ x ≤ 100) ∧ v = .agg #[.int .i64 (N : Nat), ve, vi, vo] ∧ H = [.own ve 80 2 m (ints es), .own vi 3 1 ni (ints is), .own vo 3 1 no (ints os)]) := by
 obtain ⟨Ac, cc, rfl, _, _⟩ := ha.form0
 refine enter (n := 9) (args := [.slice Ac n cc]) Try.func23 rfl rfl (St.empty _ _) ?_
 refine Run.sr ?_
 refine Run.step rfl (OpStep.alloc (zs := [.int .i64 0, .slice none 0 0, .slice none 0 0, .slice none 0 0]) Tzero_26 fun b1 => ?_)
 refine Run.dsr ?_
 refine Run.p (.slice Ac n cc) rfl rfl ?_
 refine Run.y (.agg #[.slice Ac n cc, .int .i64 0, .int .u64 0]) rfl (OpY.build (cs := [.slice Ac n cc, .int .i64 0, .int .u64 0]) (by kernel_rfl)) ?_
 refine Run.step rfl (OpStep.box (us := [.slice Ac n cc, .int .i64 0, .int .u64 0]) rfl fun b2 => ?_)
 refine Run.p (.pointer (some ⟨b2, 0, none⟩)) rfl rfl ?_
 refine Run.dsr ?_
 refine Run.p (.pointer (some ⟨b2, 0, none⟩)) rfl rfl ?_
 refine Run.step rfl (OpStep.callM (H1 := [.blk b2 64 [.slice Ac n cc, .int .i64 0, .int .u64 0]]) (H2 := [.blk b1 26 [.int .i64 0, .slice none 0 0, .slice none 0 0, .slice none 0 0]]) (vs := [.pointer (some ⟨b2, 0, none⟩)]) (caps := []) Tcall_41 rfl rfl (Weak.refl _) (fun w hs => anyOpenGraph_spec (s := (0, 0)) (by decide) (Cur.top ha hby hs (.head _)) (hs.sub (List.sublist_append_left _ _)).self) ?_)
 rintro _ _ ⟨N, m, ni, no, ve, vi, vo, es, is, os, sg, ⟨hgr, hsg, hsm⟩, rfl, rfl⟩
 show Run _ _ (putF _ _ _ (.agg #[.int .i64 (((N : Nat) : Int)), ve, vi, vo])) [.own ve 80 2 m (ints es), .own vi 3 1 ni (ints is), .own vo 3 1 no (ints os), .blk b2 64 [.slice Ac n cc, .int .i64 (((sg.1 : Nat) : Int)), .int .u64 (sg.2)], .blk b1 26 [.int .i64 0, .slice none 0 0, .slice none 0 0, .slice none 0 0]]
 refine Run.formOwn (.head _) (fun A_ve1 c_ve1 hv hcapc_ve1 hmaxc_ve1 => ?_) (fun _ _ _ => ⟨nofun, nofun, nofun⟩)
 subst hv
 refine Run.formOwn (.tail _ (List.Mem.head _)) (fun A_vi1 c_vi1 hv hcapc_vi1 hmaxc_vi1 => ?_) (fun _ _ _ => ⟨nofun, nofun, nofun⟩)
 subst hv
 refine Run.formOwn (.tail _ (.tail _ (List.Mem.head _))) (fun A_vo1 c_vo1 hv hcapc_vo1 hmaxc_vo1 => ?_) (fun _ _ _ => ⟨nofun, nofun, nofun⟩)
 subst hv
 refine Run.step rfl (OpStep.storeAll (us := [.int .i64 (((N : Nat) : Int)), .slice A_ve1 m c_ve1, .slice A_vi1 ni c_vi1, .slice A_vo1 no c_vo1]) Tsize_26 rfl rfl rfl (.there _ (.there _ (.there _ (.there _ (.here _))))) rfl ?_)
 refine Run.done ?_
 refine Run.ret ?_
 refine ⟨.agg #[.int .i64 (((N : Nat) : Int)), .slice A_ve1 m c_ve1, .slice A_vi1 ni c_vi1, .slice A_vo1 no c_vo1], [.own (.slice A_ve1 m c_ve1) 80 2 m (ints es), .own (.slice A_vi1 ni c_vi1) 3 1 ni (ints is), .own (.slice A_vo1 no c_vo1) 3 1 no (ints os)], Out.cell1 (cs := [.int .i64 (((N : Nat) : Int)), .slice A_ve1 m c_ve1, .slice A_vi1 ni c_vi1, .slice A_vo1 no c_vo1]) rfl Tagg_26 rfl (Cells.blk (.tail _ (.tail _ (.tail _ (.tail _ (List.Mem.head _))))) ⟨rfl, rfl, rfl, rfl, trivial⟩), (Some'.weak (.take (.take (.take (.nil _))))), ?_⟩
 exact ⟨_, _, _, _, _, _, _, _, _, _, ⟨hgr, hsm⟩, rfl, rfl⟩

end Go.Proofs.Ytoiaibgcjfgbcaa
/- Walks: drawn flows. -/
set_option linter.unusedSimpArgs false
set_option linter.unusedVariables false
namespace Go.Proofs.Ytoiaibgcjfgbcaa
open Go Go.RowKit
namespace FwlT
theorem Tagg_26 : aggOf Try.prog 26 = some 4 := by kernel_rfl
theorem Tcall_32 : callable Try.prog 32 = true := by kernel_rfl
theorem Tcall_41 : callable Try.prog 41 = true := by kernel_rfl
theorem Tcall_42 : callable Try.prog 42 = true := by kernel_rfl
theorem Tcall_43 : callable Try.prog 43 = true := by kernel_rfl
theorem Tcall_44 : callable Try.prog 44 = true := by kernel_rfl
theorem Tcall_63 : callable Try.prog 63 = true := by kernel_rfl
theorem Tfo_26_0 : fieldOff Try.prog 26 0 = some 0 := by kernel_rfl
theorem Tone_24 : oneOf Try.prog 24 = true := by kernel_rfl
theorem Tone_3 : oneOf Try.prog 3 = true := by kernel_rfl
theorem Tsize_24 : (Try.prog.info? 24).map (·.size) = some 1 := by kernel_rfl
theorem Tsize_26 : (Try.prog.info? 26).map (·.size) = some 4 := by kernel_rfl
theorem Tsize_3 : (Try.prog.info? 3).map (·.size) = some 1 := by kernel_rfl
theorem Tsl_24 : sliceOf Try.prog 24 = some (3, 1, 8, [.int .i64 0]) := by kernel_rfl
theorem Tzero_26 : zeroOf Try.prog 26 = some [.int .i64 0, .slice none 0 0, .slice none 0 0, .slice none 0 0] := by kernel_rfl
end FwlT
open FwlT
/-- Two may come up; the base goes on to hold. -/
theorem DL.two {E : Env} {ops : Array Oper} {Z : List Nat} {base : List Res} {k : List It} {fuel : Nat} {listed : Array Bool} {f : Fr} {H : List Res} {i j : Nat} {o o' : Oper} (hr : Region.ready .any ops listed = [i, j]) (hi : ops[i]? = some o) (hj : ops[j]? = some o') (hw : wantedF ops f o = true) (hw' : wantedF ops f o' = true)
    (h : OpStep E o f H fun f' H' => Weak H' base ∧ DL E ops Z base k fuel (listed.setIfInBounds i true) f' H')
    (h' : OpStep E o' f H fun f' H' => Weak H' base ∧ DL E ops Z base k fuel (listed.setIfInBounds j true) f' H') : DL E ops Z base k (fuel + 1) listed f H := by
  intro a w ha hst
  refine ⟨fun h0 => absurd (hr.symm.trans h0) (by simp), fun q hq => ?_⟩
  rw [hr] at hq
  simp only [List.mem_cons, List.not_mem_nil, or_false] at hq
  rcases hq with rfl | rfl
  · unfold wpOp
    simp only [hi]
    rw [wantedF_eq ha, hw, if_pos rfl]
    exact .inl (h a w ha hst _ _ fun f' H' a' w' h1 h2 h3 => ⟨fun _ _ => h3.1 _ _ _ h2, h3.2 a' w' h1 h2⟩)
  · unfold wpOp
    simp only [hj]
    rw [wantedF_eq ha, hw', if_pos rfl]
    exact .inl (h' a w ha hst _ _ fun f' H' a' w' h1 h2 h3 => ⟨fun _ _ => h3.1 _ _ _ h2, h3.2 a' w' h1 h2⟩)


theorem Out.cells2 {E : Env} {fn : Func} {f : Fr} {H : List Res} {t u : Tmp} {ty uy : TypeId} {b o b' o' : Nat} {cs ds : List Value} (h : fn.results = #[.cell t ty, .cell u uy]) (ht : aggOf E.P ty = some cs.length) (hp : f t = .pointer (some ⟨b, o, .none⟩)) (hc : Cells E H b o cs) (hu : aggOf E.P uy = some ds.length) (hq : f u = .pointer (some ⟨b', o', .none⟩)) (hd : Cells E H b' o' ds) : Out E fn f H (.tuple #[.agg cs.toArray, .agg ds.toArray]) := by
  intro a w ha hs
  have h1 := run_results_cell (P := E.P) hp ht (hc w hs)
  have h2 := run_results_cell (P := E.P) hq hu (hd w hs)
  simp only [Sem.run_bind] at h1 h2
  unfold results
  rw [h]
  simp only [List.mapM_toArray, List.mapM_cons, List.mapM_nil, Sem.run_bind, Sem.run_map, Sem.run_pure, ha.at_, h1, h2, Result.andThen_ok]
  rfl

end Go.Proofs.Ytoiaibgcjfgbcaa
