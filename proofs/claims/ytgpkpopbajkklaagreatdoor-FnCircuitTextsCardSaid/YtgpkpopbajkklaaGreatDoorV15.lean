/- Walks: drawn texts and circuits. -/
import Derived.Test.YtgpkpopbajkklaaGreatDoorV14
import Derived.Test.YtgpkpopbajkklaaGreatDoorProg
import Derived.Test.YtgpkpopbajkklaaGreatDoorV12
import Derived.Test.YtgpkpopbajkklaaGreatDoorV2
import Derived.Deep.Slices
import Derived.ChangeShapes
import Derived.WideShapes
import Derived.ChangeSame
import Derived.ChangeArms
import Derived.Lib.SmallJoins
import Derived.Deep.Fields
import Derived.DataReads
set_option linter.unusedSimpArgs false
set_option linter.unusedVariables false
namespace Go.Proofs.YtgpkpopbajkklaaGreatDoor
open Go Go.RowKit
namespace TzjT
theorem Tagg_24 : aggOf Tryz.prog 24 = some 2 := by kernel_rfl
theorem Tcall_34 : callable Tryz.prog 34 = true := by kernel_rfl
theorem Tcall_42 : callable Tryz.prog 42 = true := by kernel_rfl
theorem Tcall_46 : callable Tryz.prog 46 = true := by kernel_rfl
theorem Tcall_61 : callable Tryz.prog 61 = true := by kernel_rfl
theorem Tcall_71 : callable Tryz.prog 71 = true := by kernel_rfl
theorem Tcall_72 : callable Tryz.prog 72 = true := by kernel_rfl
theorem Tcall_73 : callable Tryz.prog 73 = true := by kernel_rfl
theorem Tcall_74 : callable Tryz.prog 74 = true := by kernel_rfl
theorem Tcall_75 : callable Tryz.prog 75 = true := by kernel_rfl
theorem Tone_9 : oneOf Tryz.prog 9 = true := by kernel_rfl
theorem Tsize_24 : (Tryz.prog.info? 24).map (·.size) = some 2 := by kernel_rfl
theorem Tsl_40 : sliceOf Tryz.prog 40 = some (9, 1, 16, [sv ([])]) := by kernel_rfl
theorem Tzero_24 : zeroOf Tryz.prog 24 = some [.int .i64 0, .slice none 0 0] := by kernel_rfl
end TzjT
open TzjT
set_option maxHeartbeats 4000000 in
set_option maxRecDepth 20000 in
theorem circuitText_spec {bc n : Nat} {vc : Value} {cs : List Int} {s : Nat × Int} {w : World} (hat : s.1 < 2305843009212000000) (hc : Cur w bc vc n cs) (hst : St (Of [.blk bc 73 [vc, .int .i64 (((s.1 : Nat) : Int)), .int .u64 (s.2)]]) w w [.blk bc 73 [vc, .int .i64 (((s.1 : Nat) : Int)), .int .u64 (s.2)]]) : Calls Tryz.prog 46 #[.pointer (some ⟨bc, 0, none⟩)] w (Post (Of [.blk bc 73 [vc, .int .i64 (((s.1 : Nat) : Int)), .int .u64 (s.2)]]) w fun v H => ∃ (x : Bs) (s1 : Nat × Int), (s1.1 ≤ s.1 + 100000 ∧ x.length ≤ 100000) ∧ v = sv x ∧ H = [.blk bc 73 [vc, .int .i64 (((s1.1 : Nat) : Int)), .int .u64 (s1.2)]]) := by
 refine enter (n := 123) (args := [.pointer (some ⟨bc, 0, none⟩)]) Tryz.func46 rfl rfl (hst) ?_
 refine .sr ?_
 refine .w (sv ([])) ?_
 refine .dsr ?_
 refine .m ?_
 refine .step rfl (.callM (H1 := [.blk bc 73 [vc, .int .i64 (((s.1 : Nat) : Int)), .int .u64 (s.2)]]) (H2 := []) (vs := [.pointer (some ⟨bc, 0, none⟩), .int .i64 3]) (caps := []) Tcall_71 rfl rfl (Weak.refl _) (fun w hs => pick_ex (by omega) (hc.go hs) (hs.sub (List.sublist_append_left _ _)).self) ?_)
 rintro _ _ ⟨x1, s1, hx1, hs1, rfl, rfl⟩
 show Run _ _ (putF _ _ _ (.int .i64 x1)) [.blk bc 73 [vc, .int .i64 (((s1.1 : Nat) : Int)), .int .u64 (s1.2)]]
 refine .u (.int .i64 (2 + x1)) (.add rfl rfl rfl (by omega) (by omega)) ?_
 refine .m ?_
 refine .done ?_
 obtain ⟨N0, hN0⟩ : ∃ N0 : Nat, 2 + x1 = ((N0 : Nat) : Int) := ⟨(2 + x1).toNat, by omega⟩
 rw [hN0]
 have hN : 2 ≤ N0 ∧ N0 ≤ 5 := by omega
 have hwq : wQs.length = 7 := rfl
 have hwr : wRs.length = 7 := rfl
 refine .sr ?_
 refine .m ?_
 have hndN0 := nd_len N0
 refine .c (sv (nd N0)) [.int .i64 (((N0 : Nat) : Int))] Tcall_42 (fun w hs => l1Num_spec (by omega) _) ?_
 refine .u (sv (wQs ++ (nd N0))) (.addS rfl rfl (by first | omega | (have hnm1 := nmS_len mm; simp only [List.length_append, List.length_cons, List.length_nil]; omega) | (simp only [List.length_append, List.length_cons, List.length_nil]; omega))) ?_
 refine .u (sv ((wQs ++ (nd N0)) ++ ([10]))) (.addS rfl rfl (by first | omega | (have hnm1 := nmS_len mm; simp only [List.length_append, List.length_cons, List.length_nil]; omega) | (simp only [List.length_append, List.length_cons, List.length_nil]; omega))) ?_
 refine .w (sv ((wQs ++ (nd N0)) ++ ([10]))) ?_
 refine .dsr ?_
 refine .step rfl (.buildSlice (us := [sv ([102]), sv ([103])]) Tsl_40 (by decide) (by decide) ⟨rfl, [sv ([102])], _, rfl, rfl, rfl, ⟨rfl, [sv ([103])], _, rfl, rfl, rfl, rfl⟩⟩ rfl fun b1 => ?_)
 refine .m ?_
 refine .done ?_
 refine Run.weak (H' := [.own (.slice (some ⟨b1, 0, none⟩) 2 2) 9 1 2 (strs nmS), .blk bc 73 [vc, .int .i64 (((s1.1 : Nat) : Int)), .int .u64 (s1.2)]]) (Some'.weak (.takeEq (by rfl) (.take (.nil _)))) ?_ ⟨_, _, rfl, fun _ => nofun, fun _ => nofun⟩
 refine .sr ?_
 refine .m ?_
 refine .done ?_
 refine .seq ?_
 refine .block ?_
 refine Run.loop (ι := Nat × Bs × (Nat × Int)) [4, 6, 16, 17, 18, 19, 20, 21, 22, 23, 24, 25, 26, 27, 28, 29, 30, 31, 32, 33, 34, 35, 36, 37, 38, 39, 40, 41, 42, 43, 44, 45, 46, 47, 48, 49] (fun ⟨mm, out, sc⟩ => [(4, sv out), (6, .int .i64 (((mm : Nat) : Int)))]) (fun ⟨mm, out, sc⟩ => [.own (.slice (some ⟨b1, 0, none⟩) 2 2) 9 1 2 (strs nmS), .blk bc 73 [vc, .int .i64 (((sc.1 : Nat) : Int)), .int .u64 (sc.2)]]) (fun ⟨mm, out, sc⟩ => mm ≤ 2 ∧ out.length ≤ 20 + 200 * mm ∧ sc.1 ≤ s.1 + 10 + 100 * mm) (fun ⟨mm, out, sc⟩ => 2 - mm) (0, (wQs ++ (nd N0)) ++ ([10]), s1) ?_ ?_ ?_ ?_
 ·exact ⟨by omega, by (simp only [List.length_append, List.length_cons, List.length_nil]; omega), by omega⟩
 ·exact ⟨rfl, rfl, trivial⟩
 ·exact ((Weak.refl _).trans (Some'.weak (.take (.takeEq (by first | rfl | simp) (.nil _)))))
 rintro ⟨mm, out, sc⟩ fr hinv
 show Run _ _ (over _ _ [(4, sv out), (6, .int .i64 (((mm : Nat) : Int)))] fr) [.own (.slice (some ⟨b1, 0, none⟩) 2 2) 9 1 2 (strs nmS), .blk bc 73 [vc, .int .i64 (((sc.1 : Nat) : Int)), .int .u64 (sc.2)]]
 try dsimp only at hinv
 obtain ⟨hm2, hol, hsl⟩ := hinv
 refine .seq ?_
 refine .seq ?_
 refine Run.cut (ι := Bool × (Nat × Int)) [16, 17, 18, 19, 20, 21] (fun ⟨bb, sx⟩ => [(21, .bool bb)]) (fun ⟨bb, sx⟩ => [.own (.slice (some ⟨b1, 0, none⟩) 2 2) 9 1 2 (strs nmS), .blk bc 73 [vc, .int .i64 (((sx.1 : Nat) : Int)), .int .u64 (sx.2)]]) (fun ⟨bb, sx⟩ => (bb = true → mm < 2) ∧ sx.1 ≤ sc.1 + 2) ?_ ?_
 ·refine .region ?_
  refine .m ?_
  refine .w (.bool (decide ((((mm : Nat) : Int)) < 2))) ?_
  rcases Bool.eq_false_or_eq_true (decide ((((mm : Nat) : Int)) < 2)) with h18 | h18
  ·refine .mb h18 ?_
   have p18 := h18; try simp only [bs] at p18
   refine .m ?_
   refine .step rfl (.callM (H1 := [.blk bc 73 [vc, .int .i64 (((sc.1 : Nat) : Int)), .int .u64 (sc.2)]]) (H2 := [.own (.slice (some ⟨b1, 0, none⟩) 2 2) 9 1 2 (strs nmS)]) (vs := [.pointer (some ⟨bc, 0, none⟩), .int .i64 2]) (caps := []) Tcall_72 rfl rfl (Weak.selF [1]) (fun w hs => one_ex (by omega) (hc.go hs) (hs.sub (List.sublist_append_left _ _)).self) ?_)
   rintro _ _ ⟨x2, s2, hs2, rfl, rfl⟩
   show Run _ _ (putF _ _ _ (.bool x2)) [.blk bc 73 [vc, .int .i64 (((s2.1 : Nat) : Int)), .int .u64 (s2.2)], .own (.slice (some ⟨b1, 0, none⟩) 2 2) 9 1 2 (strs nmS)]
   refine .w (.bool x2) ?_
   refine .done ?_
   refine .goal ⟨(by repeat (first | exact Same.refl _ _ | refine Same.put rfl ?_ | refine Same.over rfl rfl ?_)), (x2, s2), ?_, ?_, ?_⟩
   ·exact ⟨fun h => (by first | omega | (cases h)), by omega⟩
   ·exact ⟨(by first | rfl | (congr 1; omega) | simp [*]), trivial⟩
   ·exact ((Weak.selF [1, 0]).trans (Some'.weak (.takeEq (by first | rfl | simp) (.takeEq (by first | rfl | simp) (.nil _)))))
  refine .mb h18 ?_
  have p18 := h18; try simp only [bs] at p18
  iterate 2 refine .pass rfl ?_
  refine .w (.bool false) ?_
  refine .done ?_
  refine .goal ⟨(by repeat (first | exact Same.refl _ _ | refine Same.put rfl ?_ | refine Same.over rfl rfl ?_)), (false, sc), ?_, ?_, ?_⟩
  ·exact ⟨fun h => (by first | omega | (cases h)), by omega⟩
  ·exact ⟨(by first | rfl | (congr 1; omega) | simp [*]), trivial⟩
  ·exact ((Weak.refl _).trans (Some'.weak (.takeEq (by first | rfl | simp) (.takeEq (by first | rfl | simp) (.nil _)))))
 rintro ⟨bb, sx⟩ fr hcut
 show Run _ _ (over _ _ [(21, .bool bb)] fr) [.own (.slice (some ⟨b1, 0, none⟩) 2 2) 9 1 2 (strs nmS), .blk bc 73 [vc, .int .i64 (((sx.1 : Nat) : Int)), .int .u64 (sx.2)]]
 obtain ⟨hbb, hsx⟩ := hcut
 refine .cond (b := bb) rfl (fun h21 => ?_) (fun h21 => ?_)
 ·have p21 := h21; try simp only [bs] at p21
  have hm1 := hbb h21
  refine .skip ?_
  refine .block ?_
  refine .seq ?_
  refine .heldB (base := [.own (.slice (some ⟨b1, 0, none⟩) 2 2) 9 1 2 (strs nmS)]) (by kernel_rfl) ?_
  refine DW.t 0 rfl (Some'.weak (.take (.nil _))) (sv out) (.pure rfl) ?_
  refine DW.m 1 rfl (Some'.weak (.take (.nil _))) ?_
  refine DW.m 2 rfl (Some'.weak (.take (.nil _))) ?_
  refine DW.t 3 rfl (Some'.weak (.take (.nil _))) (.pointer (some ⟨b1, mm, none⟩)) (.ix mm Tsl_40) ?_
  refine DW.t 4 rfl (Some'.weak (.take (.nil _))) (sv (stx nmS mm)) (.load1 Tone_9 rfl (Cells.own0 (.head _) (preS (by first | omega | (show _ < 2; omega))))) ?_
  refine DW.t 5 rfl (Some'.weak (.take (.nil _))) (sv (([100, 101, 102, 32]) ++ (stx nmS mm))) (.addS rfl rfl (by first | omega | (have hnm1 := nmS_len mm; simp only [List.length_append, List.length_cons, List.length_nil]; omega) | (simp only [List.length_append, List.length_cons, List.length_nil]; omega))) ?_
  refine DW.t 6 rfl (Some'.weak (.take (.nil _))) (sv ((([100, 101, 102, 32]) ++ (stx nmS mm)) ++ ([32, 50, 32, 123, 10]))) (.addS rfl rfl (by first | omega | (have hnm1 := nmS_len mm; simp only [List.length_append, List.length_cons, List.length_nil]; omega) | (simp only [List.length_append, List.length_cons, List.length_nil]; omega))) ?_
  refine DW.m 7 rfl (Some'.weak (.take (.nil _))) ?_
  refine DW.step (i := 8) (by kernel_rfl) rfl rfl (OpStep.callM (H1 := [.blk bc 73 [vc, .int .i64 (((sx.1 : Nat) : Int)), .int .u64 (sx.2)]]) (H2 := [.own (.slice (some ⟨b1, 0, none⟩) 2 2) 9 1 2 (strs nmS)]) (vs := [.pointer (some ⟨bc, 0, none⟩), .int .i64 2]) (caps := []) Tcall_73 rfl rfl (Weak.selF [1]) (fun w hs => lineOf_spec (N := 2) (by decide) (by omega) (hc.go hs) (hs.sub (List.sublist_append_left _ _)).self) ?_)
  rintro _ _ ⟨y1, s3, ⟨hs3, hy1⟩, rfl, rfl⟩
  refine ⟨(Some'.weak (.skip (.take (.nil _)))), ?_⟩
  refine DW.t 9 rfl (Some'.weak (.skip (.take (.nil _)))) (sv (((([100, 101, 102, 32]) ++ (stx nmS mm)) ++ ([32, 50, 32, 123, 10])) ++ y1)) (.addS rfl rfl (by first | omega | (have hnm1 := nmS_len mm; simp only [List.length_append, List.length_cons, List.length_nil]; omega) | (simp only [List.length_append, List.length_cons, List.length_nil]; omega))) ?_
  refine DW.t 10 rfl (Some'.weak (.skip (.take (.nil _)))) (sv (out ++ (((([100, 101, 102, 32]) ++ (stx nmS mm)) ++ ([32, 50, 32, 123, 10])) ++ y1))) (.addS rfl rfl (by first | omega | (have hnm1 := nmS_len mm; simp only [List.length_append, List.length_cons, List.length_nil]; omega) | (simp only [List.length_append, List.length_cons, List.length_nil]; omega))) ?_
  refine DW.t 11 rfl (Some'.weak (.skip (.take (.nil _)))) (sv (out ++ (((([100, 101, 102, 32]) ++ (stx nmS mm)) ++ ([32, 50, 32, 123, 10])) ++ y1))) (.pure rfl) ?_
  refine DW.done (by kernel_rfl) ?_
  refine .seq ?_
  refine .seq ?_
  refine Run.cut (ι := Bool × (Nat × Int)) [33, 34, 35, 36, 37, 38] (fun ⟨bq, sy⟩ => [(38, .bool bq)]) (fun ⟨bq, sy⟩ => [.own (.slice (some ⟨b1, 0, none⟩) 2 2) 9 1 2 (strs nmS), .blk bc 73 [vc, .int .i64 (((sy.1 : Nat) : Int)), .int .u64 (sy.2)]]) (fun ⟨bq, sy⟩ => sy.1 ≤ (s3).1 + 2) ?_ ?_
  ·refine .region ?_
   refine .m ?_
   refine .w (.bool (decide ((((mm : Nat) : Int)) > 0))) ?_
   rcases Bool.eq_false_or_eq_true (decide ((((mm : Nat) : Int)) > 0)) with h35 | h35
   ·refine .mb h35 ?_
    have p35 := h35; try simp only [bs] at p35
    refine .m ?_
    refine .step rfl (.callM (H1 := [.blk bc 73 [vc, .int .i64 (((s3.1 : Nat) : Int)), .int .u64 (s3.2)]]) (H2 := [.own (.slice (some ⟨b1, 0, none⟩) 2 2) 9 1 2 (strs nmS)]) (vs := [.pointer (some ⟨bc, 0, none⟩), .int .i64 2]) (caps := []) Tcall_72 rfl rfl (Weak.refl _) (fun w hs => one_ex (by omega) (hc.go hs) (hs.sub (List.sublist_append_left _ _)).self) ?_)
    rintro _ _ ⟨x3, s4, hs4, rfl, rfl⟩
    show Run _ _ (putF _ _ _ (.bool x3)) [.blk bc 73 [vc, .int .i64 (((s4.1 : Nat) : Int)), .int .u64 (s4.2)], .own (.slice (some ⟨b1, 0, none⟩) 2 2) 9 1 2 (strs nmS)]
    refine .w (.bool x3) ?_
    refine .done ?_
    refine .goal ⟨(by repeat (first | exact Same.refl _ _ | refine Same.put rfl ?_ | refine Same.over rfl rfl ?_)), (x3, s4), ?_, ?_, ?_⟩
    ·dsimp only; omega
    ·exact ⟨(by first | rfl | (congr 1; omega) | simp [*]), trivial⟩
    ·exact ((Weak.selF [1, 0]).trans (Some'.weak (.takeEq (by first | rfl | simp) (.takeEq (by first | rfl | simp) (.nil _)))))
   refine .mb h35 ?_
   have p35 := h35; try simp only [bs] at p35
   iterate 2 refine .pass rfl ?_
   refine .w (.bool false) ?_
   refine .done ?_
   refine .goal ⟨(by repeat (first | exact Same.refl _ _ | refine Same.put rfl ?_ | refine Same.over rfl rfl ?_)), (false, s3), ?_, ?_, ?_⟩
   ·dsimp only; omega
   ·exact ⟨(by first | rfl | (congr 1; omega) | simp [*]), trivial⟩
   ·exact ((Weak.selF [1, 0]).trans (Some'.weak (.takeEq (by first | rfl | simp) (.takeEq (by first | rfl | simp) (.nil _)))))
  rintro ⟨bq, sy⟩ fr hcut
  show Run _ _ (over _ _ [(38, .bool bq)] fr) [.own (.slice (some ⟨b1, 0, none⟩) 2 2) 9 1 2 (strs nmS), .blk bc 73 [vc, .int .i64 (((sy.1 : Nat) : Int)), .int .u64 (sy.2)]]
  have hsy := hcut
  refine .cond (b := bq) rfl (fun h38 => ?_) (fun h38 => ?_)
  ·have p38 := h38; try simp only [bs] at p38
   refine .region ?_
   refine .w (sv (out ++ (((([100, 101, 102, 32]) ++ (stx nmS mm)) ++ ([32, 50, 32, 123, 10])) ++ y1))) ?_
   refine .m ?_
   refine .step rfl (.buildSlice (us := [sv ([48, 32, 49]), sv ([49, 32, 48])]) Tsl_40 (by decide) (by decide) ⟨rfl, [sv ([48, 32, 49])], _, rfl, rfl, rfl, ⟨rfl, [sv ([49, 32, 48])], _, rfl, rfl, rfl, rfl⟩⟩ rfl fun b2 => ?_)
   refine .step rfl (.callM (H1 := [.blk bc 73 [vc, .int .i64 (((sy.1 : Nat) : Int)), .int .u64 (sy.2)], .own (.slice (some ⟨b2, 0, none⟩) 2 2) 9 1 2 (strs [[48, 32, 49], [49, 32, 48]])]) (H2 := [.own (.slice (some ⟨b1, 0, none⟩) 2 2) 9 1 2 (strs nmS)]) (vs := [.pointer (some ⟨bc, 0, none⟩), .slice (some ⟨b2, 0, none⟩) 2 2]) (caps := []) Tcall_74 rfl rfl (Weak.selF [2, 0]) (fun w hs => of_spec (by omega) (by decide) (hc.go hs) (hc.apart hs (.tail _ (.head _))) (hs.sub (List.sublist_append_left _ _)).self) ?_)
   rintro _ _ ⟨i1, s5, hs5, rfl, rfl⟩
   show Run _ _ (putF _ _ _ (sv (stx [[48, 32, 49], [49, 32, 48]] i1))) [.blk bc 73 [vc, .int .i64 (((s5.1 : Nat) : Int)), .int .u64 (s5.2)], .own (.slice (some ⟨b1, 0, none⟩) 2 2) 9 1 2 (strs nmS)]
   have hoxi1 := stx_le (L := [[48, 32, 49], [49, 32, 48]]) (m := 50) (by decide) i1
   refine .u (sv (([99, 97, 108, 108, 32, 102, 32]) ++ (stx [[48, 32, 49], [49, 32, 48]] i1))) (.addS rfl rfl (by first | omega | (have hnm1 := nmS_len mm; simp only [List.length_append, List.length_cons, List.length_nil]; omega) | (simp only [List.length_append, List.length_cons, List.length_nil]; omega))) ?_
   refine .u (sv ((([99, 97, 108, 108, 32, 102, 32]) ++ (stx [[48, 32, 49], [49, 32, 48]] i1)) ++ ([10]))) (.addS rfl rfl (by first | omega | (have hnm1 := nmS_len mm; simp only [List.length_append, List.length_cons, List.length_nil]; omega) | (simp only [List.length_append, List.length_cons, List.length_nil]; omega))) ?_
   refine .u (sv ((out ++ (((([100, 101, 102, 32]) ++ (stx nmS mm)) ++ ([32, 50, 32, 123, 10])) ++ y1)) ++ ((([99, 97, 108, 108, 32, 102, 32]) ++ (stx [[48, 32, 49], [49, 32, 48]] i1)) ++ ([10])))) (.addS rfl rfl (by first | omega | (have hnm1 := nmS_len mm; simp only [List.length_append, List.length_cons, List.length_nil]; omega) | (simp only [List.length_append, List.length_cons, List.length_nil]; omega))) ?_
   refine .w (sv ((out ++ (((([100, 101, 102, 32]) ++ (stx nmS mm)) ++ ([32, 50, 32, 123, 10])) ++ y1)) ++ ((([99, 97, 108, 108, 32, 102, 32]) ++ (stx [[48, 32, 49], [49, 32, 48]] i1)) ++ ([10])))) ?_
   refine .dsr ?_
   refine .w (sv ((out ++ (((([100, 101, 102, 32]) ++ (stx nmS mm)) ++ ([32, 50, 32, 123, 10])) ++ y1)) ++ ((([99, 97, 108, 108, 32, 102, 32]) ++ (stx [[48, 32, 49], [49, 32, 48]] i1)) ++ ([10])))) ?_
   refine .u (sv (((out ++ (((([100, 101, 102, 32]) ++ (stx nmS mm)) ++ ([32, 50, 32, 123, 10])) ++ y1)) ++ ((([99, 97, 108, 108, 32, 102, 32]) ++ (stx [[48, 32, 49], [49, 32, 48]] i1)) ++ ([10]))) ++ ([125, 10]))) (.addS rfl rfl (by first | omega | (have hnm1 := nmS_len mm; simp only [List.length_append, List.length_cons, List.length_nil]; omega) | (simp only [List.length_append, List.length_cons, List.length_nil]; omega))) ?_
   refine .w (sv (((out ++ (((([100, 101, 102, 32]) ++ (stx nmS mm)) ++ ([32, 50, 32, 123, 10])) ++ y1)) ++ ((([99, 97, 108, 108, 32, 102, 32]) ++ (stx [[48, 32, 49], [49, 32, 48]] i1)) ++ ([10]))) ++ ([125, 10]))) ?_
   refine .dr ?_
   refine .m ?_
   refine .u (.int .i64 (((mm + 1 : Nat) : Int))) (.add rfl rfl (by omega) (by omega) (by omega)) ?_
   refine .m ?_
   refine .done ?_
   refine .blockEnd ?_
   refine .goal ⟨(by repeat (first | exact Same.refl _ _ | refine Same.put rfl ?_ | refine Same.over rfl rfl ?_)), (mm + 1, ((out ++ (((([100, 101, 102, 32]) ++ (stx nmS mm)) ++ ([32, 50, 32, 123, 10])) ++ y1)) ++ ((([99, 97, 108, 108, 32, 102, 32]) ++ (stx [[48, 32, 49], [49, 32, 48]] i1)) ++ ([10]))) ++ ([125, 10]), s5), ?_, ?_, ?_, ?_⟩
   ·exact ⟨by omega, by (have hnm1 := nmS_len mm; simp only [List.length_append, List.length_cons, List.length_nil]; omega), by omega⟩
   ·show 2 - (mm + 1) < 2 - mm; omega
   ·exact ⟨(by first | rfl | (congr 1; omega) | simp), (by first | rfl | (congr 1; omega) | simp), trivial⟩
   ·exact ((Weak.selF [1, 0]).trans (Some'.weak (.takeEq (by first | rfl | simp) (.takeEq (by first | rfl | simp) (.nil _)))))
  have p38 := h38; try simp only [bs] at p38
  refine .skip ?_
  refine .sr ?_
  refine .w (sv (out ++ (((([100, 101, 102, 32]) ++ (stx nmS mm)) ++ ([32, 50, 32, 123, 10])) ++ y1))) ?_
  refine .u (sv ((out ++ (((([100, 101, 102, 32]) ++ (stx nmS mm)) ++ ([32, 50, 32, 123, 10])) ++ y1)) ++ ([125, 10]))) (.addS rfl rfl (by first | omega | (have hnm1 := nmS_len mm; simp only [List.length_append, List.length_cons, List.length_nil]; omega) | (simp only [List.length_append, List.length_cons, List.length_nil]; omega))) ?_
  refine .w (sv ((out ++ (((([100, 101, 102, 32]) ++ (stx nmS mm)) ++ ([32, 50, 32, 123, 10])) ++ y1)) ++ ([125, 10]))) ?_
  refine .dr ?_
  refine .m ?_
  refine .u (.int .i64 (((mm + 1 : Nat) : Int))) (.add rfl rfl (by omega) (by omega) (by omega)) ?_
  refine .m ?_
  refine .done ?_
  refine .blockEnd ?_
  refine .goal ⟨(by repeat (first | exact Same.refl _ _ | refine Same.put rfl ?_ | refine Same.over rfl rfl ?_)), (mm + 1, (out ++ (((([100, 101, 102, 32]) ++ (stx nmS mm)) ++ ([32, 50, 32, 123, 10])) ++ y1)) ++ ([125, 10]), sy), ?_, ?_, ?_, ?_⟩
  ·exact ⟨by omega, by (have hnm1 := nmS_len mm; simp only [List.length_append, List.length_cons, List.length_nil]; omega), by omega⟩
  ·show 2 - (mm + 1) < 2 - mm; omega
  ·exact ⟨(by first | rfl | (congr 1; omega) | simp), (by first | rfl | (congr 1; omega) | simp), trivial⟩
  ·exact ((Weak.refl _).trans (Some'.weak (.takeEq (by first | rfl | simp) (.takeEq (by first | rfl | simp) (.nil _)))))
 have p21 := h21; try simp only [bs] at p21
 refine .exit rfl ?_
 refine .seq ?_
 refine .sr ?_
 refine .m ?_
 refine .step rfl (.callM (H1 := [.blk bc 73 [vc, .int .i64 (((sx.1 : Nat) : Int)), .int .u64 (sx.2)]]) (H2 := [.own (.slice (some ⟨b1, 0, none⟩) 2 2) 9 1 2 (strs nmS)]) (vs := [.pointer (some ⟨bc, 0, none⟩), .int .i64 5]) (caps := []) Tcall_71 rfl rfl (Weak.selF [1]) (fun w hs => pick_ex (by omega) (hc.go hs) (hs.sub (List.sublist_append_left _ _)).self) ?_)
 rintro _ _ ⟨x4, s6, hx4, hs6, rfl, rfl⟩
 show Run _ _ (putF _ _ _ (.int .i64 x4)) [.blk bc 73 [vc, .int .i64 (((s6.1 : Nat) : Int)), .int .u64 (s6.2)], .own (.slice (some ⟨b1, 0, none⟩) 2 2) 9 1 2 (strs nmS)]
 refine .m ?_
 refine .done ?_
 obtain ⟨k0, hk0⟩ : ∃ k0 : Nat, x4 = ((k0 : Nat) : Int) := ⟨(x4).toNat, by omega⟩
 rw [hk0]
 refine .block ?_
 refine Run.loop (ι := Nat × Bs × (Nat × Int)) ([4, 7, 52, 53, 54, 55, 56, 57, 58, 59, 60, 61, 62, 63, 64, 65, 66, 67, 68, 69, 70, 71, 72, 73, 74, 75, 76, 77, 78, 79, 80, 81, 82, 83, 84, 85, 86, 87, 88, 89, 90, 91, 92, 93, 94, 95, 96, 97, 98, 99] ++ [100, 101, 102, 103, 104, 105, 106, 107]) (fun ⟨k, ou2, sd⟩ => [(4, sv ou2), (7, .int .i64 (((k : Nat) : Int)))]) (fun ⟨k, ou2, sd⟩ => [.own (.slice (some ⟨b1, 0, none⟩) 2 2) 9 1 2 (strs nmS), .blk bc 73 [vc, .int .i64 (((sd.1 : Nat) : Int)), .int .u64 (sd.2)]]) (fun ⟨k, ou2, sd⟩ => k ≤ 5 ∧ ou2.length + 500 * k ≤ 4000 ∧ sd.1 + 100 * k ≤ s.1 + 1000) (fun ⟨k, ou2, sd⟩ => k) (k0, out, s6) ?_ ?_ ?_ ?_
 ·exact ⟨by omega, by omega, by omega⟩
 ·exact ⟨rfl, rfl, trivial⟩
 ·exact ((Weak.selF [1, 0]).trans (Some'.weak (.take (.takeEq (by first | rfl | simp) (.nil _)))))
 rintro ⟨k, ou2, sd⟩ fr hinv
 show Run _ _ (over _ _ [(4, sv ou2), (7, .int .i64 (((k : Nat) : Int)))] fr) [.own (.slice (some ⟨b1, 0, none⟩) 2 2) 9 1 2 (strs nmS), .blk bc 73 [vc, .int .i64 (((sd.1 : Nat) : Int)), .int .u64 (sd.2)]]
 try dsimp only at hinv
 obtain ⟨hk5, hol2, hsl2⟩ := hinv
 refine .seq ?_
 refine .sr ?_
 refine .m ?_
 refine .w (.bool (decide ((((k : Nat) : Int)) > 0))) ?_
 refine .done ?_
 refine .cond (b := decide ((((k : Nat) : Int)) > 0)) rfl (fun h53 => ?_) (fun h53 => ?_)
 ·have p53 := h53; try simp only [bs] at p53
  refine .skip ?_
  refine .seq ?_
  refine .block ?_
  refine .block ?_
  refine .seq ?_
  refine Run.cut (ι := Bool × (Nat × Int)) [61, 62, 63, 64, 65, 66, 67] (fun ⟨bd, sz⟩ => [(61, .bool bd)]) (fun ⟨bd, sz⟩ => [.own (.slice (some ⟨b1, 0, none⟩) 2 2) 9 1 2 (strs nmS), .blk bc 73 [vc, .int .i64 (((sz.1 : Nat) : Int)), .int .u64 (sz.2)]]) (fun ⟨bd, sz⟩ => (bd = true → 0 < mm) ∧ sz.1 ≤ sd.1 + 2) ?_ ?_
  ·refine .region ?_
   refine .m ?_
   refine .w (.bool (decide ((((mm : Nat) : Int)) > 0))) ?_
   rcases Bool.eq_false_or_eq_true (decide ((((mm : Nat) : Int)) > 0)) with h64 | h64
   ·refine .mb h64 ?_
    have p64 := h64; try simp only [bs] at p64
    refine .m ?_
    refine .step rfl (.callM (H1 := [.blk bc 73 [vc, .int .i64 (((sd.1 : Nat) : Int)), .int .u64 (sd.2)]]) (H2 := [.own (.slice (some ⟨b1, 0, none⟩) 2 2) 9 1 2 (strs nmS)]) (vs := [.pointer (some ⟨bc, 0, none⟩), .int .i64 3]) (caps := []) Tcall_72 rfl rfl (Weak.selF [1]) (fun w hs => one_ex (by omega) (hc.go hs) (hs.sub (List.sublist_append_left _ _)).self) ?_)
    rintro _ _ ⟨x5, s7, hs7, rfl, rfl⟩
    show Run _ _ (putF _ _ _ (.bool x5)) [.blk bc 73 [vc, .int .i64 (((s7.1 : Nat) : Int)), .int .u64 (s7.2)], .own (.slice (some ⟨b1, 0, none⟩) 2 2) 9 1 2 (strs nmS)]
    refine .w (.bool x5) ?_
    refine .m ?_
    refine .done ?_
    refine .goal ⟨(by repeat (first | exact Same.refl _ _ | refine Same.put rfl ?_ | refine Same.over rfl rfl ?_)), (x5, s7), ?_, ?_, ?_⟩
    ·exact ⟨fun h => (by first | omega | (cases h)), by omega⟩
    ·exact ⟨(by first | rfl | (congr 1; omega) | simp [*]), trivial⟩
    ·exact ((Weak.selF [1, 0]).trans (Some'.weak (.takeEq (by first | rfl | simp) (.takeEq (by first | rfl | simp) (.nil _)))))
   refine .mb h64 ?_
   have p64 := h64; try simp only [bs] at p64
   iterate 2 refine .pass rfl ?_
   refine .w (.bool false) ?_
   refine .m ?_
   refine .done ?_
   refine .goal ⟨(by repeat (first | exact Same.refl _ _ | refine Same.put rfl ?_ | refine Same.over rfl rfl ?_)), (false, sd), ?_, ?_, ?_⟩
   ·exact ⟨fun h => (by first | omega | (cases h)), by omega⟩
   ·exact ⟨(by first | rfl | (congr 1; omega) | simp [*]), trivial⟩
   ·exact ((Weak.refl _).trans (Some'.weak (.takeEq (by first | rfl | simp) (.takeEq (by first | rfl | simp) (.nil _)))))
  rintro ⟨bd, sz⟩ fr hcut
  show Run _ _ (over _ _ [(61, .bool bd)] fr) [.own (.slice (some ⟨b1, 0, none⟩) 2 2) 9 1 2 (strs nmS), .blk bc 73 [vc, .int .i64 (((sz.1 : Nat) : Int)), .int .u64 (sz.2)]]
  obtain ⟨hbd, hsz⟩ := hcut
  refine .cond (b := bd) rfl (fun h61 => ?_) (fun h61 => ?_)
  ·have p61 := h61; try simp only [bs] at p61
   have hm0 := hbd h61
   refine .heldB (base := [.own (.slice (some ⟨b1, 0, none⟩) 2 2) 9 1 2 (strs nmS)]) (by kernel_rfl) ?_
   refine DW.t 0 rfl (Some'.weak (.take (.nil _))) (sv ou2) (.pure rfl) ?_
   refine DW.m 1 rfl (Some'.weak (.take (.nil _))) ?_
   refine DW.m 2 rfl (Some'.weak (.take (.nil _))) ?_
   refine DW.m 3 rfl (Some'.weak (.take (.nil _))) ?_
   refine DW.m 8 rfl (Some'.weak (.take (.nil _))) ?_
   refine DW.two (i := 4) (j := 9) (by kernel_rfl) rfl rfl rfl rfl ?_ ?_
   ·refine OpStep.callM (H1 := [.blk bc 73 [vc, .int .i64 (((sz.1 : Nat) : Int)), .int .u64 (sz.2)]]) (H2 := [.own (.slice (some ⟨b1, 0, none⟩) 2 2) 9 1 2 (strs nmS)]) (vs := [.pointer (some ⟨bc, 0, none⟩), .int .i64 (((mm : Nat) : Int))]) (caps := []) Tcall_71 rfl rfl (Weak.selF [1]) (fun w hs => pick_ex (by omega) (hc.go hs) (hs.sub (List.sublist_append_left _ _)).self) ?_
    rintro _ _ ⟨x6, s8, hx6, hs8, rfl, rfl⟩
    refine ⟨(Some'.weak (.skip (.take (.nil _)))), ?_⟩
    refine DW.t 5 rfl (Some'.weak (.skip (.take (.nil _)))) (.pointer (some ⟨b1, (x6).toNat, none⟩)) (.ix ((x6).toNat) Tsl_40) ?_
    refine DW.t 6 rfl (Some'.weak (.skip (.take (.nil _)))) (sv (stx nmS ((x6).toNat))) (.load1 Tone_9 rfl (Cells.own0 (.head _) (preS (by first | omega | (show _ < 2; omega))))) ?_
    have hnm2 := nmS_len (x6).toNat
    refine DW.t 7 rfl (Some'.weak (.skip (.take (.nil _)))) (sv (([99, 97, 108, 108, 32]) ++ (stx nmS ((x6).toNat)))) (.addS rfl rfl (by first | omega | (have hnm1 := nmS_len mm; simp only [List.length_append, List.length_cons, List.length_nil]; omega) | (simp only [List.length_append, List.length_cons, List.length_nil]; omega))) ?_
    refine DW.step (i := 9) (by kernel_rfl) rfl rfl (OpStep.buildSlice (us := [sv ([32, 48, 32, 49]), sv ([32, 49, 32, 48])]) Tsl_40 (by decide) (by decide) ⟨rfl, [sv ([32, 48, 32, 49])], _, rfl, rfl, rfl, ⟨rfl, [sv ([32, 49, 32, 48])], _, rfl, rfl, rfl, rfl⟩⟩ rfl fun b3 => ?_)
    refine ⟨(Some'.weak (.skip (.skip (.take (.nil _))))), ?_⟩
    refine DW.step (i := 10) (by kernel_rfl) rfl rfl (OpStep.callM (H1 := [.blk bc 73 [vc, .int .i64 (((s8.1 : Nat) : Int)), .int .u64 (s8.2)], .own (.slice (some ⟨b3, 0, none⟩) 2 2) 9 1 2 (strs [[32, 48, 32, 49], [32, 49, 32, 48]])]) (H2 := [.own (.slice (some ⟨b1, 0, none⟩) 2 2) 9 1 2 (strs nmS)]) (vs := [.pointer (some ⟨bc, 0, none⟩), .slice (some ⟨b3, 0, none⟩) 2 2]) (caps := []) Tcall_74 rfl rfl (Weak.selF [1, 0]) (fun w hs => of_spec (by omega) (by decide) (hc.go hs) (hc.apart hs (.tail _ (.head _))) (hs.sub (List.sublist_append_left _ _)).self) ?_)
    rintro _ _ ⟨i2, s9, hs9, rfl, rfl⟩
    have hoxi2 := stx_le (L := [[32, 48, 32, 49], [32, 49, 32, 48]]) (m := 50) (by decide) i2
    refine ⟨(Some'.weak (.skip (.take (.nil _)))), ?_⟩
    refine DW.t 11 rfl (Some'.weak (.skip (.take (.nil _)))) (sv ((([99, 97, 108, 108, 32]) ++ (stx nmS ((x6).toNat))) ++ (stx [[32, 48, 32, 49], [32, 49, 32, 48]] i2))) (.addS rfl rfl (by first | omega | (have hnm1 := nmS_len mm; simp only [List.length_append, List.length_cons, List.length_nil]; omega) | (simp only [List.length_append, List.length_cons, List.length_nil]; omega))) ?_
    refine DW.t 12 rfl (Some'.weak (.skip (.take (.nil _)))) (sv (((([99, 97, 108, 108, 32]) ++ (stx nmS ((x6).toNat))) ++ (stx [[32, 48, 32, 49], [32, 49, 32, 48]] i2)) ++ ([10]))) (.addS rfl rfl (by first | omega | (have hnm1 := nmS_len mm; simp only [List.length_append, List.length_cons, List.length_nil]; omega) | (simp only [List.length_append, List.length_cons, List.length_nil]; omega))) ?_
    refine DW.t 13 rfl (Some'.weak (.skip (.take (.nil _)))) (sv (ou2 ++ (((([99, 97, 108, 108, 32]) ++ (stx nmS ((x6).toNat))) ++ (stx [[32, 48, 32, 49], [32, 49, 32, 48]] i2)) ++ ([10])))) (.addS rfl rfl (by first | omega | (have hnm1 := nmS_len mm; simp only [List.length_append, List.length_cons, List.length_nil]; omega) | (simp only [List.length_append, List.length_cons, List.length_nil]; omega))) ?_
    refine DW.t 14 rfl (Some'.weak (.skip (.take (.nil _)))) (sv (ou2 ++ (((([99, 97, 108, 108, 32]) ++ (stx nmS ((x6).toNat))) ++ (stx [[32, 48, 32, 49], [32, 49, 32, 48]] i2)) ++ ([10])))) (.pure rfl) ?_
    refine DW.done (by kernel_rfl) ?_
    iterate 2 refine .blockEnd ?_
    refine .region ?_
    refine .m ?_
    refine .u (.int .i64 ((((k : Nat) : Int)) - 1)) (.sub rfl rfl rfl (by omega) (by omega)) ?_
    refine .m ?_
    refine .done ?_
    refine .goal ⟨(by repeat (first | exact Same.refl _ _ | refine Same.put rfl ?_ | refine Same.over rfl rfl ?_)), (k - 1, ou2 ++ (((([99, 97, 108, 108, 32]) ++ (stx nmS ((x6).toNat))) ++ (stx [[32, 48, 32, 49], [32, 49, 32, 48]] i2)) ++ ([10])), s9), ?_, ?_, ?_, ?_⟩
    ·exact ⟨by omega, by (have hnm1 := nmS_len (x6).toNat; simp only [List.length_append, List.length_cons, List.length_nil]; omega), by omega⟩
    ·show k - 1 < k; omega
    ·exact ⟨(by first | rfl | (congr 1; omega) | simp), (by show Value.int _ _ = Value.int _ _; congr 1; omega), trivial⟩
    ·exact ((Weak.selF [1, 0]).trans (Some'.weak (.takeEq (by first | rfl | simp) (.takeEq (by first | rfl | simp) (.nil _)))))
   ·refine OpStep.buildSlice (us := [sv ([32, 48, 32, 49]), sv ([32, 49, 32, 48])]) Tsl_40 (by decide) (by decide) ⟨rfl, [sv ([32, 48, 32, 49])], _, rfl, rfl, rfl, ⟨rfl, [sv ([32, 49, 32, 48])], _, rfl, rfl, rfl, rfl⟩⟩ rfl fun b4 => ?_
    refine ⟨(Some'.weak (.skip (.take (.nil _)))), ?_⟩
    refine DW.step (i := 4) (by kernel_rfl) rfl rfl (OpStep.callM (H1 := [.blk bc 73 [vc, .int .i64 (((sz.1 : Nat) : Int)), .int .u64 (sz.2)]]) (H2 := [.own (.slice (some ⟨b4, 0, none⟩) 2 2) 9 1 2 ([sv ([32, 48, 32, 49]), sv ([32, 49, 32, 48])]), .own (.slice (some ⟨b1, 0, none⟩) 2 2) 9 1 2 (strs nmS)]) (vs := [.pointer (some ⟨bc, 0, none⟩), .int .i64 (((mm : Nat) : Int))]) (caps := []) Tcall_71 rfl rfl (Weak.selF [2]) (fun w hs => pick_ex (by omega) (hc.go hs) (hs.sub (List.sublist_append_left _ _)).self) ?_)
    rintro _ _ ⟨x7, s10, hx7, hs10, rfl, rfl⟩
    refine ⟨(Some'.weak (.skip (.skip (.take (.nil _))))), ?_⟩
    refine DW.t 5 rfl (Some'.weak (.skip (.skip (.take (.nil _))))) (.pointer (some ⟨b1, (x7).toNat, none⟩)) (.ix ((x7).toNat) Tsl_40) ?_
    refine DW.t 6 rfl (Some'.weak (.skip (.skip (.take (.nil _))))) (sv (stx nmS ((x7).toNat))) (.load1 Tone_9 rfl (Cells.own0 (.head _) (preS (by first | omega | (show _ < 2; omega))))) ?_
    have hnm2 := nmS_len (x7).toNat
    refine DW.t 7 rfl (Some'.weak (.skip (.skip (.take (.nil _))))) (sv (([99, 97, 108, 108, 32]) ++ (stx nmS ((x7).toNat)))) (.addS rfl rfl (by first | omega | (have hnm1 := nmS_len mm; simp only [List.length_append, List.length_cons, List.length_nil]; omega) | (simp only [List.length_append, List.length_cons, List.length_nil]; omega))) ?_
    refine DW.step (i := 10) (by kernel_rfl) rfl rfl (OpStep.callM (H1 := [.blk bc 73 [vc, .int .i64 (((s10.1 : Nat) : Int)), .int .u64 (s10.2)], .own (.slice (some ⟨b4, 0, none⟩) 2 2) 9 1 2 (strs [[32, 48, 32, 49], [32, 49, 32, 48]])]) (H2 := [.own (.slice (some ⟨b1, 0, none⟩) 2 2) 9 1 2 (strs nmS)]) (vs := [.pointer (some ⟨bc, 0, none⟩), .slice (some ⟨b4, 0, none⟩) 2 2]) (caps := []) Tcall_74 rfl rfl (Weak.refl _) (fun w hs => of_spec (by omega) (by decide) (hc.go hs) (hc.apart hs (.tail _ (.head _))) (hs.sub (List.sublist_append_left _ _)).self) ?_)
    rintro _ _ ⟨i3, s11, hs11, rfl, rfl⟩
    have hoxi3 := stx_le (L := [[32, 48, 32, 49], [32, 49, 32, 48]]) (m := 50) (by decide) i3
    refine ⟨(Some'.weak (.skip (.take (.nil _)))), ?_⟩
    refine DW.t 11 rfl (Some'.weak (.skip (.take (.nil _)))) (sv ((([99, 97, 108, 108, 32]) ++ (stx nmS ((x7).toNat))) ++ (stx [[32, 48, 32, 49], [32, 49, 32, 48]] i3))) (.addS rfl rfl (by first | omega | (have hnm1 := nmS_len mm; simp only [List.length_append, List.length_cons, List.length_nil]; omega) | (simp only [List.length_append, List.length_cons, List.length_nil]; omega))) ?_
    refine DW.t 12 rfl (Some'.weak (.skip (.take (.nil _)))) (sv (((([99, 97, 108, 108, 32]) ++ (stx nmS ((x7).toNat))) ++ (stx [[32, 48, 32, 49], [32, 49, 32, 48]] i3)) ++ ([10]))) (.addS rfl rfl (by first | omega | (have hnm1 := nmS_len mm; simp only [List.length_append, List.length_cons, List.length_nil]; omega) | (simp only [List.length_append, List.length_cons, List.length_nil]; omega))) ?_
    refine DW.t 13 rfl (Some'.weak (.skip (.take (.nil _)))) (sv (ou2 ++ (((([99, 97, 108, 108, 32]) ++ (stx nmS ((x7).toNat))) ++ (stx [[32, 48, 32, 49], [32, 49, 32, 48]] i3)) ++ ([10])))) (.addS rfl rfl (by first | omega | (have hnm1 := nmS_len mm; simp only [List.length_append, List.length_cons, List.length_nil]; omega) | (simp only [List.length_append, List.length_cons, List.length_nil]; omega))) ?_
    refine DW.t 14 rfl (Some'.weak (.skip (.take (.nil _)))) (sv (ou2 ++ (((([99, 97, 108, 108, 32]) ++ (stx nmS ((x7).toNat))) ++ (stx [[32, 48, 32, 49], [32, 49, 32, 48]] i3)) ++ ([10])))) (.pure rfl) ?_
    refine DW.done (by kernel_rfl) ?_
    iterate 2 refine .blockEnd ?_
    refine .region ?_
    refine .m ?_
    refine .u (.int .i64 ((((k : Nat) : Int)) - 1)) (.sub rfl rfl rfl (by omega) (by omega)) ?_
    refine .m ?_
    refine .done ?_
    refine .goal ⟨(by repeat (first | exact Same.refl _ _ | refine Same.put rfl ?_ | refine Same.over rfl rfl ?_)), (k - 1, ou2 ++ (((([99, 97, 108, 108, 32]) ++ (stx nmS ((x7).toNat))) ++ (stx [[32, 48, 32, 49], [32, 49, 32, 48]] i3)) ++ ([10])), s11), ?_, ?_, ?_, ?_⟩
    ·exact ⟨by omega, by (have hnm1 := nmS_len (x7).toNat; simp only [List.length_append, List.length_cons, List.length_nil]; omega), by omega⟩
    ·show k - 1 < k; omega
    ·exact ⟨(by first | rfl | (congr 1; omega) | simp), (by show Value.int _ _ = Value.int _ _; congr 1; omega), trivial⟩
    ·exact ((Weak.selF [1, 0]).trans (Some'.weak (.takeEq (by first | rfl | simp) (.takeEq (by first | rfl | simp) (.nil _)))))
  have p61 := h61; try simp only [bs] at p61
  refine .sr ?_
  refine .m ?_
  refine .step rfl (.callM (H1 := [.blk bc 73 [vc, .int .i64 (((sz.1 : Nat) : Int)), .int .u64 (sz.2)]]) (H2 := [.own (.slice (some ⟨b1, 0, none⟩) 2 2) 9 1 2 (strs nmS)]) (vs := [.pointer (some ⟨bc, 0, none⟩), .int .i64 3]) (caps := []) Tcall_72 rfl rfl (Weak.selF [1]) (fun w hs => one_ex (by omega) (hc.go hs) (hs.sub (List.sublist_append_left _ _)).self) ?_)
  rintro _ _ ⟨x8, s12, hs12, rfl, rfl⟩
  show Run _ _ (putF _ _ _ (.bool x8)) [.blk bc 73 [vc, .int .i64 (((s12.1 : Nat) : Int)), .int .u64 (s12.2)], .own (.slice (some ⟨b1, 0, none⟩) 2 2) 9 1 2 (strs nmS)]
  refine .m ?_
  refine .done ?_
  refine .cond (b := x8) rfl (fun h82 => ?_) (fun h82 => ?_)
  ·have p82 := h82; try simp only [bs] at p82
   refine .sr ?_
   refine .w (sv ou2) ?_
   refine .m ?_
   refine .step rfl (.callM (H1 := [.blk bc 73 [vc, .int .i64 (((s12.1 : Nat) : Int)), .int .u64 (s12.2)]]) (H2 := [.own (.slice (some ⟨b1, 0, none⟩) 2 2) 9 1 2 (strs nmS)]) (vs := [.pointer (some ⟨bc, 0, none⟩), .int .i64 3]) (caps := []) Tcall_71 rfl rfl (Weak.refl _) (fun w hs => pick_ex (by omega) (hc.go hs) (hs.sub (List.sublist_append_left _ _)).self) ?_)
   rintro _ _ ⟨x9, s13, hx9, hs13, rfl, rfl⟩
   show Run _ _ (putF _ _ _ (.int .i64 x9)) [.blk bc 73 [vc, .int .i64 (((s13.1 : Nat) : Int)), .int .u64 (s13.2)], .own (.slice (some ⟨b1, 0, none⟩) 2 2) 9 1 2 (strs nmS)]
   refine .u (.int .i64 (2 + x9)) (.add rfl rfl rfl (by omega) (by omega)) ?_
   have hndx := nd_len (2 + x9).toNat
   refine .c (sv (nd (2 + x9).toNat)) [.int .i64 (2 + x9)] Tcall_42 (fun w hs => l1Num_I (by omega) (by omega) _) ?_
   refine .u (sv (wRs ++ (nd (2 + x9).toNat))) (.addS rfl rfl (by first | omega | (have hnm1 := nmS_len mm; simp only [List.length_append, List.length_cons, List.length_nil]; omega) | (simp only [List.length_append, List.length_cons, List.length_nil]; omega))) ?_
   refine .u (sv ((wRs ++ (nd (2 + x9).toNat)) ++ ([32, 123, 10]))) (.addS rfl rfl (by first | omega | (have hnm1 := nmS_len mm; simp only [List.length_append, List.length_cons, List.length_nil]; omega) | (simp only [List.length_append, List.length_cons, List.length_nil]; omega))) ?_
   iterate 2 refine .m ?_
   refine .step rfl (.callM (H1 := [.blk bc 73 [vc, .int .i64 (((s13.1 : Nat) : Int)), .int .u64 (s13.2)]]) (H2 := [.own (.slice (some ⟨b1, 0, none⟩) 2 2) 9 1 2 (strs nmS)]) (vs := [.pointer (some ⟨bc, 0, none⟩), .int .i64 (((N0 : Nat) : Int))]) (caps := []) Tcall_73 rfl rfl (Weak.refl _) (fun w hs => lineOf_spec hN (by omega) (hc.go hs) (hs.sub (List.sublist_append_left _ _)).self) ?_)
   rintro _ _ ⟨y2, s14, ⟨hs14, hy2⟩, rfl, rfl⟩
   show Run _ _ (putF _ _ _ (sv y2)) [.blk bc 73 [vc, .int .i64 (((s14.1 : Nat) : Int)), .int .u64 (s14.2)], .own (.slice (some ⟨b1, 0, none⟩) 2 2) 9 1 2 (strs nmS)]
   refine .u (sv (((wRs ++ (nd (2 + x9).toNat)) ++ ([32, 123, 10])) ++ y2)) (.addS rfl rfl (by first | omega | (have hnm1 := nmS_len mm; simp only [List.length_append, List.length_cons, List.length_nil]; omega) | (simp only [List.length_append, List.length_cons, List.length_nil]; omega))) ?_
   refine .u (sv (ou2 ++ (((wRs ++ (nd (2 + x9).toNat)) ++ ([32, 123, 10])) ++ y2))) (.addS rfl rfl (by first | omega | (have hnm1 := nmS_len mm; simp only [List.length_append, List.length_cons, List.length_nil]; omega) | (simp only [List.length_append, List.length_cons, List.length_nil]; omega))) ?_
   refine .w (sv (ou2 ++ (((wRs ++ (nd (2 + x9).toNat)) ++ ([32, 123, 10])) ++ y2))) ?_
   refine .done ?_
   refine .seq ?_
   refine .sr ?_
   refine .m ?_
   refine .step rfl (.callM (H1 := [.blk bc 73 [vc, .int .i64 (((s14.1 : Nat) : Int)), .int .u64 (s14.2)]]) (H2 := [.own (.slice (some ⟨b1, 0, none⟩) 2 2) 9 1 2 (strs nmS)]) (vs := [.pointer (some ⟨bc, 0, none⟩), .int .i64 3]) (caps := []) Tcall_72 rfl rfl (Weak.refl _) (fun w hs => one_ex (by omega) (hc.go hs) (hs.sub (List.sublist_append_left _ _)).self) ?_)
   rintro _ _ ⟨x10, s15, hs15, rfl, rfl⟩
   show Run _ _ (putF _ _ _ (.bool x10)) [.blk bc 73 [vc, .int .i64 (((s15.1 : Nat) : Int)), .int .u64 (s15.2)], .own (.slice (some ⟨b1, 0, none⟩) 2 2) 9 1 2 (strs nmS)]
   refine .done ?_
   refine .cond (b := x10) rfl (fun h98 => ?_) (fun h98 => ?_)
   ·have p98 := h98; try simp only [bs] at p98
    refine .region ?_
    refine .w (sv (ou2 ++ (((wRs ++ (nd (2 + x9).toNat)) ++ ([32, 123, 10])) ++ y2))) ?_
    iterate 2 refine .m ?_
    refine .step rfl (.callM (H1 := [.blk bc 73 [vc, .int .i64 (((s15.1 : Nat) : Int)), .int .u64 (s15.2)]]) (H2 := [.own (.slice (some ⟨b1, 0, none⟩) 2 2) 9 1 2 (strs nmS)]) (vs := [.pointer (some ⟨bc, 0, none⟩), .int .i64 (((N0 : Nat) : Int))]) (caps := []) Tcall_73 rfl rfl (Weak.refl _) (fun w hs => lineOf_spec hN (by omega) (hc.go hs) (hs.sub (List.sublist_append_left _ _)).self) ?_)
    rintro _ _ ⟨y3, s16, ⟨hs16, hy3⟩, rfl, rfl⟩
    show Run _ _ (putF _ _ _ (sv y3)) [.blk bc 73 [vc, .int .i64 (((s16.1 : Nat) : Int)), .int .u64 (s16.2)], .own (.slice (some ⟨b1, 0, none⟩) 2 2) 9 1 2 (strs nmS)]
    refine .u (sv (([114, 101, 112, 101, 97, 116, 32, 50, 32, 123, 10]) ++ y3)) (.addS rfl rfl (by first | omega | (have hnm1 := nmS_len mm; simp only [List.length_append, List.length_cons, List.length_nil]; omega) | (simp only [List.length_append, List.length_cons, List.length_nil]; omega))) ?_
    refine .u (sv ((([114, 101, 112, 101, 97, 116, 32, 50, 32, 123, 10]) ++ y3) ++ ([125, 10]))) (.addS rfl rfl (by first | omega | (have hnm1 := nmS_len mm; simp only [List.length_append, List.length_cons, List.length_nil]; omega) | (simp only [List.length_append, List.length_cons, List.length_nil]; omega))) ?_
    refine .u (sv ((ou2 ++ (((wRs ++ (nd (2 + x9).toNat)) ++ ([32, 123, 10])) ++ y2)) ++ ((([114, 101, 112, 101, 97, 116, 32, 50, 32, 123, 10]) ++ y3) ++ ([125, 10])))) (.addS rfl rfl (by first | omega | (have hnm1 := nmS_len mm; simp only [List.length_append, List.length_cons, List.length_nil]; omega) | (simp only [List.length_append, List.length_cons, List.length_nil]; omega))) ?_
    refine .w (sv ((ou2 ++ (((wRs ++ (nd (2 + x9).toNat)) ++ ([32, 123, 10])) ++ y2)) ++ ((([114, 101, 112, 101, 97, 116, 32, 50, 32, 123, 10]) ++ y3) ++ ([125, 10])))) ?_
    refine .dr ?_
    refine .w (sv ((ou2 ++ (((wRs ++ (nd (2 + x9).toNat)) ++ ([32, 123, 10])) ++ y2)) ++ ((([114, 101, 112, 101, 97, 116, 32, 50, 32, 123, 10]) ++ y3) ++ ([125, 10])))) ?_
    refine .u (sv (((ou2 ++ (((wRs ++ (nd (2 + x9).toNat)) ++ ([32, 123, 10])) ++ y2)) ++ ((([114, 101, 112, 101, 97, 116, 32, 50, 32, 123, 10]) ++ y3) ++ ([125, 10]))) ++ ([125, 10]))) (.addS rfl rfl (by first | omega | (have hnm1 := nmS_len mm; simp only [List.length_append, List.length_cons, List.length_nil]; omega) | (simp only [List.length_append, List.length_cons, List.length_nil]; omega))) ?_
    refine .w (sv (((ou2 ++ (((wRs ++ (nd (2 + x9).toNat)) ++ ([32, 123, 10])) ++ y2)) ++ ((([114, 101, 112, 101, 97, 116, 32, 50, 32, 123, 10]) ++ y3) ++ ([125, 10]))) ++ ([125, 10]))) ?_
    refine .done ?_
    iterate 2 refine .blockEnd ?_
    refine .region ?_
    refine .m ?_
    refine .u (.int .i64 ((((k : Nat) : Int)) - 1)) (.sub rfl rfl rfl (by omega) (by omega)) ?_
    refine .m ?_
    refine .done ?_
    refine .goal ⟨(by repeat (first | exact Same.refl _ _ | refine Same.put rfl ?_ | refine Same.over rfl rfl ?_)), (k - 1, ((ou2 ++ (((wRs ++ (nd (2 + x9).toNat)) ++ ([32, 123, 10])) ++ y2)) ++ ((([114, 101, 112, 101, 97, 116, 32, 50, 32, 123, 10]) ++ y3) ++ ([125, 10]))) ++ ([125, 10]), s16), ?_, ?_, ?_, ?_⟩
    ·exact ⟨by omega, by (simp only [List.length_append, List.length_cons, List.length_nil]; omega), by omega⟩
    ·show k - 1 < k; omega
    ·exact ⟨(by first | rfl | (congr 1; omega) | simp), (by show Value.int _ _ = Value.int _ _; congr 1; omega), trivial⟩
    ·exact ((Weak.selF [1, 0]).trans (Some'.weak (.takeEq (by first | rfl | simp) (.takeEq (by first | rfl | simp) (.nil _)))))
   have p98 := h98; try simp only [bs] at p98
   refine .skip ?_
   refine .region ?_
   refine .w (sv (ou2 ++ (((wRs ++ (nd (2 + x9).toNat)) ++ ([32, 123, 10])) ++ y2))) ?_
   refine .u (sv ((ou2 ++ (((wRs ++ (nd (2 + x9).toNat)) ++ ([32, 123, 10])) ++ y2)) ++ ([125, 10]))) (.addS rfl rfl (by first | omega | (have hnm1 := nmS_len mm; simp only [List.length_append, List.length_cons, List.length_nil]; omega) | (simp only [List.length_append, List.length_cons, List.length_nil]; omega))) ?_
   refine .w (sv ((ou2 ++ (((wRs ++ (nd (2 + x9).toNat)) ++ ([32, 123, 10])) ++ y2)) ++ ([125, 10]))) ?_
   refine .done ?_
   iterate 2 refine .blockEnd ?_
   refine .region ?_
   refine .m ?_
   refine .u (.int .i64 ((((k : Nat) : Int)) - 1)) (.sub rfl rfl rfl (by omega) (by omega)) ?_
   refine .m ?_
   refine .done ?_
   refine .goal ⟨(by repeat (first | exact Same.refl _ _ | refine Same.put rfl ?_ | refine Same.over rfl rfl ?_)), (k - 1, (ou2 ++ (((wRs ++ (nd (2 + x9).toNat)) ++ ([32, 123, 10])) ++ y2)) ++ ([125, 10]), s15), ?_, ?_, ?_, ?_⟩
   ·exact ⟨by omega, by (simp only [List.length_append, List.length_cons, List.length_nil]; omega), by omega⟩
   ·show k - 1 < k; omega
   ·exact ⟨(by first | rfl | (congr 1; omega) | simp), (by show Value.int _ _ = Value.int _ _; congr 1; omega), trivial⟩
   ·exact ((Weak.selF [1, 0]).trans (Some'.weak (.takeEq (by first | rfl | simp) (.takeEq (by first | rfl | simp) (.nil _)))))
  have p82 := h82; try simp only [bs] at p82
  refine .region ?_
  refine .w (sv ou2) ?_
  iterate 2 refine .m ?_
  refine .step rfl (.callM (H1 := [.blk bc 73 [vc, .int .i64 (((s12.1 : Nat) : Int)), .int .u64 (s12.2)]]) (H2 := [.own (.slice (some ⟨b1, 0, none⟩) 2 2) 9 1 2 (strs nmS)]) (vs := [.pointer (some ⟨bc, 0, none⟩), .int .i64 (((N0 : Nat) : Int))]) (caps := []) Tcall_73 rfl rfl (Weak.refl _) (fun w hs => lineOf_spec hN (by omega) (hc.go hs) (hs.sub (List.sublist_append_left _ _)).self) ?_)
  rintro _ _ ⟨y4, s17, ⟨hs17, hy4⟩, rfl, rfl⟩
  show Run _ _ (putF _ _ _ (sv y4)) [.blk bc 73 [vc, .int .i64 (((s17.1 : Nat) : Int)), .int .u64 (s17.2)], .own (.slice (some ⟨b1, 0, none⟩) 2 2) 9 1 2 (strs nmS)]
  refine .u (sv (ou2 ++ y4)) (.addS rfl rfl (by first | omega | (have hnm1 := nmS_len mm; simp only [List.length_append, List.length_cons, List.length_nil]; omega) | (simp only [List.length_append, List.length_cons, List.length_nil]; omega))) ?_
  refine .w (sv (ou2 ++ y4)) ?_
  refine .done ?_
  iterate 2 refine .blockEnd ?_
  refine .region ?_
  refine .m ?_
  refine .u (.int .i64 ((((k : Nat) : Int)) - 1)) (.sub rfl rfl rfl (by omega) (by omega)) ?_
  refine .m ?_
  refine .done ?_
  refine .goal ⟨(by repeat (first | exact Same.refl _ _ | refine Same.put rfl ?_ | refine Same.over rfl rfl ?_)), (k - 1, ou2 ++ y4, s17), ?_, ?_, ?_, ?_⟩
  ·exact ⟨by omega, by (simp only [List.length_append, List.length_cons, List.length_nil]; omega), by omega⟩
  ·show k - 1 < k; omega
  ·exact ⟨(by first | rfl | (congr 1; omega) | simp), (by show Value.int _ _ = Value.int _ _; congr 1; omega), trivial⟩
  ·exact ((Weak.selF [1, 0]).trans (Some'.weak (.takeEq (by first | rfl | simp) (.takeEq (by first | rfl | simp) (.nil _)))))
 have p53 := h53; try simp only [bs] at p53
 refine .exit rfl ?_
 refine .seq ?_
 refine .sr ?_
 refine .m ?_
 refine .step rfl (.callM (H1 := [.blk bc 73 [vc, .int .i64 (((sd.1 : Nat) : Int)), .int .u64 (sd.2)]]) (H2 := [.own (.slice (some ⟨b1, 0, none⟩) 2 2) 9 1 2 (strs nmS)]) (vs := [.pointer (some ⟨bc, 0, none⟩), .int .i64 12]) (caps := []) Tcall_71 rfl rfl (Weak.selF [1]) (fun w hs => pick_ex (by omega) (hc.go hs) (hs.sub (List.sublist_append_left _ _)).self) ?_)
 rintro _ _ ⟨x11, s18, hx11, hs18, rfl, rfl⟩
 show Run _ _ (putF _ _ _ (.int .i64 x11)) [.blk bc 73 [vc, .int .i64 (((s18.1 : Nat) : Int)), .int .u64 (s18.2)], .own (.slice (some ⟨b1, 0, none⟩) 2 2) 9 1 2 (strs nmS)]
 refine .done ?_
 refine .block ?_
 refine .sr ?_
 refine .w (.bool (x11 == 0)) ?_
 refine .m ?_
 refine .done ?_
 refine .cond (b := x11 == 0) rfl (fun h110 => ?_) (fun h110 => ?_)
 ·have p110 := h110; try simp only [bs] at p110
  refine .sr ?_
  refine .m ?_
  refine .w (sv ou2) ?_
  refine .step rfl (.callM (H1 := [.blk bc 73 [vc, .int .i64 (((s18.1 : Nat) : Int)), .int .u64 (s18.2)]]) (H2 := [.own (.slice (some ⟨b1, 0, none⟩) 2 2) 9 1 2 (strs nmS)]) (vs := [.pointer (some ⟨bc, 0, none⟩), sv ou2, sv ([32, 48, 49, 57, 72, 84, 123, 125, 102, 103, 113, 10])]) (caps := []) Tcall_75 rfl rfl (Weak.refl _) (fun w hs => spoilt_spec (by decide) (by omega) (by omega) (hc.go hs) (hs.sub (List.sublist_append_left _ _)).self) ?_)
  rintro _ _ ⟨y5, s19, ⟨hs19, hy5⟩, rfl, rfl⟩
  show Run _ _ (putF _ _ _ (sv y5)) [.blk bc 73 [vc, .int .i64 (((s19.1 : Nat) : Int)), .int .u64 (s19.2)], .own (.slice (some ⟨b1, 0, none⟩) 2 2) 9 1 2 (strs nmS)]
  refine .w (sv y5) ?_
  refine .done ?_
  refine .ret ?_
  refine ⟨sv y5, [.blk bc 73 [vc, .int .i64 (((s19.1 : Nat) : Int)), .int .u64 (s19.2)]], Out.one rfl rfl, (Some'.weak (.take (.nil _))), ?_⟩
  exact ⟨_, _, ⟨by omega, by first | omega | (simp only [List.length_append, List.length_cons, List.length_nil]; omega)⟩, rfl, rfl⟩
 have p110 := h110; try simp only [bs] at p110
 refine .sr ?_
 refine .w (.bool (x11 == 1)) ?_
 refine .m ?_
 refine .done ?_
 refine .cond (b := x11 == 1) rfl (fun h115 => ?_) (fun h115 => ?_)
 ·have p115 := h115; try simp only [bs] at p115
  refine .sr ?_
  refine .w (sv ou2) ?_
  refine .m ?_
  refine .step rfl (.buildSlice (us := [sv ([125, 10]), sv ([114, 101, 112, 101, 97, 116, 32, 50, 32, 123, 10]), sv ([99, 97, 108, 108, 32, 104, 32, 48, 32, 49, 10]), sv ([67, 88, 32, 48, 32, 48, 10]), sv ([100, 101, 102, 32, 102, 32, 49, 32, 123, 10, 125, 10]), sv ([72, 32, 57, 10]), sv ([99, 97, 108, 108, 32, 102, 32, 48, 10]), sv ([113, 117, 98, 105, 116, 115, 32, 50, 10]), sv ([84]), sv ([114, 101, 112, 101, 97, 116, 32, 57, 57, 32, 123, 10, 114, 101, 112, 101, 97, 116, 32, 57, 57, 32, 123, 10, 72, 32, 48, 10, 125, 10, 125, 10])]) Tsl_40 (by decide) (by decide) ⟨rfl, [sv ([125, 10])], _, rfl, rfl, rfl, ⟨rfl, [sv ([114, 101, 112, 101, 97, 116, 32, 50, 32, 123, 10])], _, rfl, rfl, rfl, ⟨rfl, [sv ([99, 97, 108, 108, 32, 104, 32, 48, 32, 49, 10])], _, rfl, rfl, rfl, ⟨rfl, [sv ([67, 88, 32, 48, 32, 48, 10])], _, rfl, rfl, rfl, ⟨rfl, [sv ([100, 101, 102, 32, 102, 32, 49, 32, 123, 10, 125, 10])], _, rfl, rfl, rfl, ⟨rfl, [sv ([72, 32, 57, 10])], _, rfl, rfl, rfl, ⟨rfl, [sv ([99, 97, 108, 108, 32, 102, 32, 48, 10])], _, rfl, rfl, rfl, ⟨rfl, [sv ([113, 117, 98, 105, 116, 115, 32, 50, 10])], _, rfl, rfl, rfl, ⟨rfl, [sv ([84])], _, rfl, rfl, rfl, ⟨rfl, [sv ([114, 101, 112, 101, 97, 116, 32, 57, 57, 32, 123, 10, 114, 101, 112, 101, 97, 116, 32, 57, 57, 32, 123, 10, 72, 32, 48, 10, 125, 10, 125, 10])], _, rfl, rfl, rfl, rfl⟩⟩⟩⟩⟩⟩⟩⟩⟩⟩ rfl fun b5 => ?_)
  refine .step rfl (.callM (H1 := [.blk bc 73 [vc, .int .i64 (((s18.1 : Nat) : Int)), .int .u64 (s18.2)], .own (.slice (some ⟨b5, 0, none⟩) 10 10) 9 1 10 (strs [[125, 10], [114, 101, 112, 101, 97, 116, 32, 50, 32, 123, 10], [99, 97, 108, 108, 32, 104, 32, 48, 32, 49, 10], [67, 88, 32, 48, 32, 48, 10], [100, 101, 102, 32, 102, 32, 49, 32, 123, 10, 125, 10], [72, 32, 57, 10], [99, 97, 108, 108, 32, 102, 32, 48, 10], [113, 117, 98, 105, 116, 115, 32, 50, 10], [84], [114, 101, 112, 101, 97, 116, 32, 57, 57, 32, 123, 10, 114, 101, 112, 101, 97, 116, 32, 57, 57, 32, 123, 10, 72, 32, 48, 10, 125, 10, 125, 10]])]) (H2 := [.own (.slice (some ⟨b1, 0, none⟩) 2 2) 9 1 2 (strs nmS)]) (vs := [.pointer (some ⟨bc, 0, none⟩), .slice (some ⟨b5, 0, none⟩) 10 10]) (caps := []) Tcall_74 rfl rfl (Weak.selF [1, 0]) (fun w hs => of_spec (by omega) (by decide) (hc.go hs) (hc.apart hs (.tail _ (.head _))) (hs.sub (List.sublist_append_left _ _)).self) ?_)
  rintro _ _ ⟨i4, s20, hs20, rfl, rfl⟩
  show Run _ _ (putF _ _ _ (sv (stx [[125, 10], [114, 101, 112, 101, 97, 116, 32, 50, 32, 123, 10], [99, 97, 108, 108, 32, 104, 32, 48, 32, 49, 10], [67, 88, 32, 48, 32, 48, 10], [100, 101, 102, 32, 102, 32, 49, 32, 123, 10, 125, 10], [72, 32, 57, 10], [99, 97, 108, 108, 32, 102, 32, 48, 10], [113, 117, 98, 105, 116, 115, 32, 50, 10], [84], [114, 101, 112, 101, 97, 116, 32, 57, 57, 32, 123, 10, 114, 101, 112, 101, 97, 116, 32, 57, 57, 32, 123, 10, 72, 32, 48, 10, 125, 10, 125, 10]] i4))) [.blk bc 73 [vc, .int .i64 (((s20.1 : Nat) : Int)), .int .u64 (s20.2)], .own (.slice (some ⟨b1, 0, none⟩) 2 2) 9 1 2 (strs nmS)]
  have hoxi4 := stx_le (L := [[125, 10], [114, 101, 112, 101, 97, 116, 32, 50, 32, 123, 10], [99, 97, 108, 108, 32, 104, 32, 48, 32, 49, 10], [67, 88, 32, 48, 32, 48, 10], [100, 101, 102, 32, 102, 32, 49, 32, 123, 10, 125, 10], [72, 32, 57, 10], [99, 97, 108, 108, 32, 102, 32, 48, 10], [113, 117, 98, 105, 116, 115, 32, 50, 10], [84], [114, 101, 112, 101, 97, 116, 32, 57, 57, 32, 123, 10, 114, 101, 112, 101, 97, 116, 32, 57, 57, 32, 123, 10, 72, 32, 48, 10, 125, 10, 125, 10]]) (m := 50) (by decide) i4
  refine .u (sv (ou2 ++ (stx [[125, 10], [114, 101, 112, 101, 97, 116, 32, 50, 32, 123, 10], [99, 97, 108, 108, 32, 104, 32, 48, 32, 49, 10], [67, 88, 32, 48, 32, 48, 10], [100, 101, 102, 32, 102, 32, 49, 32, 123, 10, 125, 10], [72, 32, 57, 10], [99, 97, 108, 108, 32, 102, 32, 48, 10], [113, 117, 98, 105, 116, 115, 32, 50, 10], [84], [114, 101, 112, 101, 97, 116, 32, 57, 57, 32, 123, 10, 114, 101, 112, 101, 97, 116, 32, 57, 57, 32, 123, 10, 72, 32, 48, 10, 125, 10, 125, 10]] i4))) (.addS rfl rfl (by first | omega | (have hnm1 := nmS_len mm; simp only [List.length_append, List.length_cons, List.length_nil]; omega) | (simp only [List.length_append, List.length_cons, List.length_nil]; omega))) ?_
  refine .w (sv (ou2 ++ (stx [[125, 10], [114, 101, 112, 101, 97, 116, 32, 50, 32, 123, 10], [99, 97, 108, 108, 32, 104, 32, 48, 32, 49, 10], [67, 88, 32, 48, 32, 48, 10], [100, 101, 102, 32, 102, 32, 49, 32, 123, 10, 125, 10], [72, 32, 57, 10], [99, 97, 108, 108, 32, 102, 32, 48, 10], [113, 117, 98, 105, 116, 115, 32, 50, 10], [84], [114, 101, 112, 101, 97, 116, 32, 57, 57, 32, 123, 10, 114, 101, 112, 101, 97, 116, 32, 57, 57, 32, 123, 10, 72, 32, 48, 10, 125, 10, 125, 10]] i4))) ?_
  refine .done ?_
  refine .ret ?_
  refine ⟨sv (ou2 ++ (stx [[125, 10], [114, 101, 112, 101, 97, 116, 32, 50, 32, 123, 10], [99, 97, 108, 108, 32, 104, 32, 48, 32, 49, 10], [67, 88, 32, 48, 32, 48, 10], [100, 101, 102, 32, 102, 32, 49, 32, 123, 10, 125, 10], [72, 32, 57, 10], [99, 97, 108, 108, 32, 102, 32, 48, 10], [113, 117, 98, 105, 116, 115, 32, 50, 10], [84], [114, 101, 112, 101, 97, 116, 32, 57, 57, 32, 123, 10, 114, 101, 112, 101, 97, 116, 32, 57, 57, 32, 123, 10, 72, 32, 48, 10, 125, 10, 125, 10]] i4)), [.blk bc 73 [vc, .int .i64 (((s20.1 : Nat) : Int)), .int .u64 (s20.2)]], Out.one rfl rfl, (Some'.weak (.take (.nil _))), ?_⟩
  exact ⟨_, _, ⟨by omega, by first | omega | (simp only [List.length_append, List.length_cons, List.length_nil]; omega)⟩, rfl, rfl⟩
 have p115 := h115; try simp only [bs] at p115
 refine .skip ?_
 refine .blockEnd ?_
 refine .sr ?_
 refine .w (sv ou2) ?_
 refine .w (sv ou2) ?_
 refine .done ?_
 refine .ret ?_
 refine ⟨sv ou2, [.blk bc 73 [vc, .int .i64 (((s18.1 : Nat) : Int)), .int .u64 (s18.2)]], Out.one rfl rfl, (Some'.weak (.take (.nil _))), ?_⟩
 exact ⟨_, _, ⟨by omega, by first | omega | (simp only [List.length_append, List.length_cons, List.length_nil]; omega)⟩, rfl, rfl⟩

set_option maxHeartbeats 1000000 in
set_option maxRecDepth 20000 in
theorem DrawParseCircuit_spec {va : Value} {n : Nat} {cs : List Int} {w : World} (ha : Sl w va 1 n (u8s cs)) (hby : ∀ x ∈ cs, 0 ≤ x ∧ x < 256) : Calls Tryz.prog 20 #[va] w (Post No w fun v H => ∃ x : Bs, x.length ≤ 100000 ∧ v = sv x ∧ H = []) := by
 obtain ⟨Ac, cc, rfl, _, _⟩ := ha.form0
 refine enter (n := 9) (args := [.slice Ac n cc]) Tryz.func20 rfl rfl (St.empty _ _) ?_
 refine .sr ?_
 refine .w (sv ([])) ?_
 refine .dsr ?_
 refine .m ?_
 refine .u (.agg #[.slice Ac n cc, .int .i64 0, .int .u64 0]) (.build (cs := [.slice Ac n cc, .int .i64 0, .int .u64 0]) (by kernel_rfl)) ?_
 refine .step rfl (.box (us := [.slice Ac n cc, .int .i64 0, .int .u64 0]) rfl fun b1 => ?_)
 refine .m ?_
 refine .dsr ?_
 refine .m ?_
 refine .step rfl (.callM (H1 := [.blk b1 73 [.slice Ac n cc, .int .i64 0, .int .u64 0]]) (H2 := []) (vs := [.pointer (some ⟨b1, 0, none⟩)]) (caps := []) Tcall_46 rfl rfl (Weak.refl _) (fun w hs => circuitText_spec (s := (0, 0)) (by decide) (Cur.top ha hby hs (.head _)) (hs.sub (List.sublist_append_left _ _)).self) ?_)
 rintro _ _ ⟨x, s8, ⟨hs8, hx8⟩, rfl, rfl⟩
 show Run _ _ (putF _ _ _ (sv x)) [.blk b1 73 [.slice Ac n cc, .int .i64 (((s8.1 : Nat) : Int)), .int .u64 (s8.2)]]
 refine .w (sv x) ?_
 refine .done ?_
 refine .ret ?_
 refine ⟨sv x, [], Out.one rfl rfl, (Some'.weak (.nil _)), ?_⟩
 exact ⟨_, hx8, rfl, rfl⟩

set_option maxHeartbeats 1000000 in
set_option maxRecDepth 20000 in
theorem DrawIsValidCircuit_spec {va : Value} {n : Nat} {cs : List Int} {w : World} (ha : Sl w va 1 n (u8s cs)) (hby : ∀ x ∈ cs, 0 ≤ x ∧ x < 256) : Calls Tryz.prog 34 #[va] w (Post No w fun v H => ∃ (Q : Int) (u : Value) (g : Nat) (gx : List Int), g ≤ 20 ∧ v = .agg #[.int .i64 Q, u] ∧ H = [.own u 69 3 g (ints gx)]) := by
 obtain ⟨Ac, cc, rfl, _, _⟩ := ha.form0
 refine enter (n := 9) (args := [.slice Ac n cc]) Tryz.func34 rfl rfl (St.empty _ _) ?_
 refine .sr ?_
 refine .step rfl (.alloc (zs := [.int .i64 0, .slice none 0 0]) Tzero_24 fun b1 => ?_)
 refine .dsr ?_
 refine .m ?_
 refine .u (.agg #[.slice Ac n cc, .int .i64 0, .int .u64 0]) (.build (cs := [.slice Ac n cc, .int .i64 0, .int .u64 0]) (by kernel_rfl)) ?_
 refine .step rfl (.box (us := [.slice Ac n cc, .int .i64 0, .int .u64 0]) rfl fun b2 => ?_)
 refine .m ?_
 refine .dsr ?_
 refine .m ?_
 refine .step rfl (.callM (H1 := [.blk b2 73 [.slice Ac n cc, .int .i64 0, .int .u64 0]]) (H2 := [.blk b1 24 [.int .i64 0, .slice none 0 0]]) (vs := [.pointer (some ⟨b2, 0, none⟩)]) (caps := []) Tcall_61 rfl rfl (Weak.refl _) (fun w hs => anyCircuit_spec (s := (0, 0)) (by decide) (Cur.top ha hby hs (.head _)) (hs.sub (List.sublist_append_left _ _)).self) ?_)
 rintro _ _ ⟨Q, u, g, gx, s8, ⟨hg8, hs8⟩, rfl, rfl⟩
 show Run _ _ (putF _ _ _ (.agg #[.int .i64 Q, u])) [.own u 69 3 g (ints gx), .blk b2 73 [.slice Ac n cc, .int .i64 (((s8.1 : Nat) : Int)), .int .u64 (s8.2)], .blk b1 24 [.int .i64 0, .slice none 0 0]]
 refine Run.formOwn (.head _) (fun A_u1 c_u1 hv hcapc_u1 hmaxc_u1 => ?_) (fun _ _ _ => ⟨nofun, nofun, nofun⟩)
 subst hv
 refine .step rfl (.storeAll (us := [.int .i64 Q, .slice A_u1 g c_u1]) Tsize_24 rfl rfl rfl (.there _ (.there _ (.here _))) rfl ?_)
 refine .done ?_
 refine .ret ?_
 refine ⟨.agg #[.int .i64 Q, .slice A_u1 g c_u1], [.own (.slice A_u1 g c_u1) 69 3 g (ints gx)], Out.cell1 rfl Tagg_24 rfl (Cells.blk (.tail _ (.tail _ (.head _))) ⟨rfl, rfl, trivial⟩), (Some'.weak (.take (.nil _))), ?_⟩
 exact ⟨_, _, _, _, by omega, rfl, rfl⟩

set_option maxHeartbeats 1000000 in
set_option maxRecDepth 20000 in
theorem DrawFormatCircuit_spec {va : Value} {n : Nat} {cs : List Int} {w : World} (ha : Sl w va 1 n (u8s cs)) (hby : ∀ x ∈ cs, 0 ≤ x ∧ x < 256) : Calls Tryz.prog 13 #[va] w (Post No w fun v H => ∃ (Q : Int) (u : Value) (g : Nat) (gx : List Int), g ≤ 20 ∧ v = .agg #[.int .i64 Q, u] ∧ H = [.own u 69 3 g (ints gx)]) := by
 refine enter (n := 5) (args := [va]) Tryz.func13 rfl rfl (St.empty _ _) ?_
 refine .sr ?_
 refine .step rfl (.alloc (zs := [.int .i64 0, .slice none 0 0]) Tzero_24 fun b1 => ?_)
 refine .dsr ?_
 refine .w va ?_
 refine .step rfl (.c [va] Tcall_34 (fun w hs => DrawIsValidCircuit_spec (hs.sl ha) hby) ?_)
 rintro _ _ ⟨Q, u, g, gx, hg8, rfl, rfl⟩
 show Run _ _ (putF _ _ _ (.agg #[.int .i64 Q, u])) [.own u 69 3 g (ints gx), .blk b1 24 [.int .i64 0, .slice none 0 0]]
 refine Run.formOwn (.head _) (fun A_u1 c_u1 hv hcapc_u1 hmaxc_u1 => ?_) (fun _ _ _ => ⟨nofun, nofun, nofun⟩)
 subst hv
 refine .step rfl (.storeAll (us := [.int .i64 Q, .slice A_u1 g c_u1]) Tsize_24 rfl rfl rfl (.there _ (.here _)) rfl ?_)
 refine .done ?_
 refine .ret ?_
 refine ⟨.agg #[.int .i64 Q, .slice A_u1 g c_u1], [.own (.slice A_u1 g c_u1) 69 3 g (ints gx)], Out.cell1 rfl Tagg_24 rfl (Cells.blk (.tail _ (.head _)) ⟨rfl, rfl, trivial⟩), (Some'.weak (.take (.nil _))), ?_⟩
 exact ⟨_, _, _, _, by omega, rfl, rfl⟩

end Go.Proofs.YtgpkpopbajkklaaGreatDoor
/- The walk of the law FnCircuitTexts. -/
set_option linter.unusedSimpArgs false
set_option linter.unusedVariables false
namespace Go.Proofs.YtgpkpopbajkklaaGreatDoor
open Go Go.RowKit
namespace L57T
theorem Tagg_24 : aggOf Tryz.prog 24 = some 2 := by kernel_rfl
theorem Tbool_4 : Tryz.prog.underlying 4 = some .bool := by kernel_rfl
theorem Tcall_13 : callable Tryz.prog 13 = true := by kernel_rfl
theorem Tcall_14 : callable Tryz.prog 14 = true := by kernel_rfl
theorem Tcall_15 : callable Tryz.prog 15 = true := by kernel_rfl
theorem Tcall_16 : callable Tryz.prog 16 = true := by kernel_rfl
theorem Tcall_17 : callable Tryz.prog 17 = true := by kernel_rfl
theorem Tcall_18 : callable Tryz.prog 18 = true := by kernel_rfl
theorem Tcall_19 : callable Tryz.prog 19 = true := by kernel_rfl
theorem Tcall_20 : callable Tryz.prog 20 = true := by kernel_rfl
theorem Tcall_21 : callable Tryz.prog 21 = true := by kernel_rfl
theorem Tcall_22 : callable Tryz.prog 22 = true := by kernel_rfl
theorem Tsize_24 : (Tryz.prog.info? 24).map (·.size) = some 2 := by kernel_rfl
theorem Tsl_30 : sliceOf Tryz.prog 30 = some (5, 1, 1, [.int .u8 0]) := by kernel_rfl
theorem Tzero_24 : zeroOf Tryz.prog 24 = some [.int .i64 0, .slice none 0 0] := by kernel_rfl
end L57T
open L57T
theorem OpY.neSS {E : Env} {f : Fr} {H : List Res} {d : Option Tmp} {ty : TypeId} {pos : String} {after : Array Edge} {gd : Option (Nat × Bool)} {t t' : TypeId} {x y : Operand} {l : Bs} (hx : f.eval x = sv l) (hy : f.eval y = sv l) :
    OpY E ⟨d, .binOp .neq t x y t', ty, pos, after, gd⟩ f H (.bool false) := by
  have h := OpY.neS (E := E) (H := H) (d := d) (ty := ty) (pos := pos) (after := after) (gd := gd) (t := t) (t' := t') hx hy
  rwa [show (l != l) = false by simp] at h
theorem fl_of : ∀ (g : Nat) (gx : List Int), gx.length = g * 3 → ∃ L : List G3, fl L = gx ∧ L.length = g
  | 0, gx, h => ⟨[], by rw [List.length_eq_zero_iff.1 (by omega : gx.length = 0)]; rfl, rfl⟩
  | g + 1, gx, h => by
    match gx, h with
    | a :: b :: c :: r, h =>
      obtain ⟨L, h1, h2⟩ := fl_of g r (by simp at h; omega)
      exact ⟨(a, b, c) :: L, by rw [← h1]; rfl, by simp [h2]⟩
    | [], h => simp at h
    | [a], h => simp at h; omega
    | [a, b], h => simp at h; omega
theorem DrawFormat_fl {va : Value} {n : Nat} {cs : List Int} {w : World} (ha : Sl w va 1 n (u8s cs)) (hby : ∀ x ∈ cs, 0 ≤ x ∧ x < 256) : Calls Tryz.prog 13 #[va] w (Post No w fun v H => ∃ (Q : Int) (u : Value) (L : List G3), L.length ≤ 20 ∧ v = .agg #[.int .i64 Q, u] ∧ H = [.own u 69 3 L.length (ints (fl L))]) := by
  refine (DrawFormatCircuit_spec ha hby).mono ?_
  rintro e w' ⟨v, H, h1, hst, Q, u, g, gx, hg, rfl, rfl⟩
  obtain ⟨L, rfl, rfl⟩ := fl_of g gx (hst.slOwn (.head _)).len
  exact ⟨_, _, h1, hst, Q, u, L, hg, rfl, rfl⟩
theorem fmtO_len (N : Int) (L : List G3) (n : Nat) : (fmtO N L n).length ≤ 10 + L.length * 11 := by
  unfold fmtO
  split
  · have h1 := hdT_len N
    have h2 := gls_len L
    rw [cfm, List.length_append]; omega
  · simp
theorem fdO_len (N : Int) (L : List G3) (n : Nat) : (fdO N L n).length ≤ 8000 := by
  unfold fdO
  split
  · rename_i h
    rw [fdB, Bool.and_eq_true, decide_eq_true_eq] at h
    omega
  · simp
theorem eqGs_refl (xs : List Int) (n : Nat) : eqGs xs n xs n = true := eqGs_eq rfl fun i _ => decide_eq_true rfl
theorem same_circ (N : Int) (L : List G3) : ((N == N) && eqGs (fl L) L.length (fl L) L.length) = true := by rw [eqGs_refl]; simp
theorem Parse_back {s : Bs} {N : Int} {L : List G3} {w : World} (hr : rt s = ((0, 0), N, L, [])) (hg : Gl w) (hl : s.length ≤ 9223372036854775807) : Calls Tryz.prog 18 #[sv s] w (Post No w fun v H => ∃ vg, v = .tuple #[.agg #[.int .i64 N, vg], .bool true] ∧ H = [.own vg 69 3 L.length (ints (fl L))]) := by
  have h := ParseCircuit_spec hg hl
  rw [hr] at h
  exact h
theorem rt_fmt {N : Int} {L : List G3} (h : circOk N (fl L) L.length = true) : rt (fmtO N L L.length) = ((0, 0), N, L, []) := by
  rw [fmt_yes h]; exact rt_cfm rfl h
theorem fmt_code (N : Int) (L : List G3) : decide ((rt (fmtO N L L.length)).1.1 = 0) = circOk N (fl L) L.length := by
  cases h : circOk N (fl L) L.length with
  | true => rw [rt_fmt h]; rfl
  | false => rw [fmt_no h, rt_nil]; rfl
theorem back_circ {s : Bs} {N : Int} {L : List G3} (hr : rt s = ((0, 0), N, L, [])) : ((N == (rt s).2.1) && eqGs (fl L) L.length (fl (rt s).2.2.1) (rt s).2.2.1.length) = true := by
  rw [hr]; exact same_circ N L

set_option maxHeartbeats 4000000 in
set_option maxRecDepth 20000 in
theorem law_spec {va vb : Value} {n m0 : Nat} {cs ds : List Int} {w : World} (hg : Gl w) (ha : Sl w va 1 n (u8s cs)) (hby : ∀ x ∈ cs, 0 ≤ x ∧ x < 256) (hb : Sl w vb 1 m0 (u8s ds)) (hbz : ∀ x ∈ ds, 0 ≤ x ∧ x < 256) : Calls Tryz.prog 4 #[va, vb] w (Post No w fun v _ => v = .bool true) := by
 obtain ⟨Ac, cc, rfl, hn0, _⟩ := ha.form0
 obtain ⟨Bc, dd, rfl, hm0, _⟩ := hb.form0
 refine enter (n := 158) (args := [.slice Ac n cc, .slice Bc m0 dd]) Tryz.func4 rfl rfl (St.empty _ _) ?_
 refine .sr ?_
 refine .m ?_
 refine .done ?_
 refine .seq ?_
 refine .sr ?_
 refine .m ?_
 refine .u (.int .i64 (((n : Nat) : Int))) (.len Tsl_30 rfl) ?_
 refine .m ?_
 refine .u (.int .i64 (((m0 : Nat) : Int))) (.len Tsl_30 rfl) ?_
 refine .u (.int .i64 (IntKind.i64.wrap (((n : Nat) : Int) + ((m0 : Nat) : Int)))) (.addW rfl rfl rfl) ?_
 refine .w (.bool (decide ((IntKind.i64.wrap (((n : Nat) : Int) + ((m0 : Nat) : Int))) > 1048576))) ?_
 refine .done ?_
 refine .cond (b := decide ((IntKind.i64.wrap (((n : Nat) : Int) + ((m0 : Nat) : Int))) > 1048576)) rfl (fun h34 => ?_) (fun h34 => ?_)
 ·have p34 := h34; try simp only [bs] at p34
  refine .sr ?_
  refine .m ?_
  refine .done ?_
  refine .ret ?_
  refine ⟨.bool true, [], Out.one rfl rfl, (Some'.weak (.nil _)), ?_⟩
  rfl
 have p34 := h34; try simp only [bs] at p34
 refine .skip ?_
 refine .sr ?_
 refine .m ?_
 refine .step rfl (.c [.slice Ac n cc] Tcall_13 (fun w hs => DrawFormat_fl (hs.sl ha) hby) ?_)
 rintro _ _ ⟨Q, u, L, hL20, rfl, rfl⟩
 show Run _ _ (putF _ _ _ (.agg #[.int .i64 Q, u])) [.own u 69 3 (L.length) (ints (fl L))]
 refine .step rfl (.alloc (zs := [.int .i64 0, .slice none 0 0]) Tzero_24 fun b1 => ?_)
 refine Run.formOwn (.tail _ (.head _)) (fun A_u1 c_u1 hv hcapc_u1 hmaxc_u1 => ?_) (fun _ _ _ => ⟨nofun, nofun, nofun⟩)
 subst hv
 refine .step rfl (.storeAll (us := [.int .i64 Q, .slice A_u1 (L.length) c_u1]) Tsize_24 rfl rfl rfl (.here _) rfl ?_)
 refine .dsr ?_
 refine .u (.agg #[.int .i64 Q, .slice A_u1 (L.length) c_u1]) (.loadN (cs := [.int .i64 Q, .slice A_u1 (L.length) c_u1]) Tagg_24 rfl (Cells.blk (.head _) ⟨rfl, rfl, trivial⟩)) ?_
 refine .c (.tuple #[sv (fmtO Q L L.length), .bool (circOk Q (fl L) L.length)]) [.agg #[.int .i64 Q, .slice A_u1 (L.length) c_u1]] Tcall_14 (fun w hs => FormatCircuit_spec (hg.go hs) (hs.slOwn (.tail _ (.head _)))) ?_
 refine .w (.tuple #[sv (fmtO Q L L.length), .bool (circOk Q (fl L) L.length)]) ?_
 refine .w (sv (fmtO Q L L.length)) ?_
 refine .w (.bool (circOk Q (fl L) L.length)) ?_
 refine .w (sv (fmtO Q L L.length)) ?_
 refine .m ?_
 refine .dsr ?_
 refine .u (.agg #[.int .i64 Q, .slice A_u1 (L.length) c_u1]) (.loadN (cs := [.int .i64 Q, .slice A_u1 (L.length) c_u1]) Tagg_24 rfl (Cells.blk (.head _) ⟨rfl, rfl, trivial⟩)) ?_
 refine .c (.tuple #[sv (fmtO Q L L.length), .bool (circOk Q (fl L) L.length)]) [.agg #[.int .i64 Q, .slice A_u1 (L.length) c_u1]] Tcall_15 (fun w hs => sFormatCircuit_spec (hs.slOwn (.tail _ (.head _)))) ?_
 refine .w (.tuple #[sv (fmtO Q L L.length), .bool (circOk Q (fl L) L.length)]) ?_
 refine .w (sv (fmtO Q L L.length)) ?_
 refine .w (.bool (circOk Q (fl L) L.length)) ?_
 refine .w (sv (fmtO Q L L.length)) ?_
 refine .m ?_
 refine .dsr ?_
 refine .u (.agg #[.int .i64 Q, .slice A_u1 (L.length) c_u1]) (.loadN (cs := [.int .i64 Q, .slice A_u1 (L.length) c_u1]) Tagg_24 rfl (Cells.blk (.head _) ⟨rfl, rfl, trivial⟩)) ?_
 refine .c (.tuple #[sv (fdO Q L L.length), .bool (fdB Q L L.length)]) [.agg #[.int .i64 Q, .slice A_u1 (L.length) c_u1]] Tcall_16 (fun w hs => FoldCircuit_spec (hg.go hs) (hs.slOwn (.tail _ (.head _)))) ?_
 refine .w (.tuple #[sv (fdO Q L L.length), .bool (fdB Q L L.length)]) ?_
 refine .w (sv (fdO Q L L.length)) ?_
 refine .w (.bool (fdB Q L L.length)) ?_
 refine .w (sv (fdO Q L L.length)) ?_
 refine .m ?_
 refine .dsr ?_
 refine .u (.agg #[.int .i64 Q, .slice A_u1 (L.length) c_u1]) (.loadN (cs := [.int .i64 Q, .slice A_u1 (L.length) c_u1]) Tagg_24 rfl (Cells.blk (.head _) ⟨rfl, rfl, trivial⟩)) ?_
 refine .c (.tuple #[sv (fdO Q L L.length), .bool (fdB Q L L.length)]) [.agg #[.int .i64 Q, .slice A_u1 (L.length) c_u1]] Tcall_17 (fun w hs => sFoldCircuit_spec (hs.slOwn (.tail _ (.head _)))) ?_
 refine .w (.tuple #[sv (fdO Q L L.length), .bool (fdB Q L L.length)]) ?_
 refine .w (sv (fdO Q L L.length)) ?_
 refine .w (.bool (fdB Q L L.length)) ?_
 refine .w (sv (fdO Q L L.length)) ?_
 refine .m ?_
 refine .done ?_
 refine .seq ?_
 refine .sr ?_
 iterate 2 refine .m ?_
 refine .u (.bool false) (.neqBSame Tbool_4 rfl rfl rfl) ?_
 refine .m ?_
 refine .w (sv (fmtO Q L L.length)) ?_
 refine .w (sv (fmtO Q L L.length)) ?_
 refine .u (.bool false) (.neSS rfl rfl) ?_
 refine .w (.bool false) ?_
 iterate 3 refine .m ?_
 refine .u (.bool false) (.neqBSame Tbool_4 rfl rfl rfl) ?_
 refine .w (.bool false) ?_
 refine .m ?_
 refine .w (sv (fdO Q L L.length)) ?_
 refine .w (sv (fdO Q L L.length)) ?_
 refine .u (.bool false) (.neSS rfl rfl) ?_
 refine .w (.bool false) ?_
 refine .done ?_
 refine .cond (b := false) rfl (fun h => nomatch h) (fun _ => ?_)
 refine .skip ?_
 refine .seq ?_
 refine .sr ?_
 refine .m ?_
 refine .done ?_
 refine Run.cut (ι := Unit) [4, 14, 15, 76, 77, 78, 79, 80, 81, 82, 83, 84, 85, 86, 87, 88] (fun () => []) (fun () => [.blk b1 24 [.int .i64 Q, .slice A_u1 (L.length) c_u1], .own (.slice A_u1 (L.length) c_u1) 69 3 (L.length) (ints (fl L))]) (fun () => True) ?_ ?_
 ·refine .cond (b := circOk Q (fl L) L.length) rfl (fun h75 => ?_) (fun h75 => ?_)
  ·have p75 := h75; try simp only [bs] at p75
   refine .sr ?_
   refine .w (sv (fmtO Q L L.length)) ?_
   refine .step rfl (.c [sv (fmtO Q L L.length)] Tcall_18 (fun w hs => Parse_back (rt_fmt h75) (hg.go hs) (by have := fmtO_len Q L L.length; omega)) ?_)
   rintro _ _ ⟨vg1, rfl, rfl⟩
   show Run _ _ (putF _ _ _ (.tuple #[.agg #[.int .i64 Q, vg1], .bool true])) [.own vg1 69 3 (L.length) (ints (fl L)), .blk b1 24 [.int .i64 Q, .slice A_u1 (L.length) c_u1], .own (.slice A_u1 (L.length) c_u1) 69 3 (L.length) (ints (fl L))]
   refine .w (.tuple #[.agg #[.int .i64 Q, vg1], .bool true]) ?_
   refine .w (.agg #[.int .i64 Q, vg1]) ?_
   refine .w (.bool true) ?_
   refine .step rfl (.alloc (zs := [.int .i64 0, .slice none 0 0]) Tzero_24 fun b2 => ?_)
   refine Run.formOwn (.tail _ (.head _)) (fun A_vg11 c_vg11 hv hcapc_vg11 hmaxc_vg11 => ?_) (fun _ _ _ => ⟨nofun, nofun, nofun⟩)
   subst hv
   refine .step rfl (.storeAll (us := [.int .i64 Q, .slice A_vg11 (L.length) c_vg11]) Tsize_24 rfl rfl rfl (.here _) rfl ?_)
   refine .m ?_
   refine .dsr ?_
   refine .m ?_
   refine .w (.bool false) ?_
   refine .m ?_
   refine .u (.agg #[.int .i64 Q, .slice A_vg11 (L.length) c_vg11]) (.loadN (cs := [.int .i64 Q, .slice A_vg11 (L.length) c_vg11]) Tagg_24 rfl (Cells.blk (.head _) ⟨rfl, rfl, trivial⟩)) ?_
   refine .u (.agg #[.int .i64 Q, .slice A_u1 (L.length) c_u1]) (.loadN (cs := [.int .i64 Q, .slice A_u1 (L.length) c_u1]) Tagg_24 rfl (Cells.blk (.tail _ (.tail _ (.head _))) ⟨rfl, rfl, trivial⟩)) ?_
   refine .c (.bool true) [.agg #[.int .i64 Q, .slice A_vg11 (L.length) c_vg11], .agg #[.int .i64 Q, .slice A_u1 (L.length) c_u1]] Tcall_19 (fun w hs => (by have h := EqualCircuits_spec (N := Q) (M := Q) (hs.slOwn (.tail _ (.head _))) (hs.slOwn (.tail _ (.tail _ (.tail _ (.head _))))); rw [same_circ] at h; exact h)) ?_
   refine .w (.bool false) ?_
   refine .w (.bool false) ?_
   refine .done ?_
   refine .cond (b := false) rfl (fun h => nomatch h) (fun _ => ?_)
   refine .skip ?_
   refine .goal ⟨(by repeat (first | exact Same.refl _ _ | refine Same.put rfl ?_ | refine Same.over rfl rfl ?_)), (), ?_, ?_, ?_⟩
   ·trivial
   ·exact trivial
   ·exact (Some'.weak (.skip (.skip (.take (.takeEq (by first | rfl | simp) (.nil _))))))
  have p75 := h75; try simp only [bs] at p75
  refine .skip ?_
  refine .goal ⟨(by repeat (first | exact Same.refl _ _ | refine Same.put rfl ?_ | refine Same.over rfl rfl ?_)), (), ?_, ?_, ?_⟩
  ·trivial
  ·exact trivial
  ·exact (Some'.weak (.take (.takeEq (by first | rfl | simp) (.nil _))))
 rintro ⟨⟩ fr hcut
 show Run _ _ (over _ _ [] fr) [.blk b1 24 [.int .i64 Q, .slice A_u1 (L.length) c_u1], .own (.slice A_u1 (L.length) c_u1) 69 3 (L.length) (ints (fl L))]
 refine .seq ?_
 refine .sr ?_
 refine .m ?_
 refine .done ?_
 refine Run.cut (ι := Unit) [4, 16, 17, 90, 91, 92, 93, 94, 95, 96, 97, 98, 99, 100, 101, 102] (fun () => []) (fun () => [.blk b1 24 [.int .i64 Q, .slice A_u1 (L.length) c_u1], .own (.slice A_u1 (L.length) c_u1) 69 3 (L.length) (ints (fl L))]) (fun () => True) ?_ ?_
 ·refine .cond (b := fdB Q L L.length) rfl (fun h89 => ?_) (fun h89 => ?_)
  ·have p89 := h89; try simp only [bs] at p89
   refine .sr ?_
   refine .w (sv (fdO Q L L.length)) ?_
   refine .step rfl (.c [sv (fdO Q L L.length)] Tcall_18 (fun w hs => Parse_back (rt_fdT rfl h89) (hg.go hs) (by have := fdO_len Q L L.length; omega)) ?_)
   rintro _ _ ⟨vg2, rfl, rfl⟩
   show Run _ _ (putF _ _ _ (.tuple #[.agg #[.int .i64 Q, vg2], .bool true])) [.own vg2 69 3 (L.length) (ints (fl L)), .blk b1 24 [.int .i64 Q, .slice A_u1 (L.length) c_u1], .own (.slice A_u1 (L.length) c_u1) 69 3 (L.length) (ints (fl L))]
   refine .w (.tuple #[.agg #[.int .i64 Q, vg2], .bool true]) ?_
   refine .w (.agg #[.int .i64 Q, vg2]) ?_
   refine .w (.bool true) ?_
   refine .step rfl (.alloc (zs := [.int .i64 0, .slice none 0 0]) Tzero_24 fun b3 => ?_)
   refine Run.formOwn (.tail _ (.head _)) (fun A_vg21 c_vg21 hv hcapc_vg21 hmaxc_vg21 => ?_) (fun _ _ _ => ⟨nofun, nofun, nofun⟩)
   subst hv
   refine .step rfl (.storeAll (us := [.int .i64 Q, .slice A_vg21 (L.length) c_vg21]) Tsize_24 rfl rfl rfl (.here _) rfl ?_)
   refine .m ?_
   refine .dsr ?_
   refine .m ?_
   refine .w (.bool false) ?_
   refine .m ?_
   refine .u (.agg #[.int .i64 Q, .slice A_vg21 (L.length) c_vg21]) (.loadN (cs := [.int .i64 Q, .slice A_vg21 (L.length) c_vg21]) Tagg_24 rfl (Cells.blk (.head _) ⟨rfl, rfl, trivial⟩)) ?_
   refine .u (.agg #[.int .i64 Q, .slice A_u1 (L.length) c_u1]) (.loadN (cs := [.int .i64 Q, .slice A_u1 (L.length) c_u1]) Tagg_24 rfl (Cells.blk (.tail _ (.tail _ (.head _))) ⟨rfl, rfl, trivial⟩)) ?_
   refine .c (.bool true) [.agg #[.int .i64 Q, .slice A_vg21 (L.length) c_vg21], .agg #[.int .i64 Q, .slice A_u1 (L.length) c_u1]] Tcall_19 (fun w hs => (by have h := EqualCircuits_spec (N := Q) (M := Q) (hs.slOwn (.tail _ (.head _))) (hs.slOwn (.tail _ (.tail _ (.tail _ (.head _))))); rw [same_circ] at h; exact h)) ?_
   refine .w (.bool false) ?_
   refine .w (.bool false) ?_
   refine .done ?_
   refine .cond (b := false) rfl (fun h => nomatch h) (fun _ => ?_)
   refine .skip ?_
   refine .goal ⟨(by repeat (first | exact Same.refl _ _ | refine Same.put rfl ?_ | refine Same.over rfl rfl ?_)), (), ?_, ?_, ?_⟩
   ·trivial
   ·exact trivial
   ·exact (Some'.weak (.skip (.skip (.take (.takeEq (by first | rfl | simp) (.nil _))))))
  have p89 := h89; try simp only [bs] at p89
  refine .skip ?_
  refine .goal ⟨(by repeat (first | exact Same.refl _ _ | refine Same.put rfl ?_ | refine Same.over rfl rfl ?_)), (), ?_, ?_, ?_⟩
  ·trivial
  ·exact trivial
  ·exact (Some'.weak (.take (.takeEq (by first | rfl | simp) (.nil _))))
 rintro ⟨⟩ fr hcut
 show Run _ _ (over _ _ [] fr) [.blk b1 24 [.int .i64 Q, .slice A_u1 (L.length) c_u1], .own (.slice A_u1 (L.length) c_u1) 69 3 (L.length) (ints (fl L))]
 refine .sr ?_
 refine .m ?_
 refine .step rfl (.c [.slice Bc m0 dd] Tcall_20 (fun w hs => DrawParseCircuit_spec (hs.sl hb) hbz) ?_)
 rintro _ _ ⟨x, hx8, rfl, rfl⟩
 show Run _ _ (putF _ _ _ (sv x)) [.blk b1 24 [.int .i64 Q, .slice A_u1 (L.length) c_u1], .own (.slice A_u1 (L.length) c_u1) 69 3 (L.length) (ints (fl L))]
 refine .w (sv x) ?_
 refine .dsr ?_
 refine .w (sv x) ?_
 refine .step rfl (.c [sv x] Tcall_18 (fun w hs => ParseCircuit_spec (hg.go hs) (by omega)) ?_)
 rintro _ _ ⟨vg3, rfl, rfl⟩
 show Run _ _ (putF _ _ _ (.tuple #[.agg #[.int .i64 ((rt x).2.1), vg3], .bool (decide ((rt x).1.1 = 0))])) [.own vg3 69 3 ((rt x).2.2.1.length) (ints (fl (rt x).2.2.1)), .blk b1 24 [.int .i64 Q, .slice A_u1 (L.length) c_u1], .own (.slice A_u1 (L.length) c_u1) 69 3 (L.length) (ints (fl L))]
 refine .w (.tuple #[.agg #[.int .i64 ((rt x).2.1), vg3], .bool (decide ((rt x).1.1 = 0))]) ?_
 refine .w (.agg #[.int .i64 ((rt x).2.1), vg3]) ?_
 refine .w (.bool (decide ((rt x).1.1 = 0))) ?_
 refine .step rfl (.alloc (zs := [.int .i64 0, .slice none 0 0]) Tzero_24 fun b4 => ?_)
 refine Run.formOwn (.tail _ (.head _)) (fun A_vg31 c_vg31 hv hcapc_vg31 hmaxc_vg31 => ?_) (fun _ _ _ => ⟨nofun, nofun, nofun⟩)
 subst hv
 refine .step rfl (.storeAll (us := [.int .i64 ((rt x).2.1), .slice A_vg31 ((rt x).2.2.1.length) c_vg31]) Tsize_24 rfl rfl rfl (.here _) rfl ?_)
 refine .m ?_
 refine .dsr ?_
 refine .w (sv x) ?_
 refine .c (.tuple #[.int .i64 ((rt x).1.1), .int .i64 ((rt x).1.2)]) [sv x] Tcall_21 (fun w hs => CheckText_spec (hg.go hs) (by omega)) ?_
 refine .w (.tuple #[.int .i64 ((rt x).1.1), .int .i64 ((rt x).1.2)]) ?_
 refine .w (.int .i64 ((rt x).1.1)) ?_
 refine .w (.int .i64 ((rt x).1.2)) ?_
 iterate 2 refine .m ?_
 refine .dsr ?_
 refine .w (sv x) ?_
 refine .c (.tuple #[.int .i64 ((rt x).1.1), .int .i64 ((rt x).1.2)]) [sv x] Tcall_22 (fun w hs => sCheckText_spec) ?_
 refine .w (.tuple #[.int .i64 ((rt x).1.1), .int .i64 ((rt x).1.2)]) ?_
 refine .w (.int .i64 ((rt x).1.1)) ?_
 refine .w (.int .i64 ((rt x).1.2)) ?_
 iterate 2 refine .m ?_
 refine .done ?_
 refine .seq ?_
 refine .sr ?_
 iterate 2 refine .m ?_
 refine .u (.bool false) (.neqSame rfl rfl rfl) ?_
 iterate 3 refine .m ?_
 refine .u (.bool false) (.neqSame rfl rfl rfl) ?_
 refine .w (.bool false) ?_
 iterate 3 refine .m ?_
 refine .u (.bool (decide ((rt x).1.1 = 0))) (.pure (by rw [← beq_decide]; rfl)) ?_
 refine .u (.bool false) (.neqBSame Tbool_4 rfl rfl rfl) ?_
 refine .w (.bool false) ?_
 refine .done ?_
 refine .cond (b := false) rfl (fun h => nomatch h) (fun _ => ?_)
 refine .skip ?_
 refine .seq ?_
 refine .sr ?_
 refine .m ?_
 refine .w (.bool (!(decide ((rt x).1.1 = 0)))) ?_
 refine .done ?_
 refine .cond (b := !(decide ((rt x).1.1 = 0))) rfl (fun h135 => ?_) (fun h135 => ?_)
 ·have p135 := h135; try simp only [bs] at p135
  refine .sr ?_
  refine .m ?_
  refine .done ?_
  refine .ret ?_
  refine ⟨.bool true, [], Out.one rfl rfl, (Some'.weak (.nil _)), ?_⟩
  rfl
 have p135 := h135; try simp only [bs] at p135
 refine .skip ?_
 refine .sr ?_
 refine .u (.agg #[.int .i64 ((rt x).2.1), .slice A_vg31 ((rt x).2.2.1.length) c_vg31]) (.loadN (cs := [.int .i64 ((rt x).2.1), .slice A_vg31 ((rt x).2.2.1.length) c_vg31]) Tagg_24 rfl (Cells.blk (.head _) ⟨rfl, rfl, trivial⟩)) ?_
 refine .c (.tuple #[sv (fmtO (rt x).2.1 (rt x).2.2.1 (rt x).2.2.1.length), .bool (circOk (rt x).2.1 (fl (rt x).2.2.1) (rt x).2.2.1.length)]) [.agg #[.int .i64 ((rt x).2.1), .slice A_vg31 ((rt x).2.2.1.length) c_vg31]] Tcall_14 (fun w hs => FormatCircuit_spec (hg.go hs) (hs.slOwn (.tail _ (.head _)))) ?_
 refine .w (.tuple #[sv (fmtO (rt x).2.1 (rt x).2.2.1 (rt x).2.2.1.length), .bool (circOk (rt x).2.1 (fl (rt x).2.2.1) (rt x).2.2.1.length)]) ?_
 refine .w (sv (fmtO (rt x).2.1 (rt x).2.2.1 (rt x).2.2.1.length)) ?_
 refine .w (.bool (circOk (rt x).2.1 (fl (rt x).2.2.1) (rt x).2.2.1.length)) ?_
 refine .w (sv (fmtO (rt x).2.1 (rt x).2.2.1 (rt x).2.2.1.length)) ?_
 refine .m ?_
 refine .dsr ?_
 refine .w (sv (fmtO (rt x).2.1 (rt x).2.2.1 (rt x).2.2.1.length)) ?_
 refine .step rfl (.c [sv (fmtO (rt x).2.1 (rt x).2.2.1 (rt x).2.2.1.length)] Tcall_18 (fun w hs => (by have h := ParseCircuit_spec (s := (fmtO (rt x).2.1 (rt x).2.2.1 (rt x).2.2.1.length)) (hg.go hs) (by have h1 := fmtO_len (rt x).2.1 (rt x).2.2.1 (rt x).2.2.1.length; have h2 := rt_glen x; omega); rw [fmt_code] at h; exact h)) ?_)
 rintro _ _ ⟨vg4, rfl, rfl⟩
 show Run _ _ (putF _ _ _ (.tuple #[.agg #[.int .i64 ((rt (fmtO (rt x).2.1 (rt x).2.2.1 (rt x).2.2.1.length)).2.1), vg4], .bool (circOk (rt x).2.1 (fl (rt x).2.2.1) (rt x).2.2.1.length)])) [.own vg4 69 3 ((rt (fmtO (rt x).2.1 (rt x).2.2.1 (rt x).2.2.1.length)).2.2.1.length) (ints (fl (rt (fmtO (rt x).2.1 (rt x).2.2.1 (rt x).2.2.1.length)).2.2.1)), .blk b4 24 [.int .i64 ((rt x).2.1), .slice A_vg31 ((rt x).2.2.1.length) c_vg31], .own (.slice A_vg31 ((rt x).2.2.1.length) c_vg31) 69 3 ((rt x).2.2.1.length) (ints (fl (rt x).2.2.1)), .blk b1 24 [.int .i64 Q, .slice A_u1 (L.length) c_u1], .own (.slice A_u1 (L.length) c_u1) 69 3 (L.length) (ints (fl L))]
 refine .w (.tuple #[.agg #[.int .i64 ((rt (fmtO (rt x).2.1 (rt x).2.2.1 (rt x).2.2.1.length)).2.1), vg4], .bool (circOk (rt x).2.1 (fl (rt x).2.2.1) (rt x).2.2.1.length)]) ?_
 refine .w (.agg #[.int .i64 ((rt (fmtO (rt x).2.1 (rt x).2.2.1 (rt x).2.2.1.length)).2.1), vg4]) ?_
 refine .w (.bool (circOk (rt x).2.1 (fl (rt x).2.2.1) (rt x).2.2.1.length)) ?_
 refine .step rfl (.alloc (zs := [.int .i64 0, .slice none 0 0]) Tzero_24 fun b5 => ?_)
 refine Run.formOwn (.tail _ (.head _)) (fun A_vg41 c_vg41 hv hcapc_vg41 hmaxc_vg41 => ?_) (fun _ _ _ => ⟨nofun, nofun, nofun⟩)
 subst hv
 refine .step rfl (.storeAll (us := [.int .i64 ((rt (fmtO (rt x).2.1 (rt x).2.2.1 (rt x).2.2.1.length)).2.1), .slice A_vg41 ((rt (fmtO (rt x).2.1 (rt x).2.2.1 (rt x).2.2.1.length)).2.2.1.length) c_vg41]) Tsize_24 rfl rfl rfl (.here _) rfl ?_)
 refine .m ?_
 refine .dsr ?_
 iterate 2 refine .m ?_
 refine .u (.bool true) (.eqlBSame Tbool_4 rfl rfl rfl) ?_
 iterate 2 refine .m ?_
 refine .w (.bool (!(circOk (rt x).2.1 (fl (rt x).2.2.1) (rt x).2.2.1.length))) ?_
 rcases Bool.eq_false_or_eq_true (!(circOk (rt x).2.1 (fl (rt x).2.2.1) (rt x).2.2.1.length)) with h152 | h152
 ·refine .mb h152 ?_
  have p152 := h152; try simp only [bs] at p152
  iterate 3 refine .pass rfl ?_
  refine .w (.bool true) ?_
  refine .w (.bool true) ?_
  refine .m ?_
  refine .done ?_
  refine .ret ?_
  refine ⟨.bool true, [], Out.one rfl rfl, (Some'.weak (.nil _)), ?_⟩
  rfl
 refine .mb h152 ?_
 have p152 := h152; try simp only [bs] at p152
 refine .u (.agg #[.int .i64 ((rt x).2.1), .slice A_vg31 ((rt x).2.2.1.length) c_vg31]) (.loadN (cs := [.int .i64 ((rt x).2.1), .slice A_vg31 ((rt x).2.2.1.length) c_vg31]) Tagg_24 rfl (Cells.blk (.tail _ (.tail _ (.head _))) ⟨rfl, rfl, trivial⟩)) ?_
 refine .u (.agg #[.int .i64 ((rt (fmtO (rt x).2.1 (rt x).2.2.1 (rt x).2.2.1.length)).2.1), .slice A_vg41 ((rt (fmtO (rt x).2.1 (rt x).2.2.1 (rt x).2.2.1.length)).2.2.1.length) c_vg41]) (.loadN (cs := [.int .i64 ((rt (fmtO (rt x).2.1 (rt x).2.2.1 (rt x).2.2.1.length)).2.1), .slice A_vg41 ((rt (fmtO (rt x).2.1 (rt x).2.2.1 (rt x).2.2.1.length)).2.2.1.length) c_vg41]) Tagg_24 rfl (Cells.blk (.head _) ⟨rfl, rfl, trivial⟩)) ?_
 refine .c (.bool true) [.agg #[.int .i64 ((rt x).2.1), .slice A_vg31 ((rt x).2.2.1.length) c_vg31], .agg #[.int .i64 ((rt (fmtO (rt x).2.1 (rt x).2.2.1 (rt x).2.2.1.length)).2.1), .slice A_vg41 ((rt (fmtO (rt x).2.1 (rt x).2.2.1 (rt x).2.2.1.length)).2.2.1.length) c_vg41]] Tcall_19 (fun w hs => (by have h := EqualCircuits_spec (N := (rt x).2.1) (M := (rt (fmtO (rt x).2.1 (rt x).2.2.1 (rt x).2.2.1.length)).2.1) (hs.slOwn (.tail _ (.tail _ (.tail _ (.head _))))) (hs.slOwn (.tail _ (.head _))); rw [back_circ (rt_fmt (by assumption))] at h; exact h)) ?_
 refine .w (.bool true) ?_
 refine .w (.bool true) ?_
 refine .m ?_
 refine .done ?_
 refine .ret ?_
 refine ⟨.bool true, [], Out.one rfl rfl, (Some'.weak (.nil _)), ?_⟩
 rfl

end Go.Proofs.YtgpkpopbajkklaaGreatDoor
/- How the laws' arguments are read: numbers, slices of numbers and of structs of numbers, structs. -/
set_option linter.unusedSimpArgs false
set_option linter.unusedVariables false
namespace Go.Proofs.YtgpkpopbajkklaaGreatDoor
open Go Go.RowKit
open Go.ChangeShapes Go.WideShapes Go.Deep
theorem in64_wf {n : Int} (h : (Lit.int .i64 n).wf = true) : In64 n := by
  have h' : (decide (-9223372036854775808 ≤ n) && decide (n ≤ 9223372036854775807)) = true := by
    first | exact h | simpa [Lit.wf, IntKind.min, IntKind.max] using h
  simpa [In64] using h'
/-- A type that is laid out as k numbers. -/
def FlatT (P : Program) (t : TypeId) (k : Nat) : Prop :=
  P.cellsOf t = k ∧ ∀ (H : Type) (enc : TypeId × Value → H) (w : World) (base : Nat) (spare : Nat → Bool) (held : Bool) (fuel : Nat) (cs : List Value) (x : DataW H × List MemPlace),
    DataW.trod enc P w base spare held fuel t cs = some x → ∀ j, j < k → ∃ n, cs[j]? = some (.int .i64 n) ∧ In64 n
theorem FlatT.int {P : Program} {t : TypeId} (hc : P.cellsOf t = 1) (h : P.underlying t = some (.int .i64)) : FlatT P t 1 := by
  refine ⟨hc, fun H enc w base spare held fuel cs x hx j hj => ?_⟩
  obtain ⟨n, rfl, _, hw⟩ := DataW.trod_int h hx
  obtain rfl : j = 0 := by omega
  exact ⟨n, rfl, in64_wf hw⟩
/-- Every field is a number of its own cell. -/
def intFields (P : Program) (fs : Array Field) : Bool :=
  (List.range fs.size).all fun i => match fs[i]? with
    | some f => f.offset == i && P.cellsOf f.type == 1 && (match P.underlying f.type with | some (.int .i64) => true | _ => false)
    | none => false
theorem FlatT.struct {P : Program} {t : TypeId} {fs : Array Field} {k : Nat} (hk : fs.size = k) (hc : P.cellsOf t = k) (h : P.underlying t = some (.struct fs)) (hf : intFields P fs = true) : FlatT P t k := by
  refine ⟨hc, fun H enc w base spare held fuel cs x hx j hj => ?_⟩
  obtain ⟨xs, n, _, _, hl, hxs, hg⟩ := DataW.trod_struct h hx
  have h1 := List.all_eq_true.1 hf j (by simp; omega)
  split at h1
  · rename_i f hfj
    simp only [Bool.and_eq_true, beq_iff_eq] at h1
    obtain ⟨⟨ho, hcc⟩, hu⟩ := h1
    have hu' : P.underlying f.type = some (.int .i64) := by
      split at hu
      · assumption
      · cases hu
    have h2 := hg j f hfj
    rw [ho, hcc] at h2
    obtain ⟨y, hy⟩ : ∃ y, xs[j]? = some y := ⟨_, List.getElem?_eq_getElem (by omega)⟩
    rw [hy] at h2
    obtain ⟨m, he, _, hw⟩ := DataW.trod_int hu' h2
    refine ⟨m, ?_, in64_wf hw⟩
    have : (cs.drop j)[0]? = some (.int .i64 m) := by
      have h3 : ((cs.drop j).take 1)[0]? = some (Value.int .i64 m) := by rw [he]; rfl
      rwa [List.getElem?_take_of_lt (by omega)] at h3
    simpa using this
  · cases h1

theorem open_sl {H : Type} {enc : TypeId × Value → H} {P : Program} {w : World} {base : Nat} {spare : Nat → Bool} {held : Bool} {r : Reach} {b0 : Nat} {t e : TypeId} {v : Value} {d : DataW H} {p : List MemPlace}
    (ht : P.underlying t = some (.slice e)) (hv : Value.okWide P w r b0 t v) (h : DataW.Trod enc P w base spare held t v d p) : ∃ (fuel : Nat), DataW.trod enc P w base spare held fuel t [v] = some (d, p) := by
  obtain ⟨a, len, cap, rfl⟩ := okWide_slice ht hv
  obtain ⟨fuel, hf⟩ := h
  exact ⟨fuel, by simpa [Value.cells] using hf⟩
end Go.Proofs.YtgpkpopbajkklaaGreatDoor
/- How the laws' slices of bytes are read. -/
set_option linter.unusedSimpArgs false
set_option linter.unusedVariables false
namespace Go.Proofs.YtgpkpopbajkklaaGreatDoor
open Go Go.RowKit
open Go.ChangeShapes Go.WideShapes Go.Deep
theorem byte_wf {n : Int} (h : (Lit.int .u8 n).wf = true) : 0 ≤ n ∧ n < 256 := by
  have h' : (decide (0 ≤ n) && decide (n ≤ 255)) = true := by
    first | exact h | simpa [Lit.wf, IntKind.min, IntKind.max] using h
  simp only [Bool.and_eq_true, decide_eq_true_eq] at h'
  omega
theorem open_bytes {H : Type} {enc : TypeId × Value → H} {P : Program} {w : World} {base : Nat} {spare : Nat → Bool} {held : Bool} {t e : TypeId} {fuel : Nat} {v : Value} {x : DataW H × List MemPlace}
    (ht : P.underlying t = some (.slice e)) (hu : P.underlying e = some (.int .u8)) (hc : P.cellsOf e = 1) (h : DataW.trod enc P w base spare held fuel t [v] = some x) :
    ∃ n cs, Sl w v 1 n (u8s cs) ∧ ∀ i ∈ cs, 0 ≤ i ∧ i < 256 := by
  rcases open_slice1 ht hc h with ⟨hv, _⟩ | ⟨a, len, cap, m, n, V, D, Pl, hcs, hb, hl, hm, hmm, hx, hi⟩
  · simp only [List.cons.injEq, and_true] at hv
    subst hv
    exact ⟨0, [], ⟨by simp [u8s], none, 0, rfl, Nat.le_refl _, by simp, fun h => absurd h (by omega)⟩, by simp⟩
  · simp only [List.cons.injEq, and_true] at hcs
    subst hcs
    have hle : len ≤ m := by rw [hmm]; split <;> omega
    have key : ∀ j, j < len → ∃ n, w.cell? (a.add j) = some (.int .u8 n) ∧ 0 ≤ n ∧ n < 256 := by
      intro j hj
      obtain ⟨h1, h2⟩ := hi j (by omega)
      obtain ⟨n', he, _, hw⟩ := DataW.trod_int hu h2
      simp only [List.cons.injEq, and_true] at he
      rw [he] at h1
      exact ⟨n', h1, byte_wf hw⟩
    have hnil : ∀ {a : Addr} {u : Value}, w.cell? a = some u → ∃ b o, a = ⟨b, o, none⟩ ∧ b < w.heap.size := by
      rintro ⟨b, o, sp⟩ u hu
      unfold World.cell? at hu
      split at hu
      · rename_i c _ _ hb
        cases sp with
        | none => exact ⟨b, o, rfl, (Array.getElem?_eq_some_iff.1 hb).1⟩
        | some s => simp at hu
      · cases hu
    rcases Nat.eq_zero_or_pos len with hl0 | hl0
    · subst hl0
      exact ⟨0, [], ⟨by simp [u8s], some a, cap, rfl, by omega, hm, fun h => absurd h (by omega)⟩, by simp⟩
    · obtain ⟨n0, h0, _⟩ := key 0 hl0
      have h00 : w.cell? a = some (.int .u8 n0) := by simpa [Addr.add] using h0
      obtain ⟨b, o, rfl, hbs⟩ := hnil h00
      let g : Nat → Int := fun j => match w.cell? ⟨b, o + j, none⟩ with | some (.int _ n) => n | _ => 0
      have hg : ∀ j, j < len → w.cell? ⟨b, o + j, none⟩ = some (.int .u8 (g j)) ∧ 0 ≤ g j ∧ g j < 256 := by
        intro j hj
        obtain ⟨n, h1, h2⟩ := key j hj
        rw [Addr.add_mid] at h1
        have : g j = n := by simp only [g, h1]
        rw [this]; exact ⟨h1, h2⟩
      refine ⟨len, (List.range len).map g, ⟨by simp [u8s], some ⟨b, o, none⟩, cap, rfl, hl, hm, fun _ => ⟨b, o, rfl, hbs, ?_⟩⟩, ?_⟩
      · intro j v hv
        have hj : j < len := by
          have := (List.getElem?_eq_some_iff.1 hv).1
          simpa [u8s] using this
        have : v = .int .u8 (g j) := by simpa [u8s, hj] using hv.symm
        rw [this]; exact (hg j hj).1
      · intro i hi'
        obtain ⟨j, hj, rfl⟩ := List.mem_map.1 hi'
        exact (hg j (by simpa using hj)).2

end Go.Proofs.YtgpkpopbajkklaaGreatDoor
