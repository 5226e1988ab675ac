/- Walks: circuits are written out. -/
import Derived.Test.YtgpkpopbajkklaaGreatDoorV12
import Derived.Test.YtgpkpopbajkklaaGreatDoorProg
import Derived.Test.YtgpkpopbajkklaaGreatDoorV3
import Derived.Test.YtgpkpopbajkklaaGreatDoorV2
import Derived.Test.YtgpkpopbajkklaaGreatDoorV11
set_option linter.unusedSimpArgs false
set_option linter.unusedVariables false
namespace Go.Proofs.YtgpkpopbajkklaaGreatDoor
open Go Go.RowKit
namespace TzdT
theorem Tagg_24 : aggOf Tryz.prog 24 = some 2 := by kernel_rfl
theorem Tagg_69 : aggOf Tryz.prog 69 = some 3 := by kernel_rfl
theorem Tarr_125 : arrayOf Tryz.prog 125 = some (13, 1) := by kernel_rfl
theorem Tbytes_30 : bytesT Tryz.prog 30 = true := by kernel_rfl
theorem Tcall_35 : callable Tryz.prog 35 = true := by kernel_rfl
theorem Tcall_36 : callable Tryz.prog 36 = true := by kernel_rfl
theorem Tcall_37 : callable Tryz.prog 37 = true := by kernel_rfl
theorem Tcall_38 : callable Tryz.prog 38 = true := by kernel_rfl
theorem Tcall_39 : callable Tryz.prog 39 = true := by kernel_rfl
theorem Tcall_42 : callable Tryz.prog 42 = true := by kernel_rfl
theorem Tcall_44 : callable Tryz.prog 44 = true := by kernel_rfl
theorem Tcall_65 : callable Tryz.prog 65 = true := by kernel_rfl
theorem Tcall_67 : callable Tryz.prog 67 = true := by kernel_rfl
theorem Tcall_68 : callable Tryz.prog 68 = true := by kernel_rfl
theorem Tcall_70 : callable Tryz.prog 70 = true := by kernel_rfl
theorem Tcall_95 : callable Tryz.prog 95 = true := by kernel_rfl
theorem Tfo_24_0 : fieldOff Tryz.prog 24 0 = some 0 := by kernel_rfl
theorem Tfo_24_1 : fieldOff Tryz.prog 24 1 = some 1 := by kernel_rfl
theorem Tfo_69_0 : fieldOff Tryz.prog 69 0 = some 0 := by kernel_rfl
theorem Tfo_69_1 : fieldOff Tryz.prog 69 1 = some 1 := by kernel_rfl
theorem Tfo_69_2 : fieldOff Tryz.prog 69 2 = some 2 := by kernel_rfl
theorem Tint_5 : Tryz.prog.underlying 5 = some (.int .u8) := by kernel_rfl
theorem Tone_22 : oneOf Tryz.prog 22 = true := by kernel_rfl
theorem Tone_3 : oneOf Tryz.prog 3 = true := by kernel_rfl
theorem Tone_9 : oneOf Tryz.prog 9 = true := by kernel_rfl
theorem Tsize_69 : (Tryz.prog.info? 69).map (·.size) = some 3 := by kernel_rfl
theorem Tsl_22 : sliceOf Tryz.prog 22 = some (69, 3, 24, [.int .i64 0, .int .i64 0, .int .i64 0]) := by kernel_rfl
theorem Tsl_30 : sliceOf Tryz.prog 30 = some (5, 1, 1, [.int .u8 0]) := by kernel_rfl
theorem Tsome_3 : (Tryz.prog.underlying 3).isSome = true := by kernel_rfl
theorem Tstr_9 : strT Tryz.prog 9 = true := by kernel_rfl
theorem Tzero_69 : zeroOf Tryz.prog 69 = some [.int .i64 0, .int .i64 0, .int .i64 0] := by kernel_rfl
end TzdT
open TzdT
set_option maxHeartbeats 1000000 in
set_option maxRecDepth 20000 in
theorem l1Num_one {n : Nat} (h : n < 10) (w : World) : Calls Tryz.prog 42 #[.int .i64 ((n : Nat) : Int)] w (Post No w fun v _ => v = sv (nd n)) := by
 refine enter (n := 20) (args := [.int .i64 (((n : Nat) : Int))]) Tryz.func42 rfl rfl (St.empty _ _) ?_
 refine .sr ?_
 refine .w (sv ([])) ?_
 refine .done ?_
 refine .seq ?_
 refine .sr ?_
 refine .m ?_
 refine .w (.bool (decide ((((n : Nat) : Int)) < 10))) ?_
 refine .done ?_
 refine .cond (b := decide ((((n : Nat) : Int)) < 10)) rfl (fun h4 => ?_) (fun h4 => ?_)
 ·have p4 := h4; try simp only [bs] at p4
  refine .sr ?_
  refine .m ?_
  refine .u (.int .i64 (48 + (((n : Nat) : Int)))) (.add rfl rfl rfl (by omega) (by omega)) ?_
  refine .u (.int .u8 (48 + ((n : Nat) : Int))) (.convIntEq Tsome_3 Tint_5 rfl (by rw [wrapU8 (by omega) (by omega)])) ?_
  refine .step rfl (.buildSlice (us := [.int .u8 (48 + ((n : Nat) : Int))]) Tsl_30 (by decide) (by decide) ⟨rfl, [.int .u8 (48 + ((n : Nat) : Int))], _, rfl, rfl, rfl, rfl⟩ rfl fun b1 => ?_)
  refine .u (sv ([chr (48 + ((n : Nat) : Int))])) (.bytesS (xs := [48 + ((n : Nat) : Int)]) Tbytes_30 Tstr_9 rfl rfl (Cells.own0 (.head _) ⟨rfl, trivial⟩)) ?_
  refine .w (sv ([chr (48 + ((n : Nat) : Int))])) ?_
  refine .done ?_
  refine .ret ?_
  refine ⟨sv ([chr (48 + ((n : Nat) : Int))]), [], Out.one rfl rfl, (Some'.weak (.nil _)), ?_⟩
  show _ = _; rw [nd_lt h]
 exact absurd h4 (by simp; omega) --DONE

set_option maxHeartbeats 1000000 in
set_option maxRecDepth 20000 in
theorem l1Num_spec {n : Nat} (h : n < 100) (w : World) : Calls Tryz.prog 42 #[.int .i64 ((n : Nat) : Int)] w (Post No w fun v _ => v = sv (nd n)) := by
 rcases Nat.lt_or_ge n 10 with h9 | h9
 ·exact l1Num_one h9 w
 refine enter (n := 20) (args := [.int .i64 (((n : Nat) : Int))]) Tryz.func42 rfl rfl (St.empty _ _) ?_
 refine .sr ?_
 refine .w (sv ([])) ?_
 refine .done ?_
 refine .seq ?_
 refine .sr ?_
 refine .m ?_
 refine .w (.bool (decide ((((n : Nat) : Int)) < 10))) ?_
 refine .done ?_
 refine .cond (b := decide ((((n : Nat) : Int)) < 10)) rfl (fun h4 => ?_) (fun h4 => ?_)
 ·exact absurd h4 (by simp; omega) --DONE
 have p4 := h4; try simp only [bs] at p4
 refine .skip ?_
 refine .seq ?_
 refine .held (by kernel_rfl) ?_
 refine DW.m 0 rfl (Weak.refl _) ?_
 refine DW.t 1 rfl (Weak.refl _) (.int .i64 (((n / 10 : Nat) : Int))) (.quoN rfl rfl (by omega)) ?_
 refine DW.m 3 rfl (Weak.refl _) ?_
 refine DW.t 4 rfl (Weak.refl _) (.int .i64 ((((n : Nat) : Int)) % 10)) (.rem rfl rfl (by omega) (by omega)) ?_
 refine DW.t 5 rfl (Weak.refl _) (.int .i64 (48 + ((((n : Nat) : Int)) % 10))) (.add rfl rfl rfl (by omega) (by omega)) ?_
 refine DW.t 6 rfl (Weak.refl _) (.int .u8 (48 + ((n % 10 : Nat) : Int))) (.convIntEq Tsome_3 Tint_5 rfl (by rw [wrapU8 (by omega) (by omega)]; omega)) ?_
 refine DW.two (i := 2) (j := 7) (by kernel_rfl) rfl rfl rfl rfl ?_ ?_
 ·refine OpStep.q (v := sv (nd (n / 10))) (OpQ.call (vs := [.int .i64 (((n / 10 : Nat) : Int))]) (caps := []) Tcall_42 rfl rfl (fun w hs => l1Num_one (n := n / 10) (by omega) w)) ?_
  refine ⟨(Some'.weak (.nil _)), ?_⟩
  refine DW.step (i := 7) (by kernel_rfl) rfl rfl (OpStep.buildSlice (us := [.int .u8 (48 + ((n % 10 : Nat) : Int))]) Tsl_30 (by decide) (by decide) ⟨rfl, [.int .u8 (48 + ((n % 10 : Nat) : Int))], _, rfl, rfl, rfl, rfl⟩ rfl fun b1 => ?_)
  refine ⟨(Some'.weak (.nil _)), ?_⟩
  refine DW.step (i := 8) (by kernel_rfl) rfl rfl (OpStep.q (v := sv ([chr (48 + ((n % 10 : Nat) : Int))])) (OpQ.y (OpY.bytesS (xs := [48 + ((n % 10 : Nat) : Int)]) Tbytes_30 Tstr_9 rfl rfl (Cells.own0 (.head _) ⟨rfl, trivial⟩))) ?_)
  refine ⟨(Some'.weak (.nil _)), ?_⟩
  refine DW.t 9 rfl (Some'.weak (.nil _)) (sv ((nd (n / 10)) ++ ([chr (48 + ((n % 10 : Nat) : Int))]))) (.addS rfl rfl (by (have hq := nd_len (n / 10); simp only [List.length_cons, List.length_nil]; omega))) ?_
  refine DW.t 10 rfl (Some'.weak (.nil _)) (sv ((nd (n / 10)) ++ ([chr (48 + ((n % 10 : Nat) : Int))]))) (.pure rfl) ?_
  refine DW.done (by kernel_rfl) ?_
  refine .ret ?_
  refine ⟨sv ((nd (n / 10)) ++ ([chr (48 + ((n % 10 : Nat) : Int))])), [], Out.one rfl rfl, (Some'.weak (.nil _)), ?_⟩
  show _ = _; rw [nd_ge (n := n) (by omega), nd_lt (n := n / 10) (by omega)]
 ·refine OpStep.buildSlice (us := [.int .u8 (48 + ((n % 10 : Nat) : Int))]) Tsl_30 (by decide) (by decide) ⟨rfl, [.int .u8 (48 + ((n % 10 : Nat) : Int))], _, rfl, rfl, rfl, rfl⟩ rfl fun b2 => ?_
  refine ⟨(Some'.weak (.nil _)), ?_⟩
  refine DW.two (i := 2) (j := 8) (by kernel_rfl) rfl rfl rfl rfl ?_ ?_
  ·refine OpStep.q (v := sv (nd (n / 10))) (OpQ.call (vs := [.int .i64 (((n / 10 : Nat) : Int))]) (caps := []) Tcall_42 rfl rfl (fun w hs => l1Num_one (n := n / 10) (by omega) w)) ?_
   refine ⟨(Some'.weak (.nil _)), ?_⟩
   refine DW.step (i := 8) (by kernel_rfl) rfl rfl (OpStep.q (v := sv ([chr (48 + ((n % 10 : Nat) : Int))])) (OpQ.y (OpY.bytesS (xs := [48 + ((n % 10 : Nat) : Int)]) Tbytes_30 Tstr_9 rfl rfl (Cells.own0 (.head _) ⟨rfl, trivial⟩))) ?_)
   refine ⟨(Some'.weak (.nil _)), ?_⟩
   refine DW.t 9 rfl (Some'.weak (.nil _)) (sv ((nd (n / 10)) ++ ([chr (48 + ((n % 10 : Nat) : Int))]))) (.addS rfl rfl (by (have hq := nd_len (n / 10); simp only [List.length_cons, List.length_nil]; omega))) ?_
   refine DW.t 10 rfl (Some'.weak (.nil _)) (sv ((nd (n / 10)) ++ ([chr (48 + ((n % 10 : Nat) : Int))]))) (.pure rfl) ?_
   refine DW.done (by kernel_rfl) ?_
   refine .ret ?_
   refine ⟨sv ((nd (n / 10)) ++ ([chr (48 + ((n % 10 : Nat) : Int))])), [], Out.one rfl rfl, (Some'.weak (.nil _)), ?_⟩
   show _ = _; rw [nd_ge (n := n) (by omega), nd_lt (n := n / 10) (by omega)]
  ·refine OpStep.q (v := sv ([chr (48 + ((n % 10 : Nat) : Int))])) (OpQ.y (OpY.bytesS (xs := [48 + ((n % 10 : Nat) : Int)]) Tbytes_30 Tstr_9 rfl rfl (Cells.own0 (.head _) ⟨rfl, trivial⟩))) ?_
   refine ⟨(Some'.weak (.nil _)), ?_⟩
   refine DW.step (i := 2) (by kernel_rfl) rfl rfl (OpStep.q (v := sv (nd (n / 10))) (OpQ.call (vs := [.int .i64 (((n / 10 : Nat) : Int))]) (caps := []) Tcall_42 rfl rfl (fun w hs => l1Num_one (n := n / 10) (by omega) w)) ?_)
   refine ⟨(Some'.weak (.nil _)), ?_⟩
   refine DW.t 9 rfl (Some'.weak (.nil _)) (sv ((nd (n / 10)) ++ ([chr (48 + ((n % 10 : Nat) : Int))]))) (.addS rfl rfl (by (have hq := nd_len (n / 10); simp only [List.length_cons, List.length_nil]; omega))) ?_
   refine DW.t 10 rfl (Some'.weak (.nil _)) (sv ((nd (n / 10)) ++ ([chr (48 + ((n % 10 : Nat) : Int))]))) (.pure rfl) ?_
   refine DW.done (by kernel_rfl) ?_
   refine .ret ?_
   refine ⟨sv ((nd (n / 10)) ++ ([chr (48 + ((n % 10 : Nat) : Int))])), [], Out.one rfl rfl, (Some'.weak (.nil _)), ?_⟩
   show _ = _; rw [nd_ge (n := n) (by omega), nd_lt (n := n / 10) (by omega)]


theorem l1Num_I {a : Int} (h0 : 0 ≤ a) (h1 : a < 100) (w : World) : Calls Tryz.prog 42 #[.int .i64 a] w (Post No w fun v _ => v = sv (nd a.toNat)) := by
  have h := l1Num_spec (n := a.toNat) (by omega) w
  rwa [show ((a.toNat : Nat) : Int) = a by omega] at h
theorem l4Name_I {k : Int} (h0 : 0 ≤ k) (h1 : k < 13) (w : World) : Calls Tryz.prog 70 #[.int .i64 k] w (Post No w fun v _ => v = sv (stx gnames k.toNat)) := by
  have h := l4Name_spec (k := k.toNat) (by omega) w
  rwa [show ((k.toNat : Nat) : Int) = k by omega] at h

set_option maxHeartbeats 1000000 in
set_option maxRecDepth 20000 in
theorem FormatGate_spec {k a b : Int} {w : World} (hg : Gl w) (hok : gateOk 5 k a b = true) : Calls Tryz.prog 67 #[.agg #[.int .i64 k, .int .i64 a, .int .i64 b]] w (Post No w fun v _ => v = .tuple #[sv (gtx (k, a, b)), .bool true]) := by
 have hsp := gateOk_split hok
 refine enter (n := 31) (args := [.agg #[.int .i64 k, .int .i64 a, .int .i64 b]]) Tryz.func67 rfl rfl (St.empty _ _) ?_
 refine .sr ?_
 refine .step rfl (.box (us := [.int .i64 k, .int .i64 a, .int .i64 b]) rfl fun b1 => ?_)
 refine .w (sv ([])) ?_
 refine .m ?_
 refine .done ?_
 refine .seq ?_
 refine .sr ?_
 refine .u (.agg #[.int .i64 k, .int .i64 a, .int .i64 b]) (.loadN (cs := [.int .i64 k, .int .i64 a, .int .i64 b]) Tagg_69 rfl (Cells.blk (.head _) ⟨rfl, rfl, rfl, trivial⟩)) ?_
 refine .c (.bool true) [.int .i64 5, .agg #[.int .i64 k, .int .i64 a, .int .i64 b]] Tcall_65 (fun w hs => (by have h := IsValidGate_spec (n := 5) (k := k) (a := a) (b := b) (by omega) w; rw [hok] at h; exact h)) ?_
 refine .w (.bool false) ?_
 refine .done ?_
 refine .cond (b := false) rfl (fun h => nomatch h) (fun _ => ?_)
 refine .skip ?_
 refine .sr ?_
 refine .fa Tfo_69_0 ?_
 refine .u (.int .i64 k) (.load1 Tone_3 rfl (.b (.head _))) ?_
 refine .u (.pointer (some ⟨0, k.toNat, none⟩)) (.indexArr (kk := k.toNat) Tarr_125 rfl rfl (by omega) (by omega) (by first | rfl | omega)) ?_
 refine .u (sv (stx gnames (k.toNat))) (.load1 Tone_9 rfl (Cells.env (k := k.toNat) hg.nm rfl (by decide) (preS (show k.toNat < 13 by omega)))) ?_
 refine .w (sv (stx gnames (k.toNat))) ?_
 refine .done ?_
 refine .seq ?_
 refine .sr ?_
 refine .fa Tfo_69_0 ?_
 refine .u (.int .i64 k) (.load1 Tone_3 rfl (.b (.head _))) ?_
 refine .w (.bool (k != 12)) ?_
 refine .done ?_
 refine .cond (b := k != 12) rfl (fun h14 => ?_) (fun h14 => ?_)
 ·have p14 := h14; try simp only [bs] at p14
  refine .region ?_
  refine .w (sv (stx gnames (k.toNat))) ?_
  refine .fa Tfo_69_1 ?_
  refine .u (.int .i64 a) (.load1 Tone_3 rfl (.b (.head _))) ?_
  refine .c (sv (nd (a).toNat)) [.int .i64 a] Tcall_36 (fun w hs => Itoa_nd (hg.go hs) (by omega) (by omega)) ?_
  refine .u (sv (([32]) ++ (nd (a).toNat))) (.addS rfl rfl (by (have hq1 := @gnames_size k.toNat; have hq2 := nd_len a.toNat; have hq3 := nd_len b.toNat; simp only [List.length_append, List.length_cons, List.length_nil]; omega))) ?_
  refine .u (sv ((stx gnames (k.toNat)) ++ (([32]) ++ (nd (a).toNat)))) (.addS rfl rfl (by (have hq1 := @gnames_size k.toNat; have hq2 := nd_len a.toNat; have hq3 := nd_len b.toNat; simp only [List.length_append, List.length_cons, List.length_nil]; omega))) ?_
  refine .w (sv ((stx gnames (k.toNat)) ++ (([32]) ++ (nd (a).toNat)))) ?_
  refine .done ?_
  refine .seq ?_
  refine .sr ?_
  refine .fa Tfo_69_0 ?_
  refine .u (.int .i64 k) (.load1 Tone_3 rfl (.b (.head _))) ?_
  refine .c (.bool (decide (9 ≤ k ∧ k ≤ 11))) [.int .i64 k] Tcall_95 (fun w hs => isTwo_spec _ w) ?_
  refine .done ?_
  refine .cond (b := decide (9 ≤ k ∧ k ≤ 11)) rfl (fun h23 => ?_) (fun h23 => ?_)
  ·have p23 := h23; try simp only [bs] at p23
   refine .region ?_
   refine .w (sv ((stx gnames (k.toNat)) ++ (([32]) ++ (nd (a).toNat)))) ?_
   refine .fa Tfo_69_2 ?_
   refine .u (.int .i64 b) (.load1 Tone_3 rfl (.b (.head _))) ?_
   refine .c (sv (nd (b).toNat)) [.int .i64 b] Tcall_36 (fun w hs => Itoa_nd (hg.go hs) (by omega) (by omega)) ?_
   refine .u (sv (([32]) ++ (nd (b).toNat))) (.addS rfl rfl (by (have hq1 := @gnames_size k.toNat; have hq2 := nd_len a.toNat; have hq3 := nd_len b.toNat; simp only [List.length_append, List.length_cons, List.length_nil]; omega))) ?_
   refine .u (sv (((stx gnames (k.toNat)) ++ (([32]) ++ (nd (a).toNat))) ++ (([32]) ++ (nd (b).toNat)))) (.addS rfl rfl (by (have hq1 := @gnames_size k.toNat; have hq2 := nd_len a.toNat; have hq3 := nd_len b.toNat; simp only [List.length_append, List.length_cons, List.length_nil]; omega))) ?_
   refine .w (sv (((stx gnames (k.toNat)) ++ (([32]) ++ (nd (a).toNat))) ++ (([32]) ++ (nd (b).toNat)))) ?_
   refine .dsr ?_
   refine .w (sv (((stx gnames (k.toNat)) ++ (([32]) ++ (nd (a).toNat))) ++ (([32]) ++ (nd (b).toNat)))) ?_
   refine .w (sv (((stx gnames (k.toNat)) ++ (([32]) ++ (nd (a).toNat))) ++ (([32]) ++ (nd (b).toNat)))) ?_
   refine .m ?_
   refine .done ?_
   refine .ret ?_
   refine ⟨.tuple #[sv (((stx gnames (k.toNat)) ++ (([32]) ++ (nd (a).toNat))) ++ (([32]) ++ (nd (b).toNat))), .bool true], [], Out.two rfl rfl rfl, (Some'.weak (.nil _)), ?_⟩
   show _ = _; first | (rw [gtx_a p14]; done) | (rw [gtx_b p14 p23]; done) | (rw [gtx_c p14 p23]; done) | (exfalso; omega)
  have p23 := h23; try simp only [bs] at p23
  refine .skip ?_
  refine .sr ?_
  refine .w (sv ((stx gnames (k.toNat)) ++ (([32]) ++ (nd (a).toNat)))) ?_
  refine .w (sv ((stx gnames (k.toNat)) ++ (([32]) ++ (nd (a).toNat)))) ?_
  refine .m ?_
  refine .done ?_
  refine .ret ?_
  refine ⟨.tuple #[sv ((stx gnames (k.toNat)) ++ (([32]) ++ (nd (a).toNat))), .bool true], [], Out.two rfl rfl rfl, (Some'.weak (.nil _)), ?_⟩
  show _ = _; first | (rw [gtx_a p14]; done) | (rw [gtx_b p14 p23]; done) | (rw [gtx_c p14 p23]; done) | (exfalso; omega)
 have p14 := h14; try simp only [bs] at p14
 refine .skip ?_
 refine .seq ?_
 refine .sr ?_
 refine .fa Tfo_69_0 ?_
 refine .u (.int .i64 k) (.load1 Tone_3 rfl (.b (.head _))) ?_
 refine .c (.bool (decide (9 ≤ k ∧ k ≤ 11))) [.int .i64 k] Tcall_95 (fun w hs => isTwo_spec _ w) ?_
 refine .done ?_
 refine .cond (b := decide (9 ≤ k ∧ k ≤ 11)) rfl (fun h23 => ?_) (fun h23 => ?_)
 ·have p23 := h23; try simp only [bs] at p23
  refine .region ?_
  refine .w (sv (stx gnames (k.toNat))) ?_
  refine .fa Tfo_69_2 ?_
  refine .u (.int .i64 b) (.load1 Tone_3 rfl (.b (.head _))) ?_
  refine .c (sv (nd (b).toNat)) [.int .i64 b] Tcall_36 (fun w hs => Itoa_nd (hg.go hs) (by omega) (by omega)) ?_
  refine .u (sv (([32]) ++ (nd (b).toNat))) (.addS rfl rfl (by (have hq1 := @gnames_size k.toNat; have hq2 := nd_len a.toNat; have hq3 := nd_len b.toNat; simp only [List.length_append, List.length_cons, List.length_nil]; omega))) ?_
  refine .u (sv ((stx gnames (k.toNat)) ++ (([32]) ++ (nd (b).toNat)))) (.addS rfl rfl (by (have hq1 := @gnames_size k.toNat; have hq2 := nd_len a.toNat; have hq3 := nd_len b.toNat; simp only [List.length_append, List.length_cons, List.length_nil]; omega))) ?_
  refine .w (sv ((stx gnames (k.toNat)) ++ (([32]) ++ (nd (b).toNat)))) ?_
  refine .dsr ?_
  refine .w (sv ((stx gnames (k.toNat)) ++ (([32]) ++ (nd (b).toNat)))) ?_
  refine .w (sv ((stx gnames (k.toNat)) ++ (([32]) ++ (nd (b).toNat)))) ?_
  refine .m ?_
  refine .done ?_
  refine .ret ?_
  refine ⟨.tuple #[sv ((stx gnames (k.toNat)) ++ (([32]) ++ (nd (b).toNat))), .bool true], [], Out.two rfl rfl rfl, (Some'.weak (.nil _)), ?_⟩
  show _ = _; first | (rw [gtx_a p14]; done) | (rw [gtx_b p14 p23]; done) | (rw [gtx_c p14 p23]; done) | (exfalso; omega)
 have p23 := h23; try simp only [bs] at p23
 refine .skip ?_
 refine .sr ?_
 refine .w (sv (stx gnames (k.toNat))) ?_
 refine .w (sv (stx gnames (k.toNat))) ?_
 refine .m ?_
 refine .done ?_
 refine .ret ?_
 refine ⟨.tuple #[sv (stx gnames (k.toNat)), .bool true], [], Out.two rfl rfl rfl, (Some'.weak (.nil _)), ?_⟩
 show _ = _; first | (rw [gtx_a p14]; done) | (rw [gtx_b p14 p23]; done) | (rw [gtx_c p14 p23]; done) | (exfalso; omega)

set_option maxHeartbeats 1000000 in
set_option maxRecDepth 20000 in
theorem l4Text_spec {k a b : Int} (hok : gateOk 5 k a b = true) (w : World) : Calls Tryz.prog 44 #[.agg #[.int .i64 k, .int .i64 a, .int .i64 b]] w (Post No w fun v _ => v = sv (gtx (k, a, b))) := by
 have hsp := gateOk_split hok
 refine enter (n := 26) (args := [.agg #[.int .i64 k, .int .i64 a, .int .i64 b]]) Tryz.func44 rfl rfl (St.empty _ _) ?_
 refine .sr ?_
 refine .step rfl (.box (us := [.int .i64 k, .int .i64 a, .int .i64 b]) rfl fun b1 => ?_)
 refine .w (sv ([])) ?_
 refine .dsr ?_
 refine .fa Tfo_69_0 ?_
 refine .u (.int .i64 k) (.load1 Tone_3 rfl (.b (.head _))) ?_
 refine .c (sv (stx gnames k.toNat)) [.int .i64 k] Tcall_70 (fun w hs => l4Name_I (by omega) (by omega) w) ?_
 refine .w (sv (stx gnames k.toNat)) ?_
 refine .done ?_
 refine .seq ?_
 refine .sr ?_
 refine .fa Tfo_69_0 ?_
 refine .u (.int .i64 k) (.load1 Tone_3 rfl (.b (.head _))) ?_
 refine .w (.bool (k != 12)) ?_
 refine .done ?_
 refine .cond (b := k != 12) rfl (fun h9 => ?_) (fun h9 => ?_)
 ·have p9 := h9; try simp only [bs] at p9
  refine .region ?_
  refine .w (sv (stx gnames k.toNat)) ?_
  refine .fa Tfo_69_1 ?_
  refine .u (.int .i64 a) (.load1 Tone_3 rfl (.b (.head _))) ?_
  refine .c (sv (nd (a).toNat)) [.int .i64 a] Tcall_42 (fun w hs => l1Num_I (by omega) (by omega) w) ?_
  refine .u (sv (([32]) ++ (nd (a).toNat))) (.addS rfl rfl (by (have hq1 := @gnames_size k.toNat; have hq2 := nd_len a.toNat; have hq3 := nd_len b.toNat; simp only [List.length_append, List.length_cons, List.length_nil]; omega))) ?_
  refine .u (sv ((stx gnames k.toNat) ++ (([32]) ++ (nd (a).toNat)))) (.addS rfl rfl (by (have hq1 := @gnames_size k.toNat; have hq2 := nd_len a.toNat; have hq3 := nd_len b.toNat; simp only [List.length_append, List.length_cons, List.length_nil]; omega))) ?_
  refine .w (sv ((stx gnames k.toNat) ++ (([32]) ++ (nd (a).toNat)))) ?_
  refine .done ?_
  refine .seq ?_
  refine .sr ?_
  refine .fa Tfo_69_0 ?_
  refine .u (.int .i64 k) (.load1 Tone_3 rfl (.b (.head _))) ?_
  refine .c (.bool (decide (9 ≤ k ∧ k ≤ 11))) [.int .i64 k, .int .i64 9, .int .i64 11] Tcall_68 (fun w hs => (by have h := l1In_spec k 9 11 w; rw [within_dec] at h; exact h)) ?_
  refine .done ?_
  refine .cond (b := decide (9 ≤ k ∧ k ≤ 11)) rfl (fun h18 => ?_) (fun h18 => ?_)
  ·have p18 := h18; try simp only [bs] at p18
   refine .region ?_
   refine .w (sv ((stx gnames k.toNat) ++ (([32]) ++ (nd (a).toNat)))) ?_
   refine .fa Tfo_69_2 ?_
   refine .u (.int .i64 b) (.load1 Tone_3 rfl (.b (.head _))) ?_
   refine .c (sv (nd (b).toNat)) [.int .i64 b] Tcall_42 (fun w hs => l1Num_I (by omega) (by omega) w) ?_
   refine .u (sv (([32]) ++ (nd (b).toNat))) (.addS rfl rfl (by (have hq1 := @gnames_size k.toNat; have hq2 := nd_len a.toNat; have hq3 := nd_len b.toNat; simp only [List.length_append, List.length_cons, List.length_nil]; omega))) ?_
   refine .u (sv (((stx gnames k.toNat) ++ (([32]) ++ (nd (a).toNat))) ++ (([32]) ++ (nd (b).toNat)))) (.addS rfl rfl (by (have hq1 := @gnames_size k.toNat; have hq2 := nd_len a.toNat; have hq3 := nd_len b.toNat; simp only [List.length_append, List.length_cons, List.length_nil]; omega))) ?_
   refine .w (sv (((stx gnames k.toNat) ++ (([32]) ++ (nd (a).toNat))) ++ (([32]) ++ (nd (b).toNat)))) ?_
   refine .dsr ?_
   refine .w (sv (((stx gnames k.toNat) ++ (([32]) ++ (nd (a).toNat))) ++ (([32]) ++ (nd (b).toNat)))) ?_
   refine .w (sv (((stx gnames k.toNat) ++ (([32]) ++ (nd (a).toNat))) ++ (([32]) ++ (nd (b).toNat)))) ?_
   refine .done ?_
   refine .ret ?_
   refine ⟨sv (((stx gnames k.toNat) ++ (([32]) ++ (nd (a).toNat))) ++ (([32]) ++ (nd (b).toNat))), [], Out.one rfl rfl, (Some'.weak (.nil _)), ?_⟩
   show _ = _; first | (rw [gtx_a p9]; done) | (rw [gtx_b p9 p18]; done) | (rw [gtx_c p9 p18]; done) | (exfalso; omega)
  have p18 := h18; try simp only [bs] at p18
  refine .skip ?_
  refine .sr ?_
  refine .w (sv ((stx gnames k.toNat) ++ (([32]) ++ (nd (a).toNat)))) ?_
  refine .w (sv ((stx gnames k.toNat) ++ (([32]) ++ (nd (a).toNat)))) ?_
  refine .done ?_
  refine .ret ?_
  refine ⟨sv ((stx gnames k.toNat) ++ (([32]) ++ (nd (a).toNat))), [], Out.one rfl rfl, (Some'.weak (.nil _)), ?_⟩
  show _ = _; first | (rw [gtx_a p9]; done) | (rw [gtx_b p9 p18]; done) | (rw [gtx_c p9 p18]; done) | (exfalso; omega)
 have p9 := h9; try simp only [bs] at p9
 refine .skip ?_
 refine .seq ?_
 refine .sr ?_
 refine .fa Tfo_69_0 ?_
 refine .u (.int .i64 k) (.load1 Tone_3 rfl (.b (.head _))) ?_
 refine .c (.bool (decide (9 ≤ k ∧ k ≤ 11))) [.int .i64 k, .int .i64 9, .int .i64 11] Tcall_68 (fun w hs => (by have h := l1In_spec k 9 11 w; rw [within_dec] at h; exact h)) ?_
 refine .done ?_
 refine .cond (b := decide (9 ≤ k ∧ k ≤ 11)) rfl (fun h18 => ?_) (fun h18 => ?_)
 ·have p18 := h18; try simp only [bs] at p18
  refine .region ?_
  refine .w (sv (stx gnames k.toNat)) ?_
  refine .fa Tfo_69_2 ?_
  refine .u (.int .i64 b) (.load1 Tone_3 rfl (.b (.head _))) ?_
  refine .c (sv (nd (b).toNat)) [.int .i64 b] Tcall_42 (fun w hs => l1Num_I (by omega) (by omega) w) ?_
  refine .u (sv (([32]) ++ (nd (b).toNat))) (.addS rfl rfl (by (have hq1 := @gnames_size k.toNat; have hq2 := nd_len a.toNat; have hq3 := nd_len b.toNat; simp only [List.length_append, List.length_cons, List.length_nil]; omega))) ?_
  refine .u (sv ((stx gnames k.toNat) ++ (([32]) ++ (nd (b).toNat)))) (.addS rfl rfl (by (have hq1 := @gnames_size k.toNat; have hq2 := nd_len a.toNat; have hq3 := nd_len b.toNat; simp only [List.length_append, List.length_cons, List.length_nil]; omega))) ?_
  refine .w (sv ((stx gnames k.toNat) ++ (([32]) ++ (nd (b).toNat)))) ?_
  refine .dsr ?_
  refine .w (sv ((stx gnames k.toNat) ++ (([32]) ++ (nd (b).toNat)))) ?_
  refine .w (sv ((stx gnames k.toNat) ++ (([32]) ++ (nd (b).toNat)))) ?_
  refine .done ?_
  refine .ret ?_
  refine ⟨sv ((stx gnames k.toNat) ++ (([32]) ++ (nd (b).toNat))), [], Out.one rfl rfl, (Some'.weak (.nil _)), ?_⟩
  show _ = _; first | (rw [gtx_a p9]; done) | (rw [gtx_b p9 p18]; done) | (rw [gtx_c p9 p18]; done) | (exfalso; omega)
 have p18 := h18; try simp only [bs] at p18
 refine .skip ?_
 refine .sr ?_
 refine .w (sv (stx gnames k.toNat)) ?_
 refine .w (sv (stx gnames k.toNat)) ?_
 refine .done ?_
 refine .ret ?_
 refine ⟨sv (stx gnames k.toNat), [], Out.one rfl rfl, (Some'.weak (.nil _)), ?_⟩
 show _ = _; first | (rw [gtx_a p9]; done) | (rw [gtx_b p9 p18]; done) | (rw [gtx_c p9 p18]; done) | (exfalso; omega)

set_option maxHeartbeats 1000000 in
set_option maxRecDepth 20000 in
theorem gateLines_spec {va : Value} {n : Nat} {L : List G3} {w : World} (hg : Gl w) (ha : Sl w va 3 n (ints (fl L))) (hL : GsOk 5 L) (hn : n ≤ 1000) : Calls Tryz.prog 37 #[va] w (Post No w fun v _ => v = sv (gls L)) := by
 have hLn : L.length = n := by have h := ha.len; have h2 := fl_len L; omega
 obtain ⟨A, c, rfl, _, _⟩ := ha.form0
 refine enter (n := 25) (args := [.slice A n c]) Tryz.func37 rfl rfl (St.empty _ _) ?_
 refine .sr ?_
 refine .w (sv ([])) ?_
 refine .dsr ?_
 refine .w (sv ([])) ?_
 refine .done ?_
 refine .seq ?_
 refine .sr ?_
 refine .m ?_
 refine .u (.int .i64 (((n : Nat) : Int))) (.len Tsl_22 rfl) ?_
 refine .m ?_
 refine .done ?_
 refine .block ?_
 refine Run.loop (ι := Nat) [3, 5, 6, 7, 10, 11, 12, 13, 14, 15, 16, 17, 18, 19, 20, 21, 22, 23] (fun k => [(3, sv (gls (L.take k))), (10, .int .i64 (((k : Nat) : Int)))]) (fun k => []) (fun k => k ≤ n) (fun k => n - k) 0 ?_ ?_ ?_ ?_
 ·exact Nat.zero_le _
 ·exact ⟨rfl, rfl, trivial⟩
 ·exact (Some'.weak (.nil _))
 rintro k fr hinv
 show Run _ _ (over _ _ [(3, sv (gls (L.take k))), (10, .int .i64 (((k : Nat) : Int)))] fr) []
 try dsimp only at hinv
 refine .sr ?_
 refine .w (.bool (decide ((((k : Nat) : Int)) < (((n : Nat) : Int))))) ?_
 refine .done ?_
 refine .seq ?_
 refine .cond (b := decide ((((k : Nat) : Int)) < (((n : Nat) : Int)))) rfl (fun h11 => ?_) (fun h11 => ?_)
 ·have p11 := h11; try simp only [bs] at p11
  have hltk : k < n := by omega
  have hfll := fl_len L
  have hfx := fl_ix (L := L) (k := k) (by omega)
  obtain ⟨⟨g, a, e⟩, hgx⟩ : ∃ q, gx L k = q := ⟨_, rfl⟩
  rw [hgx] at hfx
  have hgm := hL (gx L k) (gx_mem (by omega))
  rw [hgx] at hgm
  simp only at hfx hgm
  have hgt := gls_take (L := L) (k := k) (by omega) hgx
  have hgl := gls_len (L.take k)
  rw [List.length_take, Nat.min_eq_left (by omega)] at hgl
  have hg1 := gtx_len (g, a, e)
  obtain ⟨b, o, rfl⟩ := ha.opn (by omega)
  refine .skip ?_
  refine .seq ?_
  refine .block ?_
  refine .sr ?_
  refine .u (.pointer (some ⟨b, o + k * 3, none⟩)) (.ix k Tsl_22) ?_
  refine .u (.agg #[.int .i64 g, .int .i64 a, .int .i64 e]) (.loadN (cs := [.int .i64 g, .int .i64 a, .int .i64 e]) Tagg_69 rfl (Cells.arg (k := k * 3) ha rfl (by omega) (by have h := pre3 (xs := fl L) (o := k * 3) (by omega); rw [hfx.1, hfx.2.1, hfx.2.2] at h; exact h))) ?_
  refine .step rfl (.alloc (zs := [.int .i64 0, .int .i64 0, .int .i64 0]) Tzero_69 fun b1 => ?_)
  refine .step rfl (.storeAll (us := [.int .i64 g, .int .i64 a, .int .i64 e]) Tsize_69 rfl rfl rfl (.here _) rfl ?_)
  refine .dsr ?_
  refine .u (.agg #[.int .i64 g, .int .i64 a, .int .i64 e]) (.loadN (cs := [.int .i64 g, .int .i64 a, .int .i64 e]) Tagg_69 rfl (Cells.blk (.head _) ⟨rfl, rfl, rfl, trivial⟩)) ?_
  refine .c (.tuple #[sv (gtx (g, a, e)), .bool true]) [.agg #[.int .i64 g, .int .i64 a, .int .i64 e]] Tcall_67 (fun w hs => FormatGate_spec (hg.go hs) hgm) ?_
  refine .w (.tuple #[sv (gtx (g, a, e)), .bool true]) ?_
  refine .w (sv (gtx (g, a, e))) ?_
  refine .w (.bool true) ?_
  refine .w (sv (gtx (g, a, e))) ?_
  refine .m ?_
  refine .dr ?_
  refine .w (sv (gls (L.take k))) ?_
  refine .w (sv (gtx (g, a, e))) ?_
  refine .u (sv ((gtx (g, a, e)) ++ ([10]))) (.addS rfl rfl (by first | omega | (simp only [List.length_append, List.length_cons, List.length_nil]; omega))) ?_
  refine .u (sv ((gls (L.take k)) ++ ((gtx (g, a, e)) ++ ([10])))) (.addS rfl rfl (by first | omega | (simp only [List.length_append, List.length_cons, List.length_nil]; omega))) ?_
  refine .w (sv ((gls (L.take k)) ++ ((gtx (g, a, e)) ++ ([10])))) ?_
  refine .done ?_
  refine .blockEnd ?_
  refine .region ?_
  refine .u (.int .i64 ((((k : Nat) : Int)) + 1)) (.add rfl rfl rfl (by omega) (by omega)) ?_
  refine .m ?_
  refine .done ?_
  refine .goal ⟨(by repeat (first | exact Same.refl _ _ | refine Same.put rfl ?_ | refine Same.over rfl rfl ?_)), k + 1, ?_, ?_, ?_, ?_⟩
  ·show k + 1 ≤ n; omega
  ·omega
  ·exact ⟨(congrArg sv hgt.symm), (by first | rfl | (congr 1; omega) | simp), trivial⟩
  ·exact (Some'.weak (.nil _))
 have p11 := h11; try simp only [bs] at p11
 have hkn : k = n := by omega
 have htk : L.take k = L := by rw [hkn, ← hLn, List.take_length]
 refine .exit rfl ?_
 refine .sr ?_
 refine .w (sv (gls (L.take k))) ?_
 refine .w (sv (gls (L.take k))) ?_
 refine .done ?_
 refine .ret ?_
 refine ⟨sv (gls (L.take k)), [], Out.one rfl rfl, (Some'.weak (.nil _)), ?_⟩
 show _ = _; rw [htk]

set_option maxHeartbeats 1000000 in
set_option maxRecDepth 20000 in
theorem l5Format_spec {N : Int} {va : Value} {n : Nat} {L : List G3} {w : World} (ha : Sl w va 3 n (ints (fl L))) (hN : 1 ≤ N ∧ N ≤ 5) (hL : GsOk 5 L) (hn : n ≤ 1000) : Calls Tryz.prog 39 #[.agg #[.int .i64 N, va]] w (Post No w fun v _ => v = sv (cfm N L)) := by
 have hLn : L.length = n := by have h := ha.len; have h2 := fl_len L; omega
 obtain ⟨A, c, rfl, _, _⟩ := ha.form0
 have hh := hdT_len N
 have hnd := nd_len N.toNat
 have hwq : wQs.length = 7 := rfl
 have hst0 : wQs ++ nd N.toNat ++ [10] = hdT N ++ gls (L.take 0) := by simp [hdT, gls]
 refine enter (n := 25) (args := [.agg #[.int .i64 N, .slice A n c]]) Tryz.func39 rfl rfl (St.empty _ _) ?_
 refine .sr ?_
 refine .step rfl (.box (us := [.int .i64 N, .slice A n c]) rfl fun b1 => ?_)
 refine .w (sv ([])) ?_
 refine .dsr ?_
 refine .fa Tfo_24_0 ?_
 refine .u (.int .i64 N) (.load1 Tone_3 rfl (.b (.head _))) ?_
 refine .c (sv (nd N.toNat)) [.int .i64 N] Tcall_42 (fun w hs => l1Num_I (by omega) (by omega) w) ?_
 refine .u (sv (wQs ++ (nd N.toNat))) (.addS rfl rfl (by first | omega | (simp only [List.length_append, List.length_cons, List.length_nil]; omega))) ?_
 refine .u (sv ((wQs ++ (nd N.toNat)) ++ ([10]))) (.addS rfl rfl (by first | omega | (simp only [List.length_append, List.length_cons, List.length_nil]; omega))) ?_
 refine .w (sv ((wQs ++ (nd N.toNat)) ++ ([10]))) ?_
 refine .done ?_
 refine .seq ?_
 refine .sr ?_
 refine .fa Tfo_24_1 ?_
 refine .u (.slice A n c) (.load1 Tone_22 rfl (.b (.head _))) ?_
 refine .u (.int .i64 (((n : Nat) : Int))) (.len Tsl_22 rfl) ?_
 refine .m ?_
 refine .done ?_
 refine .block ?_
 refine Run.loop (ι := Nat) [3, 5, 14, 15, 16, 17, 18, 19, 20, 21, 22, 23] (fun k => [(3, sv (hdT N ++ gls (L.take k))), (14, .int .i64 (((k : Nat) : Int)))]) (fun k => [.blk b1 24 [.int .i64 N, .slice A n c]]) (fun k => k ≤ n) (fun k => n - k) 0 ?_ ?_ ?_ ?_
 ·exact Nat.zero_le _
 ·exact ⟨(congrArg sv hst0), rfl, trivial⟩
 ·exact (Some'.weak (.take (.nil _)))
 rintro k fr hinv
 show Run _ _ (over _ _ [(3, sv (hdT N ++ gls (L.take k))), (14, .int .i64 (((k : Nat) : Int)))] fr) [.blk b1 24 [.int .i64 N, .slice A n c]]
 try dsimp only at hinv
 refine .sr ?_
 refine .w (.bool (decide ((((k : Nat) : Int)) < (((n : Nat) : Int))))) ?_
 refine .done ?_
 refine .seq ?_
 refine .cond (b := decide ((((k : Nat) : Int)) < (((n : Nat) : Int)))) rfl (fun h15 => ?_) (fun h15 => ?_)
 ·have p15 := h15; try simp only [bs] at p15
  have hltk : k < n := by omega
  have hfll := fl_len L
  have hfx := fl_ix (L := L) (k := k) (by omega)
  obtain ⟨⟨g, a, e⟩, hgx⟩ : ∃ q, gx L k = q := ⟨_, rfl⟩
  rw [hgx] at hfx
  have hgm := hL (gx L k) (gx_mem (by omega))
  rw [hgx] at hgm
  simp only at hfx hgm
  have hgt := gls_take (L := L) (k := k) (by omega) hgx
  have hgl := gls_len (L.take k)
  rw [List.length_take, Nat.min_eq_left (by omega)] at hgl
  have hg1 := gtx_len (g, a, e)
  have hgt2 : hdT N ++ gls (L.take k) ++ (gtx (g, a, e) ++ [10]) = hdT N ++ gls (L.take (k + 1)) := by rw [hgt, List.append_assoc]
  obtain ⟨b, o, rfl⟩ := ha.opn (by omega)
  refine .skip ?_
  refine .seq ?_
  refine .block ?_
  refine .sr ?_
  refine .u (.pointer (some ⟨b, o + k * 3, none⟩)) (.ix k Tsl_22) ?_
  refine .u (.agg #[.int .i64 g, .int .i64 a, .int .i64 e]) (.loadN (cs := [.int .i64 g, .int .i64 a, .int .i64 e]) Tagg_69 rfl (Cells.arg (k := k * 3) ha rfl (by omega) (by have h := pre3 (xs := fl L) (o := k * 3) (by omega); rw [hfx.1, hfx.2.1, hfx.2.2] at h; exact h))) ?_
  refine .step rfl (.alloc (zs := [.int .i64 0, .int .i64 0, .int .i64 0]) Tzero_69 fun b2 => ?_)
  refine .step rfl (.storeAll (us := [.int .i64 g, .int .i64 a, .int .i64 e]) Tsize_69 rfl rfl rfl (.here _) rfl ?_)
  refine .dr ?_
  refine .w (sv (hdT N ++ gls (L.take k))) ?_
  refine .u (.agg #[.int .i64 g, .int .i64 a, .int .i64 e]) (.loadN (cs := [.int .i64 g, .int .i64 a, .int .i64 e]) Tagg_69 rfl (Cells.blk (.head _) ⟨rfl, rfl, rfl, trivial⟩)) ?_
  refine .c (sv (gtx (g, a, e))) [.agg #[.int .i64 g, .int .i64 a, .int .i64 e]] Tcall_44 (fun w hs => l4Text_spec hgm w) ?_
  refine .u (sv ((gtx (g, a, e)) ++ ([10]))) (.addS rfl rfl (by first | omega | (simp only [List.length_append, List.length_cons, List.length_nil]; omega))) ?_
  refine .u (sv ((hdT N ++ gls (L.take k)) ++ ((gtx (g, a, e)) ++ ([10])))) (.addS rfl rfl (by first | omega | (simp only [List.length_append, List.length_cons, List.length_nil]; omega))) ?_
  refine .w (sv ((hdT N ++ gls (L.take k)) ++ ((gtx (g, a, e)) ++ ([10])))) ?_
  refine .done ?_
  refine .blockEnd ?_
  refine .region ?_
  refine .u (.int .i64 ((((k : Nat) : Int)) + 1)) (.add rfl rfl rfl (by omega) (by omega)) ?_
  refine .m ?_
  refine .done ?_
  refine .goal ⟨(by repeat (first | exact Same.refl _ _ | refine Same.put rfl ?_ | refine Same.over rfl rfl ?_)), k + 1, ?_, ?_, ?_, ?_⟩
  ·show k + 1 ≤ n; omega
  ·omega
  ·exact ⟨(congrArg sv hgt2), (by first | rfl | (congr 1; omega) | simp), trivial⟩
  ·exact (Some'.weak (.skip (.takeEq (by first | rfl | simp) (.nil _))))
 have p15 := h15; try simp only [bs] at p15
 have hkn : k = n := by omega
 have htk : L.take k = L := by rw [hkn, ← hLn, List.take_length]
 refine .exit rfl ?_
 refine .sr ?_
 refine .w (sv (hdT N ++ gls (L.take k))) ?_
 refine .w (sv (hdT N ++ gls (L.take k))) ?_
 refine .done ?_
 refine .ret ?_
 refine ⟨sv (hdT N ++ gls (L.take k)), [], Out.one rfl rfl, (Some'.weak (.nil _)), ?_⟩
 show _ = _; rw [htk]; rfl

set_option maxHeartbeats 1000000 in
set_option maxRecDepth 20000 in
theorem FormatCircuit_spec {N : Int} {va : Value} {n : Nat} {L : List G3} {w : World} (hg : Gl w) (ha : Sl w va 3 n (ints (fl L))) : Calls Tryz.prog 14 #[.agg #[.int .i64 N, va]] w (Post No w fun v _ => v = .tuple #[sv (fmtO N L n), .bool (circOk N (fl L) n)]) := by
 refine enter (n := 16) (args := [.agg #[.int .i64 N, va]]) Tryz.func14 rfl rfl (St.empty _ _) ?_
 refine .sr ?_
 refine .step rfl (.box (us := [.int .i64 N, va]) rfl fun b1 => ?_)
 refine .w (sv ([])) ?_
 refine .m ?_
 refine .done ?_
 refine .seq ?_
 refine .sr ?_
 refine .u (.agg #[.int .i64 N, va]) (.loadN (cs := [.int .i64 N, va]) Tagg_24 rfl (Cells.blk (.head _) ⟨rfl, rfl, trivial⟩)) ?_
 refine .c (.bool (circOk N (fl L) n)) [.agg #[.int .i64 N, va]] Tcall_35 (fun w hs => IsValidCircuit_spec (hs.sl ha)) ?_
 refine .w (.bool (!(circOk N (fl L) n))) ?_
 refine .done ?_
 refine .cond (b := !(circOk N (fl L) n)) rfl (fun h6 => ?_) (fun h6 => ?_)
 ·have p6 := h6; try simp only [bs] at p6
  refine .sr ?_
  refine .w (sv ([])) ?_
  refine .m ?_
  refine .done ?_
  refine .ret ?_
  refine ⟨.tuple #[sv ([]), .bool false], [], Out.two rfl rfl rfl, (Some'.weak (.nil _)), ?_⟩
  first | (rw [fmt_yes p6, p6]; done) | (rw [fmt_yes p6, p6]; rfl) | (rw [fmt_no p6, p6])
 have p6 := h6; try simp only [bs] at p6
 have hN := circOk_N p6
 have hn4 := circOk_n p6
 have hLn : L.length = n := by have h := ha.len; have h2 := fl_len L; omega
 have hL := (circ_gs hLn p6).five hN.2
 have hgl := gls_len L
 have hnd := nd_len N.toNat
 have hwq : wQs.length = 7 := rfl
 refine .skip ?_
 refine .seq ?_
 refine .draws (by kernel_rfl) (by kernel_rfl) ?_
 refine .u (.pointer (some ⟨b1, 0, none⟩)) (.fieldAddr Tfo_24_0 rfl rfl) ?_
 refine .u (.int .i64 N) (.load1 Tone_3 rfl (.b (.head _))) ?_
 refine Lex.q (v := sv (nd N.toNat)) rfl (OpQ.call (vs := [.int .i64 N]) (caps := []) Tcall_36 rfl rfl (fun w hs => Itoa_nd (hg.go hs) (by omega) (by omega))) ?_
 refine .u (sv (wQs ++ (nd N.toNat))) (.addS rfl rfl (by first | omega | (simp only [List.length_append, List.length_cons, List.length_nil]; omega))) ?_
 refine .u (sv ((wQs ++ (nd N.toNat)) ++ ([10]))) (.addS rfl rfl (by first | omega | (simp only [List.length_append, List.length_cons, List.length_nil]; omega))) ?_
 refine .u (.pointer (some ⟨b1, 1, none⟩)) (.fieldAddr Tfo_24_1 rfl rfl) ?_
 refine .u va (.load1 Tone_22 rfl (.b (.head _))) ?_
 refine Lex.q (v := sv (gls L)) rfl (OpQ.call (vs := [va]) (caps := []) Tcall_37 rfl rfl (fun w hs => gateLines_spec (hg.go hs) (hs.sl ha) hL (by omega))) ?_
 refine .u (sv (((wQs ++ (nd N.toNat)) ++ ([10])) ++ (gls L))) (.addS rfl rfl (by first | omega | (simp only [List.length_append, List.length_cons, List.length_nil]; omega))) ?_
 refine .w (sv (((wQs ++ (nd N.toNat)) ++ ([10])) ++ (gls L))) ?_
 refine .m ?_
 refine .done ?_
 refine .ret ?_
 refine ⟨.tuple #[sv (((wQs ++ (nd N.toNat)) ++ ([10])) ++ (gls L)), .bool true], [], Out.two rfl rfl rfl, (Some'.weak (.nil _)), ?_⟩
 first | (rw [fmt_yes p6, p6]; done) | (rw [fmt_yes p6, p6]; rfl) | (rw [fmt_no p6, p6])

set_option maxHeartbeats 1000000 in
set_option maxRecDepth 20000 in
theorem sFormatCircuit_spec {N : Int} {va : Value} {n : Nat} {L : List G3} {w : World} (ha : Sl w va 3 n (ints (fl L))) : Calls Tryz.prog 15 #[.agg #[.int .i64 N, va]] w (Post No w fun v _ => v = .tuple #[sv (fmtO N L n), .bool (circOk N (fl L) n)]) := by
 refine enter (n := 9) (args := [.agg #[.int .i64 N, va]]) Tryz.func15 rfl rfl (St.empty _ _) ?_
 refine .sr ?_
 refine .step rfl (.box (us := [.int .i64 N, va]) rfl fun b1 => ?_)
 refine .w (sv ([])) ?_
 refine .m ?_
 refine .done ?_
 refine .seq ?_
 refine .sr ?_
 refine .u (.agg #[.int .i64 N, va]) (.loadN (cs := [.int .i64 N, va]) Tagg_24 rfl (Cells.blk (.head _) ⟨rfl, rfl, trivial⟩)) ?_
 refine .c (.bool (circOk N (fl L) n)) [.agg #[.int .i64 N, va]] Tcall_38 (fun w hs => l4Good_spec (hs.sl ha)) ?_
 refine .w (.bool (!(circOk N (fl L) n))) ?_
 refine .done ?_
 refine .cond (b := !(circOk N (fl L) n)) rfl (fun h6 => ?_) (fun h6 => ?_)
 ·have p6 := h6; try simp only [bs] at p6
  refine .sr ?_
  refine .w (sv ([])) ?_
  refine .m ?_
  refine .done ?_
  refine .ret ?_
  refine ⟨.tuple #[sv ([]), .bool false], [], Out.two rfl rfl rfl, (Some'.weak (.nil _)), ?_⟩
  first | (rw [fmt_yes p6, p6]; done) | (rw [fmt_yes p6, p6]; rfl) | (rw [fmt_no p6, p6])
 have p6 := h6; try simp only [bs] at p6
 have hN := circOk_N p6
 have hn4 := circOk_n p6
 have hLn : L.length = n := by have h := ha.len; have h2 := fl_len L; omega
 have hL := (circ_gs hLn p6).five hN.2
 have hgl := gls_len L
 have hnd := nd_len N.toNat
 have hwq : wQs.length = 7 := rfl
 refine .skip ?_
 refine .sr ?_
 refine .u (.agg #[.int .i64 N, va]) (.loadN (cs := [.int .i64 N, va]) Tagg_24 rfl (Cells.blk (.head _) ⟨rfl, rfl, trivial⟩)) ?_
 refine .c (sv (cfm N L)) [.agg #[.int .i64 N, va]] Tcall_39 (fun w hs => l5Format_spec (hs.sl ha) hN hL (by omega)) ?_
 refine .w (sv (cfm N L)) ?_
 refine .m ?_
 refine .done ?_
 refine .ret ?_
 refine ⟨.tuple #[sv (cfm N L), .bool true], [], Out.two rfl rfl rfl, (Some'.weak (.nil _)), ?_⟩
 first | (rw [fmt_yes p6, p6]; done) | (rw [fmt_yes p6, p6]; rfl) | (rw [fmt_no p6, p6])

end Go.Proofs.YtgpkpopbajkklaaGreatDoor
/- Walks: circuits compared. -/
set_option linter.unusedSimpArgs false
set_option linter.unusedVariables false
namespace Go.Proofs.YtgpkpopbajkklaaGreatDoor
open Go Go.RowKit
namespace EqcT
theorem Tagg_69 : aggOf Tryz.prog 69 = some 3 := by kernel_rfl
theorem Tcall_45 : callable Tryz.prog 45 = true := by kernel_rfl
theorem Tfo_24_0 : fieldOff Tryz.prog 24 0 = some 0 := by kernel_rfl
theorem Tfo_24_1 : fieldOff Tryz.prog 24 1 = some 1 := by kernel_rfl
theorem Tns_69_3 : numStruct Tryz.prog 69 3 = true := by kernel_rfl
theorem Tone_22 : oneOf Tryz.prog 22 = true := by kernel_rfl
theorem Tone_3 : oneOf Tryz.prog 3 = true := by kernel_rfl
theorem Tsl_22 : sliceOf Tryz.prog 22 = some (69, 3, 24, [.int .i64 0, .int .i64 0, .int .i64 0]) := by kernel_rfl
end EqcT
open EqcT
def eqG1 (xs ys : List Int) (i : Nat) : Bool := decide ([ix xs (i * 3), ix xs (i * 3 + 1), ix xs (i * 3 + 2)] = [ix ys (i * 3), ix ys (i * 3 + 1), ix ys (i * 3 + 2)])
/-- Two lists of gates are equal. -/
def eqGs (xs : List Int) (n : Nat) (ys : List Int) (m : Nat) : Bool := decide (n = m) && allI (eqG1 xs ys) n
theorem eqGs_ne {xs ys : List Int} {n m : Nat} (h : n ≠ m) : eqGs xs n ys m = false := by simp [eqGs, h]
theorem eqGs_eq {xs ys : List Int} {n m : Nat} (h : n = m) (ha : ∀ i, i < n → eqG1 xs ys i = true) : eqGs xs n ys m = true := by
  simp only [eqGs, Bool.and_eq_true, decide_eq_true_eq]; exact ⟨h, allI_iff.2 ha⟩
theorem eqGs_no {xs ys : List Int} {n m k : Nat} (hk : k < n) (h : eqG1 xs ys k = false) : eqGs xs n ys m = false := by
  cases hb : eqGs xs n ys m with
  | false => rfl
  | true =>
    simp only [eqGs, Bool.and_eq_true] at hb
    rw [allI_iff.1 hb.2 k hk] at h; cases h

set_option maxHeartbeats 1000000 in
set_option maxRecDepth 20000 in
theorem EqualGates_spec {va vb : Value} {n m : Nat} {xs ys : List Int} {w : World} (ha : Sl w va 3 n (ints xs)) (hb : Sl w vb 3 m (ints ys)) : Calls Tryz.prog 45 #[va, vb] w (Post No w fun v _ => v = .bool (eqGs xs n ys m)) := by
 have hal := ha.len
 have hbl := hb.len
 have han := ha.le
 have hbn := hb.le
 obtain ⟨A, c, rfl, _, _⟩ := ha.form0
 obtain ⟨Ab, cb, rfl, _, _⟩ := hb.form0
 refine enter (n := 26) (args := [.slice A n c, .slice Ab m cb]) Tryz.func45 rfl rfl (St.empty _ _) ?_
 refine .sr ?_
 refine .m ?_
 refine .done ?_
 refine .seq ?_
 refine .sr ?_
 refine .m ?_
 refine .u (.int .i64 (((n : Nat) : Int))) (.len Tsl_22 rfl) ?_
 refine .m ?_
 refine .u (.int .i64 (((m : Nat) : Int))) (.len Tsl_22 rfl) ?_
 refine .w (.bool ((((n : Nat) : Int)) != (((m : Nat) : Int)))) ?_
 refine .done ?_
 refine .cond (b := (((n : Nat) : Int)) != (((m : Nat) : Int))) rfl (fun h10 => ?_) (fun h10 => ?_)
 ·have p10 := h10; try simp only [bs] at p10
  have hres : eqGs xs n ys m = false := eqGs_ne (by omega)
  refine .sr ?_
  refine .m ?_
  refine .done ?_
  refine .ret ?_
  refine ⟨.bool false, [], Out.one rfl rfl, (Some'.weak (.nil _)), ?_⟩
  show _ = _; rw [hres]
 have p10 := h10; try simp only [bs] at p10
 have hnm : n = m := by omega
 refine .skip ?_
 refine .seq ?_
 refine .sr ?_
 refine .m ?_
 refine .u (.int .i64 (((n : Nat) : Int))) (.len Tsl_22 rfl) ?_
 refine .m ?_
 refine .done ?_
 refine .block ?_
 refine Run.loop (ι := Nat) [4, 5, 13, 14, 15, 16, 17, 18, 19, 20, 21, 22, 23, 24, 25] (fun k => [(13, .int .i64 (((k : Nat) : Int)))]) (fun k => []) (fun k => k ≤ n ∧ (∀ i, i < k → eqG1 xs ys i = true)) (fun k => n - k) 0 ?_ ?_ ?_ ?_
 ·exact ⟨Nat.zero_le _, by first | trivial | (intro i hi; omega)⟩
 ·exact ⟨rfl, trivial⟩
 ·exact (Some'.weak (.nil _))
 rintro k fr hinv
 show Run _ _ (over _ _ [(13, .int .i64 (((k : Nat) : Int)))] fr) []
 try dsimp only at hinv
 refine .sr ?_
 refine .w (.bool (decide ((((k : Nat) : Int)) < (((n : Nat) : Int))))) ?_
 refine .done ?_
 refine .seq ?_
 refine .cond (b := decide ((((k : Nat) : Int)) < (((n : Nat) : Int)))) rfl (fun h14 => ?_) (fun h14 => ?_)
 ·have p14 := h14; try simp only [bs] at p14
  have hltk : k < n := by omega
  obtain ⟨b, o, rfl⟩ := ha.opn (by omega)
  obtain ⟨bb, ob, rfl⟩ := hb.opn (by omega)
  refine .skip ?_
  refine .seq ?_
  refine .block ?_
  refine .sr ?_
  iterate 2 refine .m ?_
  refine .done ?_
  refine .seq ?_
  refine .draws (by kernel_rfl) (by kernel_rfl) ?_
  iterate 2 refine .m ?_
  refine .u (.pointer (some ⟨b, o + k * 3, none⟩)) (.ix k Tsl_22) ?_
  refine .u (.agg #[.int .i64 (ix xs (k * 3)), .int .i64 (ix xs (k * 3 + 1)), .int .i64 (ix xs (k * 3 + 2))]) (.loadN (cs := [.int .i64 (ix xs (k * 3)), .int .i64 (ix xs (k * 3 + 1)), .int .i64 (ix xs (k * 3 + 2))]) Tagg_69 rfl (Cells.arg (k := k * 3) ha rfl (by omega) (pre3 (by omega)))) ?_
  iterate 2 refine .m ?_
  refine .u (.pointer (some ⟨bb, ob + k * 3, none⟩)) (.ix k Tsl_22) ?_
  refine .u (.agg #[.int .i64 (ix ys (k * 3)), .int .i64 (ix ys (k * 3 + 1)), .int .i64 (ix ys (k * 3 + 2))]) (.loadN (cs := [.int .i64 (ix ys (k * 3)), .int .i64 (ix ys (k * 3 + 1)), .int .i64 (ix ys (k * 3 + 2))]) Tagg_69 rfl (Cells.arg (k := k * 3) hb rfl (by omega) (pre3 (by omega)))) ?_
  refine .u (.bool (!decide ([ix xs (k * 3), ix xs (k * 3 + 1), ix xs (k * 3 + 2)] = [ix ys (k * 3), ix ys (k * 3 + 1), ix ys (k * 3 + 2)]))) (.neStruct (xs := [ix xs (k * 3), ix xs (k * 3 + 1), ix xs (k * 3 + 2)]) (ys := [ix ys (k * 3), ix ys (k * 3 + 1), ix ys (k * 3 + 2)]) Tns_69_3 rfl rfl rfl rfl) ?_
  refine .done ?_
  refine .cond (b := !decide ([ix xs (k * 3), ix xs (k * 3 + 1), ix xs (k * 3 + 2)] = [ix ys (k * 3), ix ys (k * 3 + 1), ix ys (k * 3 + 2)])) rfl (fun h24 => ?_) (fun h24 => ?_)
  ·have p24 := h24; try simp only [bs] at p24
   refine .seq ?_
   have hres : eqGs xs n ys m = false := eqGs_no hltk (by rw [eqG1]; exact (Bool.not_eq_true' _).mp h24)
   refine .region ?_
   refine .m ?_
   refine .done ?_
   refine .ret ?_
   refine ⟨.bool false, [], Out.one rfl rfl, (Some'.weak (.nil _)), ?_⟩
   show _ = _; rw [hres]
  have p24 := h24; try simp only [bs] at p24
  have hgood : eqG1 xs ys k = true := by rw [eqG1]; exact (Bool.not_eq_false' _).mp h24
  refine .skip ?_
  refine .blockEnd ?_
  refine .region ?_
  refine .u (.int .i64 ((((k : Nat) : Int)) + 1)) (.add rfl rfl rfl (by omega) (by omega)) ?_
  refine .m ?_
  refine .done ?_
  refine .goal ⟨(by repeat (first | exact Same.refl _ _ | refine Same.put rfl ?_ | refine Same.over rfl rfl ?_)), k + 1, ?_, ?_, ?_, ?_⟩
  ·refine ⟨by omega, ?_⟩
   intro i hi
   rcases Nat.lt_succ_iff_lt_or_eq.1 hi with h | h
   ·exact hinv.2 i h
   ·rw [h]; exact hgood
  ·omega
  ·exact ⟨(by first | rfl | (congr 1; omega) | simp), trivial⟩
  ·exact (Some'.weak (.nil _))
 have p14 := h14; try simp only [bs] at p14
 have hknk : k = n := by omega
 refine .exit rfl ?_
 refine .seq ?_
 have hres : eqGs xs n ys m = true := eqGs_eq hnm fun i hi => hinv.2 i (by omega)
 refine .region ?_
 refine .m ?_
 refine .done ?_
 refine .ret ?_
 refine ⟨.bool true, [], Out.one rfl rfl, (Some'.weak (.nil _)), ?_⟩
 show _ = _; rw [hres]

set_option maxHeartbeats 1000000 in
set_option maxRecDepth 20000 in
theorem EqualCircuits_spec {N M : Int} {va vb : Value} {n m : Nat} {xs ys : List Int} {w : World} (ha : Sl w va 3 n (ints xs)) (hb : Sl w vb 3 m (ints ys)) : Calls Tryz.prog 19 #[.agg #[.int .i64 N, va], .agg #[.int .i64 M, vb]] w (Post No w fun v _ => v = .bool ((N == M) && eqGs xs n ys m)) := by
 refine enter (n := 17) (args := [.agg #[.int .i64 N, va], .agg #[.int .i64 M, vb]]) Tryz.func19 rfl rfl (St.empty _ _) ?_
 refine .sr ?_
 refine .step rfl (.box (us := [.int .i64 N, va]) rfl fun b1 => ?_)
 refine .step rfl (.box (us := [.int .i64 M, vb]) rfl fun b2 => ?_)
 refine .m ?_
 refine .dsr ?_
 refine .fa Tfo_24_0 ?_
 refine .u (.int .i64 N) (.load1 Tone_3 rfl (.b (.tail _ (.head _)))) ?_
 refine .fa Tfo_24_0 ?_
 refine .u (.int .i64 M) (.load1 Tone_3 rfl (.b (.head _))) ?_
 refine .w (.bool (N == M)) ?_
 rcases Bool.eq_false_or_eq_true (N == M) with h10 | h10
 ·refine .mb h10 ?_
  have p10 := h10; try simp only [bs] at p10
  refine .fa Tfo_24_1 ?_
  refine .u va (.load1 Tone_22 rfl (.b (.tail _ (.head _)))) ?_
  refine .fa Tfo_24_1 ?_
  refine .u vb (.load1 Tone_22 rfl (.b (.head _))) ?_
  refine .c (.bool (eqGs xs n ys m)) [va, vb] Tcall_45 (fun w hs => EqualGates_spec (hs.sl ha) (hs.sl hb)) ?_
  refine .w (.bool (eqGs xs n ys m)) ?_
  refine .m ?_
  refine .done ?_
  refine .ret ?_
  refine ⟨.bool (eqGs xs n ys m), [], Out.one rfl rfl, (Some'.weak (.nil _)), ?_⟩
  show _ = _
  first | rw [h10, Bool.true_and] | rw [h10, Bool.false_and]
 refine .mb h10 ?_
 have p10 := h10; try simp only [bs] at p10
 iterate 5 refine .pass rfl ?_
 refine .w (.bool false) ?_
 refine .m ?_
 refine .done ?_
 refine .ret ?_
 refine ⟨.bool false, [], Out.one rfl rfl, (Some'.weak (.nil _)), ?_⟩
 show _ = _
 first | rw [h10, Bool.true_and] | rw [h10, Bool.false_and]

end Go.Proofs.YtgpkpopbajkklaaGreatDoor
/- Plain: circuits folded. -/
set_option linter.unusedSimpArgs false
set_option linter.unusedVariables false
namespace Go.Proofs.YtgpkpopbajkklaaGreatDoor
open Go Go.RowKit
theorem OpY.mulN {E : Env} {f : Fr} {H : List Res} {d : Option Tmp} {ty : TypeId} {pos : String} {after : Array Edge} {gd : Option (Nat × Bool)} {t t' : TypeId} {x y : Operand} {a b : Nat} (hx : f.eval x = .int .i64 ((a : Nat) : Int)) (hy : f.eval y = .int .i64 ((b : Nat) : Int)) (h : a * b ≤ 4611686018427387904) :
    OpY E ⟨d, .binOp .mul t x y t', ty, pos, after, gd⟩ f H (.int .i64 ((a * b : Nat) : Int)) :=
  OpY.mul hx hy (by rw [Int.natCast_mul]) (by omega) (by omega)
theorem OpY.sliceLHN {E : Env} {f : Fr} {H : List Res} {d : Option Tmp} {ty : TypeId} {pos : String} {after : Array Edge} {gd : Option (Nat × Bool)} {t : TypeId} {x y z : Operand} {A : Option Addr} {n c l h : Nat} {e : TypeId} {size : Nat} {zz : Nat × List Value} (ht : sliceOf E.P t = some (e, size, zz)) (hx : f.eval x = .slice A n c) (hy : f.eval y = .int .i64 ((l : Nat) : Int)) (hz : f.eval z = .int .i64 ((h : Nat) : Int)) (h1 : l ≤ h) (h2 : h ≤ c) :
    OpY E ⟨d, .slice t x (some y) (some z) none, ty, pos, after, gd⟩ f H (sliced A l h c size) := by
  have := OpY.sliceLH (E := E) (H := H) (d := d) (ty := ty) (pos := pos) (after := after) (gd := gd) ht hx hy hz (by omega) (by omega) (by omega)
  rwa [Int.toNat_natCast, Int.toNat_natCast] at this
theorem Sl.capLe {w : World} {A : Option Addr} {n c size : Nat} {xs : List Value} (h : Sl w (.slice A n c) size n xs) : n ≤ c ∧ c ≤ maxLen := by
  obtain ⟨A', c', e, h1, h2⟩ := h.form0
  injection e with _ _ e3
  subst e3; exact ⟨h1, h2⟩
theorem fl_drop (L : List G3) : ∀ m, (fl L).drop (m * 3) = fl (L.drop m) := by
  induction L with
  | nil => intro m; simp [fl]
  | cons g L ih =>
    intro m
    cases m with
    | zero => simp
    | succ m =>
      have e1 : fl (g :: L) = g3 g ++ fl L := rfl
      rw [e1, show (m + 1) * 3 = 3 + m * 3 by omega, List.drop_append, List.drop_eq_nil_iff.2 (by rw [g3_len]; omega), List.nil_append, g3_len, Nat.add_sub_cancel_left, ih]
      rfl
theorem Sl.takeF {w : World} {A : Option Addr} {n c m : Nat} {L : List G3} (h : Sl w (.slice A n c) 3 n (ints (fl L))) (hm : m ≤ n) : Sl w (.slice A m c) 3 m (ints (fl (L.take m))) := by
  have := Sl.take h hm
  rwa [fl_take] at this
theorem ints_drop' (l : List Int) (m : Nat) : (ints l).drop m = ints (l.drop m) := by simp [ints, List.map_drop]
theorem Sl.dropF {w : World} {A : Option Addr} {n c l : Nat} {L : List G3} (h : Sl w (.slice A n c) 3 n (ints (fl L))) (hl : l ≤ n) : ∃ A2 c2, sliced A l n c 3 = .slice A2 (n - l) c2 ∧ Sl w (.slice A2 (n - l) c2) 3 (n - l) (ints (fl (L.drop l))) := by
  obtain ⟨A2, c2, h1, _, h2⟩ := h.slicedE hl
  rw [ints_drop', fl_drop] at h2
  exact ⟨A2, c2, h1, h2⟩
theorem Sl.midF {w : World} {A : Option Addr} {n c l h : Nat} {L : List G3} (hs : Sl w (.slice A n c) 3 n (ints (fl L))) (hl : l ≤ h) (hh : h ≤ n) : Sl w (sliced A l h c 3) 3 (h - l) (ints (fl ((L.take h).drop l))) := by
  obtain ⟨A2, c2, h1, h2⟩ := (hs.takeF hh).dropF hl
  rw [h1]; exact h2
theorem gx_dec {L M : List G3} {i j : Nat} (hi : i < L.length) (hj : j < M.length) : decide ([ix (fl L) (i * 3), ix (fl L) (i * 3 + 1), ix (fl L) (i * 3 + 2)] = [ix (fl M) (j * 3), ix (fl M) (j * 3 + 1), ix (fl M) (j * 3 + 2)]) = decide (gx L i = gx M j) := by
  obtain ⟨a1, a2, a3⟩ := fl_ix hi
  obtain ⟨b1, b2, b3⟩ := fl_ix hj
  rw [a1, a2, a3, b1, b2, b3]
  congr 1
  rw [eq_iff_iff]
  constructor
  · intro h
    simp only [List.cons.injEq, and_true] at h
    exact Prod.ext h.1 (Prod.ext h.2.1 h.2.2)
  · intro h; rw [h]
/-! ### How often the first gates are repeated -/
def rpB (L : List G3) (m c : Nat) : Bool := allI (fun k => decide (gx L (c * m + k) = gx L k)) m
def tmB (L : List G3) (m c : Nat) : Bool := decide ((c + 1) * m ≤ L.length) && (decide (c < 99) && rpB L m c)
theorem tmB_no1 {L : List G3} {m c : Nat} (h : ¬ (c + 1) * m ≤ L.length) : tmB L m c = false := by rw [tmB, decide_eq_false h, Bool.false_and]
theorem tmB_no2 {L : List G3} {m c : Nat} (h : ¬ c < 99) : tmB L m c = false := by rw [tmB, decide_eq_false h, Bool.false_and, Bool.and_false]
theorem tmB_no3 {L : List G3} {m c : Nat} (h : rpB L m c = false) : tmB L m c = false := by rw [tmB, h, Bool.and_false, Bool.and_false]
theorem tmB_yes {L : List G3} {m c : Nat} (h : (c + 1) * m ≤ L.length) (h2 : c < 99) (h3 : rpB L m c = true) : tmB L m c = true := by rw [tmB, decide_eq_true h, decide_eq_true h2, h3]; rfl
theorem tmB_iff {L : List G3} {m c : Nat} (h : tmB L m c = true) : (c + 1) * m ≤ L.length ∧ c < 99 ∧ rpB L m c = true := by
  simpa only [tmB, Bool.and_eq_true, decide_eq_true_eq] using h
def tms (L : List G3) (m : Nat) : Nat := (findI (fun i => !tmB L m (i + 1)) 99 + 1).toNat
theorem tms_hit {L : List G3} {m c : Nat} (h1 : 1 ≤ c) (hlow : ∀ i, 1 ≤ i → i < c → tmB L m i = true) (hc : tmB L m c = false) : tms L m = c := by
  have h9 : c ≤ 99 := by
    refine Decidable.byContradiction fun h => ?_
    have := (tmB_iff (hlow 99 (by decide) (by omega))).2.1
    omega
  have : findI (fun i => !tmB L m (i + 1)) 99 = ((c - 1 : Nat) : Int) := by
    refine findI_hit (fun i hi => ?_) ?_ (by omega)
    · show (!tmB L m (i + 1)) = false
      rw [hlow (i + 1) (by omega) (by omega)]; rfl
    · show (!tmB L m (c - 1 + 1)) = true
      rw [show c - 1 + 1 = c by omega, hc]; rfl
  rw [tms, this]; omega
theorem tms_prop (L : List G3) (m : Nat) : 1 ≤ tms L m ∧ tms L m ≤ 99 ∧ ∀ i, 1 ≤ i → i < tms L m → tmB L m i = true := by
  obtain ⟨c, ⟨h1, h2⟩, h3⟩ := least_ex (p := fun c => 1 ≤ c ∧ tmB L m c = false) ⟨99, by decide, tmB_no2 (by decide)⟩
  have hlow : ∀ i, 1 ≤ i → i < c → tmB L m i = true := fun i hi hic => by
    cases hb : tmB L m i with
    | true => rfl
    | false => have := h3 i ⟨hi, hb⟩; omega
  have e := tms_hit h1 hlow h2
  rw [e]
  refine ⟨h1, h3 99 ⟨by decide, tmB_no2 (by decide)⟩, hlow⟩
theorem tms_len {L : List G3} {m : Nat} (h : 1 < tms L m) : tms L m * m ≤ L.length := by
  have := (tmB_iff ((tms_prop L m).2.2 (tms L m - 1) (by omega) (by omega))).1
  rwa [show tms L m - 1 + 1 = tms L m by omega] at this
theorem eq_rp {L : List G3} {m c n : Nat} (hn : L.length = n) (h : (c + 1) * m ≤ n) (h0 : m ≤ n) : eqGs (fl (L.take m)) m (fl ((L.take ((c + 1) * m)).drop (c * m))) ((c + 1) * m - c * m) = rpB L m c := by
  have hcm : (c + 1) * m = c * m + m := Nat.succ_mul c m
  have key : ∀ i, i < m → eqG1 (fl (L.take m)) (fl ((L.take ((c + 1) * m)).drop (c * m))) i = decide (gx L (c * m + i) = gx L i) := by
    intro i hi
    have e1 : gx (L.take m) i = gx L i := by simp [gx, List.getD, List.getElem?_take, hi]
    have e2 : gx ((L.take ((c + 1) * m)).drop (c * m)) i = gx L (c * m + i) := by
      simp [gx, List.getD, List.getElem?_take, List.getElem?_drop, show c * m + i < (c + 1) * m by omega]
    have h1 := gx_dec (L := L.take m) (M := (L.take ((c + 1) * m)).drop (c * m)) (i := i) (j := i) (by rw [List.length_take]; omega) (by rw [List.length_drop, List.length_take]; omega)
    rw [eqG1, h1, e1, e2]
    congr 1
    exact propext eq_comm
  have e : (c + 1) * m - c * m = m := by omega
  rw [eqGs, e, decide_eq_true rfl, Bool.true_and, rpB]
  cases hb : allI (fun k => decide (gx L (c * m + k) = gx L k)) m with
  | true => exact allI_iff.2 fun i hi => by rw [key i hi]; exact allI_iff.1 hb i hi
  | false =>
    cases hb2 : allI (eqG1 (fl (L.take m)) (fl ((L.take ((c + 1) * m)).drop (c * m)))) m with
    | false => rfl
    | true =>
      have : allI (fun k => decide (gx L (c * m + k) = gx L k)) m = true := allI_iff.2 fun i hi => by rw [← key i hi]; exact allI_iff.1 hb2 i hi
      rw [hb] at this; cases this
/-! ### The best length -/
def bsl (L : List G3) : Nat → Nat × Nat
  | 0 => (0, 0)
  | j + 1 => if 1 < tms L (j + 1) ∧ (bsl L j).1 * (bsl L j).2 < tms L (j + 1) * (j + 1) then (j + 1, tms L (j + 1)) else bsl L j
theorem bsl_yes {L : List G3} {j : Nat} (h : 1 < tms L (j + 1)) (h2 : (bsl L j).1 * (bsl L j).2 < tms L (j + 1) * (j + 1)) : bsl L (j + 1) = (j + 1, tms L (j + 1)) := by rw [bsl, if_pos ⟨h, h2⟩]
theorem bsl_no {L : List G3} {j : Nat} (h : ¬ (1 < tms L (j + 1) ∧ (bsl L j).1 * (bsl L j).2 < tms L (j + 1) * (j + 1))) : bsl L (j + 1) = bsl L j := by rw [bsl, if_neg h]
theorem bsl_ok (L : List G3) : ∀ j, bsl L j = (0, 0) ∨ (1 ≤ (bsl L j).1 ∧ (bsl L j).1 ≤ j ∧ 2 ≤ (bsl L j).2 ∧ (bsl L j).2 = tms L (bsl L j).1)
  | 0 => .inl rfl
  | j + 1 => by
    rw [bsl]
    split
    · rename_i h; exact .inr ⟨by simp, by simp, h.1, rfl⟩
    · rcases bsl_ok L j with h | h
      · exact .inl h
      · exact .inr ⟨h.1, by omega, h.2.2⟩
theorem bsl_lim (L : List G3) (j : Nat) : (bsl L j).1 ≤ j ∧ (bsl L j).2 ≤ 99 := by
  rcases bsl_ok L j with h | h
  · rw [h]; simp
  · exact ⟨h.2.1, by rw [h.2.2.2]; exact (tms_prop _ _).2.1⟩
theorem bsl_mul (L : List G3) {j : Nat} (h : j ≤ 8) : (bsl L j).1 * (bsl L j).2 ≤ 800 := by
  have := bsl_lim L j
  exact Nat.le_trans (Nat.mul_le_mul (show (bsl L j).1 ≤ 8 by omega) this.2) (by decide)
theorem tms_mul (L : List G3) {m : Nat} (h : m ≤ 8) : tms L m * m ≤ 800 := Nat.le_trans (Nat.mul_le_mul (tms_prop L m).2.1 h) (by decide)
theorem bsl_z {L : List G3} {j b c : Nat} (h : bsl L j = (b, c)) : (b = 0 ∧ c = 0) ∨ (1 ≤ b ∧ b ≤ j ∧ 2 ≤ c ∧ c ≤ 99 ∧ c = tms L b ∧ b * c ≤ L.length ∧ b + b ≤ b * c) := by
  have h1 := bsl_ok L j
  have h2 := bsl_lim L j
  rw [h] at h1 h2
  rcases h1 with h1 | h1
  · injection h1 with e1 e2; exact .inl ⟨e1, e2⟩
  · simp only at h1 h2
    have h3 := tms_len (L := L) (m := b) (by omega)
    rw [← h1.2.2.2, Nat.mul_comm] at h3
    exact .inr ⟨h1.1, h1.2.1, h1.2.2.1, h2.2, h1.2.2.2, h3, by have := Nat.mul_le_mul_left b h1.2.2.1; omega⟩
/-! ### The folded text -/
def bslF (R : List G3) : Nat × Nat := bsl R (min 8 R.length)
def rpT (R : List G3) (b c : Nat) : Bs := ((((wRs ++ nd c) ++ [32, 123, 10]) ++ gls (R.take b)) ++ [125, 10])
def fd : Nat → List G3 → Bs
  | 0, _ => []
  | f + 1, R => if R.length = 0 then [] else if (bslF R).2 = 0 then gls (R.take 1) ++ fd f (R.drop 1) else rpT R (bslF R).1 (bslF R).2 ++ fd f (R.drop ((bslF R).1 * (bslF R).2))
theorem bslF_pos {R : List G3} (h : ¬ (bslF R).2 = 0) : 1 ≤ (bslF R).1 * (bslF R).2 := by
  rcases bsl_z (L := R) (j := min 8 R.length) (b := (bslF R).1) (c := (bslF R).2) rfl with h1 | h1
  · omega
  · have := h1.2.2.2.2.2.2; omega
theorem fd_fuel : ∀ (f f' : Nat) (R : List G3), R.length ≤ f → R.length ≤ f' → fd f R = fd f' R
  | 0, 0, _, _, _ => rfl
  | 0, f' + 1, R, h, _ => by rw [fd, fd, if_pos (by omega)]
  | f + 1, 0, R, _, h => by rw [fd, fd, if_pos (by omega)]
  | f + 1, f' + 1, R, h, h' => by
    rw [fd, fd]
    by_cases h0 : R.length = 0
    · rw [if_pos h0, if_pos h0]
    · rw [if_neg h0, if_neg h0]
      by_cases h1 : (bslF R).2 = 0
      · rw [if_pos h1, if_pos h1, fd_fuel f f' (R.drop 1) (by rw [List.length_drop]; omega) (by rw [List.length_drop]; omega)]
      · have := bslF_pos h1
        rw [if_neg h1, if_neg h1, fd_fuel f f' (R.drop _) (by rw [List.length_drop]; omega) (by rw [List.length_drop]; omega)]
def fdc (R : List G3) : Bs := fd R.length R
theorem fdc_nil {R : List G3} (h : R.length = 0) : fdc R = [] := by rw [fdc, h]; rfl
theorem fdc_one {R : List G3} {c : Nat} (h0 : ¬ R.length = 0) (h : (bslF R).2 = c) (hc : c = 0) : fdc R = gls (R.take 1) ++ fdc (R.drop 1) := by
  subst hc
  obtain ⟨m, hm⟩ : ∃ m, R.length = m + 1 := ⟨R.length - 1, by omega⟩
  rw [fdc, hm, fd, if_neg h0, if_pos h, fdc, fd_fuel m (R.drop 1).length _ (by rw [List.length_drop]; omega) (Nat.le_refl _)]
theorem fdc_rep {R : List G3} {b c : Nat} (h0 : ¬ R.length = 0) (h : bslF R = (b, c)) (hc : ¬ c = 0) : fdc R = rpT R b c ++ fdc (R.drop (b * c)) := by
  obtain ⟨m, hm⟩ : ∃ m, R.length = m + 1 := ⟨R.length - 1, by omega⟩
  have h1 := bslF_pos (R := R) (by rw [h]; exact hc)
  rw [h] at h1
  simp only at h1
  rw [fdc, hm, fd, if_neg h0, if_neg (by rw [h]; exact hc), h, fdc, fd_fuel m (R.drop (b * c)).length _ (by rw [List.length_drop]; omega) (Nat.le_refl _)]
/-- What FoldCircuit hands back. -/
def fdT (N : Int) (L : List G3) : Bs := hdT N ++ fdc L
def fdB (N : Int) (L : List G3) (n : Nat) : Bool := circOk N (fl L) n && decide (((fdT N L).length : Int) ≤ 8000)
def fdO (N : Int) (L : List G3) (n : Nat) : Bs := if fdB N L n = true then fdT N L else []
theorem fd_bad {N : Int} {L : List G3} {n : Nat} (h : circOk N (fl L) n = false) : fdO N L n = [] ∧ fdB N L n = false := by
  have : fdB N L n = false := by rw [fdB, h]; rfl
  exact ⟨by rw [fdO, this]; rfl, this⟩
theorem fd_good {N : Int} {L : List G3} {n : Nat} {out : Bs} (h : circOk N (fl L) n = true) (ho : out = fdT N L) (h8 : ((out.length : Nat) : Int) ≤ 8000) : fdO N L n = out ∧ fdB N L n = true := by
  subst ho
  have : fdB N L n = true := by rw [fdB, h, decide_eq_true h8]; rfl
  exact ⟨by rw [fdO, this]; rfl, this⟩
theorem fd_long {N : Int} {L : List G3} {n : Nat} {out : Bs} (ho : out = fdT N L) (h8 : ¬ ((out.length : Nat) : Int) ≤ 8000) : fdO N L n = [] ∧ fdB N L n = false := by
  subst ho
  have : fdB N L n = false := by rw [fdB, decide_eq_false h8, Bool.and_false]
  exact ⟨by rw [fdO, this]; rfl, this⟩
theorem fd_ends {N : Int} {L : List G3} {n : Nat} {out : Bs} (h : circOk N (fl L) n = true) (ho : out = fdT N L) : ssub out 0 (out.length * (if out.length ≤ 8000 then 1 else 0)) = fdO N L n ∧ decide (((out.length : Nat) : Int) ≤ 8000) = fdB N L n := by
  by_cases h8 : out.length ≤ 8000
  · obtain ⟨h1, h2⟩ := fd_good h ho (by omega)
    rw [h1, h2, if_pos h8]
    exact ⟨by simp [ssub], decide_eq_true (by omega)⟩
  · obtain ⟨h1, h2⟩ := fd_long (n := n) ho (by omega)
    rw [h1, h2, if_neg h8]
    exact ⟨by simp [ssub], decide_eq_false (by omega)⟩
end Go.Proofs.YtgpkpopbajkklaaGreatDoor
/- Walks: circuits are folded. -/
set_option linter.unusedSimpArgs false
set_option linter.unusedVariables false
namespace Go.Proofs.YtgpkpopbajkklaaGreatDoor
open Go Go.RowKit
namespace TzfT
theorem Tagg_69 : aggOf Tryz.prog 69 = some 3 := by kernel_rfl
theorem Tcall_45 : callable Tryz.prog 45 = true := by kernel_rfl
theorem Tns_69_3 : numStruct Tryz.prog 69 3 = true := by kernel_rfl
theorem Tsl_22 : sliceOf Tryz.prog 22 = some (69, 3, 24, [.int .i64 0, .int .i64 0, .int .i64 0]) := by kernel_rfl
end TzfT
open TzfT
set_option maxHeartbeats 1000000 in
set_option maxRecDepth 20000 in
theorem folding_spec {va : Value} {n m : Nat} {L : List G3} {w : World} (ha : Sl w va 3 n (ints (fl L))) (hm : 1 ≤ m ∧ m ≤ 8) (hmn : m ≤ n) (hn : n ≤ 400) : Calls Tryz.prog 40 #[va, .int .i64 ((m : Nat) : Int)] w (Post No w fun v _ => v = .int .i64 ((tms L m : Nat) : Int)) := by
 have hLn : L.length = n := by have h := ha.len; have h2 := fl_len L; omega
 have hnc : _ := ha.le
 obtain ⟨A, c0, rfl, _, _⟩ := ha.form0
 have hcp := ha.capLe
 refine enter (n := 35) (args := [.slice A n c0, .int .i64 (((m : Nat) : Int))]) Tryz.func40 rfl rfl (St.empty _ _) ?_
 refine .sr ?_
 refine .m ?_
 refine .dsr ?_
 refine .m ?_
 refine .done ?_
 refine .seq ?_
 refine .block ?_
 refine Run.loop (ι := Nat) [5, 6, 7, 8, 9, 10, 11, 12, 13, 14, 15, 16, 17, 18, 19, 20, 21, 22, 23, 24, 25, 26, 27, 28, 29, 30, 31, 32, 33] (fun c => [(5, .int .i64 (((c : Nat) : Int)))]) (fun c => []) (fun c => 1 ≤ c ∧ c ≤ 99 ∧ ∀ i, 1 ≤ i → i < c → tmB L m i = true) (fun c => 99 - c) 1 ?_ ?_ ?_ ?_
 ·exact ⟨by decide, by decide, fun i h1 h2 => by omega⟩
 ·exact ⟨rfl, trivial⟩
 ·exact (Some'.weak (.nil _))
 rintro c fr hinv
 show Run _ _ (over _ _ [(5, .int .i64 (((c : Nat) : Int)))] fr) []
 try dsimp only at hinv
 have hcm : (c + 1) * m = c * m + m := Nat.succ_mul c m
 have hcb : c * m ≤ 792 := Nat.le_trans (Nat.mul_le_mul (show c ≤ 99 by omega) hm.2) (by decide)
 refine .seq ?_
 refine .seq ?_
 refine .draws (by kernel_rfl) (by kernel_rfl) ?_
 refine .m ?_
 refine .u (.int .i64 (((c + 1 : Nat) : Int))) (.add rfl rfl (by omega) (by omega) (by omega)) ?_
 refine .m ?_
 refine .u (.int .i64 ((((c + 1) * m : Nat) : Int))) (.mulN rfl rfl (by omega)) ?_
 refine .m ?_
 refine .u (.int .i64 (((n : Nat) : Int))) (.len Tsl_22 rfl) ?_
 refine .w (.bool (decide (((((c + 1) * m : Nat) : Int)) ≤ (((n : Nat) : Int))))) ?_
 rcases Bool.eq_false_or_eq_true (decide (((((c + 1) * m : Nat) : Int)) ≤ (((n : Nat) : Int)))) with h13 | h13
 ·refine .u (.bool true) (.moveB rfl h13) ?_
  have p13 := h13; try simp only [bs] at p13
  refine .m ?_
  refine .w (.bool (decide ((((c : Nat) : Int)) < 99))) ?_
  refine .w (.bool (decide ((((c : Nat) : Int)) < 99))) ?_
  rcases Bool.eq_false_or_eq_true (decide ((((c : Nat) : Int)) < 99)) with h17 | h17
  ·refine .u (.bool true) (.moveB rfl h17) ?_
   have p17 := h17; try simp only [bs] at p17
   iterate 2 refine .m ?_
   refine .u (.slice A m c0) (.sliceHN (h := m) Tsl_22 rfl rfl rfl (by omega)) ?_
   iterate 3 refine .m ?_
   refine .u (.int .i64 (((c * m : Nat) : Int))) (.mulN rfl rfl (by omega)) ?_
   refine .m ?_
   refine .u (.int .i64 (((c + 1 : Nat) : Int))) (.add rfl rfl (by omega) (by omega) (by omega)) ?_
   refine .m ?_
   refine .u (.int .i64 ((((c + 1) * m : Nat) : Int))) (.mulN rfl rfl (by omega)) ?_
   refine .u ((sliced A (c * m) ((c + 1) * m) c0 3)) (.sliceLHN (l := c * m) (h := (c + 1) * m) Tsl_22 rfl rfl rfl (by omega) (by omega)) ?_
   refine Lex.q (v := .bool (rpB L m c)) rfl (OpQ.call (vs := [.slice A m c0, (sliced A (c * m) ((c + 1) * m) c0 3)]) (caps := []) Tcall_45 rfl rfl (fun w hs => (by have h := EqualGates_spec ((hs.sl ha).takeF hmn) ((hs.sl ha).midF (l := c * m) (h := (c + 1) * m) (by omega) (by omega)); rw [eq_rp hLn (by omega) hmn] at h; exact h))) ?_
   refine .w (.bool (rpB L m c)) ?_
   refine .done ?_
   refine .cond (b := rpB L m c) rfl (fun h31 => ?_) (fun h31 => ?_)
   ·have p31 := h31; try simp only [bs] at p31
    have hty : tmB L m c = true := tmB_yes (by omega) (by omega) h31
    refine .skip ?_
    refine .block ?_
    refine .region ?_
    refine .m ?_
    refine .u (.int .i64 ((((c : Nat) : Int)) + 1)) (.add rfl rfl rfl (by omega) (by omega)) ?_
    refine .m ?_
    refine .done ?_
    refine .blockEnd ?_
    refine .goal ⟨(by repeat (first | exact Same.refl _ _ | refine Same.put rfl ?_ | refine Same.over rfl rfl ?_)), c + 1, ?_, ?_, ?_, ?_⟩
    ·refine ⟨by omega, by omega, fun i hi hic => ?_⟩
     rcases Nat.lt_succ_iff_lt_or_eq.1 hic with h | h
     ·exact hinv.2.2 i hi h
     ·rw [h]; exact hty
    ·omega
    ·exact ⟨(by first | rfl | (congr 1; omega) | simp), trivial⟩
    ·exact (Some'.weak (.nil _))
   have p31 := h31; try simp only [bs] at p31
   refine .exit rfl ?_
   refine .seq ?_
   have htm : tms L m = c := tms_hit hinv.1 hinv.2.2 (by first | exact tmB_no1 (by omega) | exact tmB_no2 (by omega) | exact tmB_no3 (by assumption))
   refine .region ?_
   iterate 2 refine .m ?_
   refine .done ?_
   refine .ret ?_
   refine ⟨.int .i64 (((c : Nat) : Int)), [], Out.one rfl rfl, (Some'.weak (.nil _)), ?_⟩
   show _ = _; rw [htm]
  refine .u (.bool false) (.moveB rfl h17) ?_
  have p17 := h17; try simp only [bs] at p17
  iterate 13 refine .pass rfl ?_
  refine .w (.bool false) ?_
  refine .done ?_
  refine .cond (b := false) rfl (fun h => nomatch h) (fun _ => ?_)
  refine .exit rfl ?_
  refine .seq ?_
  have htm : tms L m = c := tms_hit hinv.1 hinv.2.2 (by first | exact tmB_no1 (by omega) | exact tmB_no2 (by omega) | exact tmB_no3 (by assumption))
  refine .region ?_
  iterate 2 refine .m ?_
  refine .done ?_
  refine .ret ?_
  refine ⟨.int .i64 (((c : Nat) : Int)), [], Out.one rfl rfl, (Some'.weak (.nil _)), ?_⟩
  show _ = _; rw [htm]
 refine .u (.bool false) (.moveB rfl h13) ?_
 have p13 := h13; try simp only [bs] at p13
 iterate 2 refine .pass rfl ?_
 refine .w (.bool false) ?_
 refine .m ?_
 iterate 13 refine .pass rfl ?_
 refine .w (.bool false) ?_
 refine .done ?_
 refine .cond (b := false) rfl (fun h => nomatch h) (fun _ => ?_)
 refine .exit rfl ?_
 refine .seq ?_
 have htm : tms L m = c := tms_hit hinv.1 hinv.2.2 (by first | exact tmB_no1 (by omega) | exact tmB_no2 (by omega) | exact tmB_no3 (by assumption))
 refine .region ?_
 iterate 2 refine .m ?_
 refine .done ?_
 refine .ret ?_
 refine ⟨.int .i64 (((c : Nat) : Int)), [], Out.one rfl rfl, (Some'.weak (.nil _)), ?_⟩
 show _ = _; rw [htm]

set_option maxHeartbeats 2000000 in
set_option maxRecDepth 20000 in
theorem l5Times_spec {va : Value} {n m : Nat} {L : List G3} {w : World} (ha : Sl w va 3 n (ints (fl L))) (hm : 1 ≤ m ∧ m ≤ 8) (hmn : m ≤ n) (hn : n ≤ 400) : Calls Tryz.prog 43 #[va, .int .i64 ((m : Nat) : Int)] w (Post No w fun v _ => v = .int .i64 ((tms L m : Nat) : Int)) := by
 have hLn : L.length = n := by have h := ha.len; have h2 := fl_len L; omega
 have hnc : _ := ha.le
 obtain ⟨A, c0, rfl, _, _⟩ := ha.form0
 have hcp := ha.capLe
 have hfl := fl_len L
 refine enter (n := 40) (args := [.slice A n c0, .int .i64 (((m : Nat) : Int))]) Tryz.func43 rfl rfl (St.empty _ _) ?_
 refine .sr ?_
 refine .m ?_
 refine .dsr ?_
 refine .m ?_
 refine .done ?_
 refine .seq ?_
 refine .block ?_
 refine Run.loop (ι := Nat) [4, 5, 6, 7, 8, 9, 10, 11, 12, 13, 14, 15, 16, 17, 18, 19, 20, 21, 22, 23, 24, 25, 26, 27, 28, 29, 30, 31, 32, 33, 34, 35, 36, 37, 38] (fun c => [(5, .int .i64 (((c : Nat) : Int)))]) (fun c => []) (fun c => 1 ≤ c ∧ c ≤ 99 ∧ ∀ i, 1 ≤ i → i < c → tmB L m i = true) (fun c => 99 - c) 1 ?_ ?_ ?_ ?_
 ·exact ⟨by decide, by decide, fun i h1 h2 => by omega⟩
 ·exact ⟨rfl, trivial⟩
 ·exact (Some'.weak (.nil _))
 rintro c fr hinv
 show Run _ _ (over _ _ [(5, .int .i64 (((c : Nat) : Int)))] fr) []
 try dsimp only at hinv
 have hcm : (c + 1) * m = c * m + m := Nat.succ_mul c m
 have hcb : c * m ≤ 792 := Nat.le_trans (Nat.mul_le_mul (show c ≤ 99 by omega) hm.2) (by decide)
 refine .seq ?_
 refine .sr ?_
 refine .m ?_
 refine .u (.int .i64 (((c + 1 : Nat) : Int))) (.add rfl rfl (by omega) (by omega) (by omega)) ?_
 refine .m ?_
 refine .u (.int .i64 ((((c + 1) * m : Nat) : Int))) (.mulN rfl rfl (by omega)) ?_
 refine .m ?_
 refine .u (.int .i64 (((n : Nat) : Int))) (.len Tsl_22 rfl) ?_
 refine .w (.bool (decide (((((c + 1) * m : Nat) : Int)) ≤ (((n : Nat) : Int))))) ?_
 rcases Bool.eq_false_or_eq_true (decide (((((c + 1) * m : Nat) : Int)) ≤ (((n : Nat) : Int)))) with h14 | h14
 ·refine .mb h14 ?_
  have p14 := h14; try simp only [bs] at p14
  refine .m ?_
  refine .w (.bool (decide ((((c : Nat) : Int)) < 99))) ?_
  refine .w (.bool (decide ((((c : Nat) : Int)) < 99))) ?_
  refine .done ?_
  refine .cond (b := decide ((((c : Nat) : Int)) < 99)) rfl (fun h17 => ?_) (fun h17 => ?_)
  ·have p17 := h17; try simp only [bs] at p17
   have hinw := hinv
   refine .skip ?_
   refine .block ?_
   refine .seq ?_
   refine .sr ?_
   refine .m ?_
   refine .done ?_
   refine .block ?_
   refine Run.loop (ι := Nat) [4, 6, 18, 19, 20, 21, 22, 23, 24, 25, 26, 27, 28, 29, 30, 31, 32, 33, 34, 35, 36] (fun k => [(6, .int .i64 (((k : Nat) : Int)))]) (fun k => []) (fun k => k ≤ m ∧ ∀ i, i < k → decide (gx L (c * m + i) = gx L i) = true) (fun k => m - k) 0 ?_ ?_ ?_ ?_
   ·exact ⟨Nat.zero_le _, fun i hi => by omega⟩
   ·exact ⟨rfl, trivial⟩
   ·exact (Some'.weak (.nil _))
   rintro k fr hinv
   show Run _ _ (over _ _ [(6, .int .i64 (((k : Nat) : Int)))] fr) []
   try dsimp only at hinv
   have hin2 := hinv
   refine .seq ?_
   refine .sr ?_
   iterate 2 refine .m ?_
   refine .w (.bool (decide ((((k : Nat) : Int)) < (((m : Nat) : Int))))) ?_
   refine .done ?_
   refine .cond (b := decide ((((k : Nat) : Int)) < (((m : Nat) : Int)))) rfl (fun h20 => ?_) (fun h20 => ?_)
   ·have p20 := h20; try simp only [bs] at p20
    have hltk : k < m := by omega
    have hgd := gx_dec (L := L) (M := L) (i := c * m + k) (j := k) (by omega) (by omega)
    obtain ⟨b, o, rfl⟩ := ha.opn (by omega)
    refine .skip ?_
    refine .seq ?_
    refine .block ?_
    refine .seq ?_
    refine .draws (by kernel_rfl) (by kernel_rfl) ?_
    iterate 3 refine .m ?_
    refine .u (.int .i64 (((c * m : Nat) : Int))) (.mulN rfl rfl (by omega)) ?_
    refine .m ?_
    refine .u (.int .i64 (((c * m + k : Nat) : Int))) (.add rfl rfl (by omega) (by omega) (by omega)) ?_
    refine .u (.pointer (some ⟨b, o + (c * m + k) * 3, none⟩)) (.ix (c * m + k) Tsl_22) ?_
    refine .u (.agg #[.int .i64 (ix ((fl L)) ((c * m + k) * 3)), .int .i64 (ix ((fl L)) ((c * m + k) * 3 + 1)), .int .i64 (ix ((fl L)) ((c * m + k) * 3 + 2))]) (.loadN (cs := [.int .i64 (ix ((fl L)) ((c * m + k) * 3)), .int .i64 (ix ((fl L)) ((c * m + k) * 3 + 1)), .int .i64 (ix ((fl L)) ((c * m + k) * 3 + 2))]) Tagg_69 rfl (Cells.arg (k := (c * m + k) * 3) ha rfl (by omega) (pre3 (by omega)))) ?_
    iterate 2 refine .m ?_
    refine .u (.pointer (some ⟨b, o + k * 3, none⟩)) (.ix k Tsl_22) ?_
    refine .u (.agg #[.int .i64 (ix ((fl L)) (k * 3)), .int .i64 (ix ((fl L)) (k * 3 + 1)), .int .i64 (ix ((fl L)) (k * 3 + 2))]) (.loadN (cs := [.int .i64 (ix ((fl L)) (k * 3)), .int .i64 (ix ((fl L)) (k * 3 + 1)), .int .i64 (ix ((fl L)) (k * 3 + 2))]) Tagg_69 rfl (Cells.arg (k := k * 3) ha rfl (by omega) (pre3 (by omega)))) ?_
    refine .u (.bool (!decide ([ix ((fl L)) ((c * m + k) * 3), ix ((fl L)) ((c * m + k) * 3 + 1), ix ((fl L)) ((c * m + k) * 3 + 2)] = [ix ((fl L)) (k * 3), ix ((fl L)) (k * 3 + 1), ix ((fl L)) (k * 3 + 2)]))) (.neStruct (xs := [ix ((fl L)) ((c * m + k) * 3), ix ((fl L)) ((c * m + k) * 3 + 1), ix ((fl L)) ((c * m + k) * 3 + 2)]) (ys := [ix ((fl L)) (k * 3), ix ((fl L)) (k * 3 + 1), ix ((fl L)) (k * 3 + 2)]) Tns_69_3 rfl rfl rfl rfl) ?_
    refine .done ?_
    refine .cond (b := !decide ([ix ((fl L)) ((c * m + k) * 3), ix ((fl L)) ((c * m + k) * 3 + 1), ix ((fl L)) ((c * m + k) * 3 + 2)] = [ix ((fl L)) (k * 3), ix ((fl L)) (k * 3 + 1), ix ((fl L)) (k * 3 + 2)])) rfl (fun h35 => ?_) (fun h35 => ?_)
    ·have p35 := h35; try simp only [bs] at p35
     have hrp : rpB L m c = false := allI_false hltk (by rw [hgd] at h35; simpa using h35)
     have htm : tms L m = c := tms_hit hinw.1 hinw.2.2 (tmB_no3 hrp)
     refine .sr ?_
     iterate 2 refine .m ?_
     refine .done ?_
     refine .ret ?_
     refine ⟨.int .i64 (((c : Nat) : Int)), [], Out.one rfl rfl, (Some'.weak (.nil _)), ?_⟩
     show _ = _; rw [htm]
    have p35 := h35; try simp only [bs] at p35
    have hgk : decide (gx L (c * m + k) = gx L k) = true := by rw [hgd] at h35; simpa using h35
    refine .skip ?_
    refine .blockEnd ?_
    refine .region ?_
    refine .m ?_
    refine .u (.int .i64 ((((k : Nat) : Int)) + 1)) (.add rfl rfl rfl (by omega) (by omega)) ?_
    refine .m ?_
    refine .done ?_
    refine .goal ⟨(by repeat (first | exact Same.refl _ _ | refine Same.put rfl ?_ | refine Same.over rfl rfl ?_)), k + 1, ?_, ?_, ?_, ?_⟩
    ·refine ⟨by omega, fun i hi => ?_⟩
     rcases Nat.lt_succ_iff_lt_or_eq.1 hi with h | h
     ·exact hin2.2 i h
     ·rw [h]; exact hgk
    ·omega
    ·exact ⟨(by first | rfl | (congr 1; omega) | simp), trivial⟩
    ·exact (Some'.weak (.nil _))
   have p20 := h20; try simp only [bs] at p20
   have hkm : k = m := by omega
   have hrp : rpB L m c = true := allI_iff.2 fun i hi => hin2.2 i (by omega)
   have hty : tmB L m c = true := tmB_yes (by omega) (by omega) hrp
   have hinv := hinw
   refine .exit rfl ?_
   refine .region ?_
   refine .m ?_
   refine .u (.int .i64 ((((c : Nat) : Int)) + 1)) (.add rfl rfl rfl (by omega) (by omega)) ?_
   refine .m ?_
   refine .done ?_
   refine .blockEnd ?_
   refine .goal ⟨(by repeat (first | exact Same.refl _ _ | refine Same.put rfl ?_ | refine Same.over rfl rfl ?_)), c + 1, ?_, ?_, ?_, ?_⟩
   ·refine ⟨by omega, by omega, fun i hi hic => ?_⟩
    rcases Nat.lt_succ_iff_lt_or_eq.1 hic with h | h
    ·exact hinv.2.2 i hi h
    ·rw [h]; exact hty
   ·omega
   ·exact ⟨(by first | rfl | (congr 1; omega) | simp), trivial⟩
   ·exact (Some'.weak (.nil _))
  have p17 := h17; try simp only [bs] at p17
  refine .exit rfl ?_
  refine .seq ?_
  have htm : tms L m = c := tms_hit hinv.1 hinv.2.2 (by first | exact tmB_no1 (by omega) | exact tmB_no2 (by omega) | exact tmB_no3 (by assumption))
  refine .region ?_
  iterate 2 refine .m ?_
  refine .done ?_
  refine .ret ?_
  refine ⟨.int .i64 (((c : Nat) : Int)), [], Out.one rfl rfl, (Some'.weak (.nil _)), ?_⟩
  show _ = _; rw [htm]
 refine .mb h14 ?_
 have p14 := h14; try simp only [bs] at p14
 iterate 2 refine .pass rfl ?_
 refine .w (.bool false) ?_
 refine .done ?_
 refine .cond (b := false) rfl (fun h => nomatch h) (fun _ => ?_)
 refine .exit rfl ?_
 refine .seq ?_
 have htm : tms L m = c := tms_hit hinv.1 hinv.2.2 (by first | exact tmB_no1 (by omega) | exact tmB_no2 (by omega) | exact tmB_no3 (by assumption))
 refine .region ?_
 iterate 2 refine .m ?_
 refine .done ?_
 refine .ret ?_
 refine ⟨.int .i64 (((c : Nat) : Int)), [], Out.one rfl rfl, (Some'.weak (.nil _)), ?_⟩
 show _ = _; rw [htm]

end Go.Proofs.YtgpkpopbajkklaaGreatDoor
/- Walks: the folded text of a circuit. -/
set_option linter.unusedSimpArgs false
set_option linter.unusedVariables false
namespace Go.Proofs.YtgpkpopbajkklaaGreatDoor
open Go Go.RowKit
namespace TzgT
theorem Tagg_24 : aggOf Tryz.prog 24 = some 2 := by kernel_rfl
theorem Tagg_69 : aggOf Tryz.prog 69 = some 3 := by kernel_rfl
theorem Tcall_35 : callable Tryz.prog 35 = true := by kernel_rfl
theorem Tcall_36 : callable Tryz.prog 36 = true := by kernel_rfl
theorem Tcall_37 : callable Tryz.prog 37 = true := by kernel_rfl
theorem Tcall_38 : callable Tryz.prog 38 = true := by kernel_rfl
theorem Tcall_40 : callable Tryz.prog 40 = true := by kernel_rfl
theorem Tcall_41 : callable Tryz.prog 41 = true := by kernel_rfl
theorem Tcall_42 : callable Tryz.prog 42 = true := by kernel_rfl
theorem Tcall_43 : callable Tryz.prog 43 = true := by kernel_rfl
theorem Tcall_44 : callable Tryz.prog 44 = true := by kernel_rfl
theorem Tfo_24_0 : fieldOff Tryz.prog 24 0 = some 0 := by kernel_rfl
theorem Tfo_24_1 : fieldOff Tryz.prog 24 1 = some 1 := by kernel_rfl
theorem Tone_22 : oneOf Tryz.prog 22 = true := by kernel_rfl
theorem Tone_3 : oneOf Tryz.prog 3 = true := by kernel_rfl
theorem Tsize_69 : (Tryz.prog.info? 69).map (·.size) = some 3 := by kernel_rfl
theorem Tsl_22 : sliceOf Tryz.prog 22 = some (69, 3, 24, [.int .i64 0, .int .i64 0, .int .i64 0]) := by kernel_rfl
theorem Tstr_9 : strT Tryz.prog 9 = true := by kernel_rfl
theorem Tzero_69 : zeroOf Tryz.prog 69 = some [.int .i64 0, .int .i64 0, .int .i64 0] := by kernel_rfl
end TzgT
open TzgT
/-- Where a folding stands: what is written, the gates that are left. -/
structure FdI (w : World) (N : Int) (L : List G3) (n : Nat) (out : Bs) (R : List G3) (A : Option Addr) (r c : Nat) : Prop where
  sl : Sl w (.slice A r c) 3 r (ints (fl R))
  len : R.length = r
  ok : GsOk 5 R
  le : r ≤ n
  txt : out ++ fdc R = fdT N L
  bnd : out.length + 40 * r ≤ 40 + 40 * n
theorem FdI.one {w : World} {N : Int} {L : List G3} {n : Nat} {out : Bs} {R : List G3} {A : Option Addr} {r c b : Nat} (h : FdI w N L n out R A r c) (h0 : 0 < r) (hb : bslF R = (b, 0)) : ∃ A2 c2, sliced A 1 r c 3 = .slice A2 (r - 1) c2 ∧ FdI w N L n (out ++ gls (R.take 1)) (R.drop 1) A2 (r - 1) c2 := by
  obtain ⟨A2, c2, h1, h2⟩ := h.sl.dropF (l := 1) (by omega)
  have hl := h.len
  have hg := gls_len (R.take 1)
  rw [List.length_take] at hg
  have hb2 := h.bnd
  have hle := h.le
  refine ⟨A2, c2, h1, h2, by rw [List.length_drop]; omega, h.ok.drop 1, by omega, ?_, ?_⟩
  · rw [← h.txt, fdc_one (R := R) (by omega) (by rw [hb]) rfl, List.append_assoc]
  · rw [List.length_append]; omega
theorem FdI.rep {w : World} {N : Int} {L : List G3} {n : Nat} {out : Bs} {R : List G3} {A : Option Addr} {r c b q : Nat} (h : FdI w N L n out R A r c) (h0 : 0 < r) (hb : bslF R = (b, q)) (hq : ¬ q = 0) (hbq : 1 ≤ b ∧ b ≤ 8 ∧ b * q ≤ R.length ∧ b + b ≤ b * q) : ∃ A2 c2, sliced A (b * q) r c 3 = .slice A2 (r - b * q) c2 ∧ FdI w N L n (out ++ rpT R b q) (R.drop (b * q)) A2 (r - b * q) c2 := by
  have hl := h.len
  obtain ⟨A2, c2, h1, h2⟩ := h.sl.dropF (l := b * q) (by omega)
  have hg := gls_len (R.take b)
  rw [List.length_take] at hg
  have hb2 := h.bnd
  have hle := h.le
  have hnd := nd_len q
  refine ⟨A2, c2, h1, h2, by rw [List.length_drop]; omega, h.ok.drop _, by omega, ?_, ?_⟩
  · rw [← h.txt, fdc_rep (R := R) (by omega) hb hq, List.append_assoc]
  · simp only [rpT, wRs, List.length_append, List.length_cons, List.length_nil]; omega
theorem FdI.end_ {w : World} {N : Int} {L : List G3} {n : Nat} {out : Bs} {R : List G3} {A : Option Addr} {r c : Nat} (h : FdI w N L n out R A r c) (h0 : r = 0) : out = fdT N L := by
  rw [← h.txt, fdc_nil (by rw [h.len]; exact h0), List.append_nil]
theorem FdI.start {w : World} {N : Int} {L : List G3} {n : Nat} {A : Option Addr} {c : Nat} (hs : Sl w (.slice A n c) 3 n (ints (fl L))) (hl : L.length = n) (hL : GsOk 5 L) : FdI w N L n ((wQs ++ nd N.toNat) ++ [10]) L A n c :=
  ⟨hs, hl, hL, Nat.le_refl _, rfl, by have := hdT_len N; have e : (hdT N).length = ((wQs ++ nd N.toNat) ++ [10]).length := rfl; omega⟩
theorem Itoa_ndN {k : Nat} {w : World} (hg : Gl w) (h : k < 100) : Calls Tryz.prog 36 #[.int .i64 ((k : Nat) : Int)] w (Post No w fun v _ => v = sv (nd k)) := by
  have h1 := Itoa_nd (a := ((k : Nat) : Int)) hg (by omega) (by omega)
  rwa [Int.toNat_natCast] at h1

set_option maxHeartbeats 4000000 in
set_option maxRecDepth 20000 in
theorem FoldCircuit_spec {N : Int} {va : Value} {n : Nat} {L : List G3} {w : World} (hg : Gl w) (ha : Sl w va 3 n (ints (fl L))) : Calls Tryz.prog 16 #[.agg #[.int .i64 N, va]] w (Post No w fun v _ => v = .tuple #[sv (fdO N L n), .bool (fdB N L n)]) := by
 obtain ⟨A, c0, rfl, _, _⟩ := ha.form0
 refine enter (n := 84) (args := [.agg #[.int .i64 N, .slice A n c0]]) Tryz.func16 rfl rfl (St.empty _ _) ?_
 refine .sr ?_
 refine .step rfl (.box (us := [.int .i64 N, .slice A n c0]) rfl fun b1 => ?_)
 refine .w (sv ([])) ?_
 refine .m ?_
 refine .done ?_
 refine .seq ?_
 refine .sr ?_
 refine .u (.agg #[.int .i64 N, .slice A n c0]) (.loadN (cs := [.int .i64 N, .slice A n c0]) Tagg_24 rfl (Cells.blk (.head _) ⟨rfl, rfl, trivial⟩)) ?_
 refine .c (.bool (circOk N (fl L) n)) [.agg #[.int .i64 N, .slice A n c0]] Tcall_35 (fun w hs => IsValidCircuit_spec (hs.sl ha)) ?_
 refine .w (.bool (!(circOk N (fl L) n))) ?_
 refine .done ?_
 refine .cond (b := !(circOk N (fl L) n)) rfl (fun h12 => ?_) (fun h12 => ?_)
 ·have p12 := h12; try simp only [bs] at p12
  refine .sr ?_
  refine .w (sv ([])) ?_
  refine .m ?_
  refine .done ?_
  refine .ret ?_
  refine ⟨.tuple #[sv ([]), .bool false], [], Out.two rfl rfl rfl, (Some'.weak (.nil _)), ?_⟩
  first | (rw [(fd_bad p12).1, (fd_bad p12).2]; done) | (rw [← hf1, ← hf2]; done)
 have p12 := h12; try simp only [bs] at p12
 have hN := circOk_N p12
 have hn4 := circOk_n p12
 have hLn : L.length = n := by have h := ha.len; have h2 := fl_len L; omega
 have hL := (circ_gs hLn p12).five hN.2
 have hgl := gls_len L
 have hnd := nd_len N.toNat
 have hwq : wQs.length = 7 := rfl
 refine .skip ?_
 refine .seq ?_
 refine .draws (by kernel_rfl) (by kernel_rfl) ?_
 refine .u (.pointer (some ⟨b1, 0, none⟩)) (.fieldAddr Tfo_24_0 rfl rfl) ?_
 refine .u (.int .i64 N) (.load1 Tone_3 rfl (.b (.head _))) ?_
 refine Lex.q (v := sv (nd N.toNat)) rfl (OpQ.call (vs := [.int .i64 N]) (caps := []) Tcall_36 rfl rfl (fun w hs => Itoa_nd (hg.go hs) (by omega) (by omega))) ?_
 refine .u (sv (wQs ++ (nd N.toNat))) (.addS rfl rfl (by first | omega | (simp only [List.length_append, List.length_cons, List.length_nil]; omega))) ?_
 refine .u (sv ((wQs ++ (nd N.toNat)) ++ ([10]))) (.addS rfl rfl (by first | omega | (simp only [List.length_append, List.length_cons, List.length_nil]; omega))) ?_
 refine .u (.pointer (some ⟨b1, 1, none⟩)) (.fieldAddr Tfo_24_1 rfl rfl) ?_
 refine .u (.slice A n c0) (.load1 Tone_22 rfl (.b (.head _))) ?_
 refine .w (sv ((wQs ++ (nd N.toNat)) ++ ([10]))) ?_
 refine .m ?_
 refine .done ?_
 refine .seq ?_
 refine .block ?_
 refine Run.loop (ι := Bs × List G3 × Option Addr × Nat × Nat) ([4, 5, 6, 7, 8, 9, 20, 21, 22, 23, 24, 25, 26, 27, 28, 29, 30, 31, 32, 33, 34, 35, 36, 37, 38, 39, 40, 41, 42, 43, 44, 45, 46, 47, 48, 49, 50, 51, 52, 53, 54, 55, 56, 57, 58, 59, 60, 61, 62, 63] ++ [64, 65, 66, 67, 68, 69, 70, 71]) (fun ⟨out, R, Ar, r, cr⟩ => [(4, sv out), (5, .slice Ar r cr)]) (fun ⟨out, R, Ar, r, cr⟩ => [.blk b1 24 [.int .i64 N, .slice A n c0]]) (fun ⟨out, R, Ar, r, cr⟩ => FdI w N L n out R Ar r cr) (fun ⟨out, R, Ar, r, cr⟩ => r) (wQs ++ nd N.toNat ++ [10], L, A, n, c0) ?_ ?_ ?_ ?_
 ·exact FdI.start ha hLn hL
 ·exact ⟨rfl, rfl, trivial⟩
 ·exact (Some'.weak (.take (.nil _)))
 rintro ⟨out, R, Ar, r, cr⟩ fr hinv
 show Run _ _ (over _ _ [(4, sv out), (5, .slice Ar r cr)] fr) [.blk b1 24 [.int .i64 N, .slice A n c0]]
 try dsimp only at hinv
 have hin0 := hinv
 obtain ⟨hsl, hRl, hRk, hrn, htx, hbd⟩ := id hinv
 have hcp := hsl.capLe
 refine .seq ?_
 refine .sr ?_
 refine .m ?_
 refine .u (.int .i64 (((r : Nat) : Int))) (.len Tsl_22 rfl) ?_
 refine .w (.bool (decide ((((r : Nat) : Int)) > 0))) ?_
 refine .done ?_
 refine .cond (b := decide ((((r : Nat) : Int)) > 0)) rfl (fun h22 => ?_) (fun h22 => ?_)
 ·have p22 := h22; try simp only [bs] at p22
  refine .skip ?_
  refine .block ?_
  refine .sr ?_
  iterate 2 refine .m ?_
  refine .done ?_
  refine .seq ?_
  refine .sr ?_
  refine .m ?_
  refine .done ?_
  refine .block ?_
  refine Run.loop (ι := Nat) [6, 7, 8, 9, 23, 24, 25, 26, 27, 28, 29, 30, 31, 32, 33, 34, 35, 36, 37, 38, 39, 40, 41, 42, 43, 44, 45] (fun j => [(6, .int .i64 ((((bsl R j).1 : Nat) : Int))), (7, .int .i64 ((((bsl R j).2 : Nat) : Int))), (8, .int .i64 (((j + 1 : Nat) : Int)))]) (fun j => [.blk b1 24 [.int .i64 N, .slice A n c0]]) (fun j => j ≤ min 8 R.length) (fun j => 10 - j) 0 ?_ ?_ ?_ ?_
  ·exact Nat.zero_le _
  ·exact ⟨rfl, rfl, rfl, trivial⟩
  ·exact (Some'.weak (.take (.nil _)))
  rintro j fr hinv
  show Run _ _ (over _ _ [(6, .int .i64 ((((bsl R j).1 : Nat) : Int))), (7, .int .i64 ((((bsl R j).2 : Nat) : Int))), (8, .int .i64 (((j + 1 : Nat) : Int)))] fr) [.blk b1 24 [.int .i64 N, .slice A n c0]]
  try dsimp only at hinv
  refine .seq ?_
  refine .sr ?_
  iterate 2 refine .m ?_
  refine .u (.int .i64 (((r : Nat) : Int))) (.len Tsl_22 rfl) ?_
  refine .u (.int .i64 (min 8 (((r : Nat) : Int)))) (.min rfl rfl) ?_
  refine .w (.bool (decide ((((j + 1 : Nat) : Int)) ≤ (min 8 (((r : Nat) : Int)))))) ?_
  refine .done ?_
  refine .cond (b := decide ((((j + 1 : Nat) : Int)) ≤ (min 8 (((r : Nat) : Int))))) rfl (fun h27 => ?_) (fun h27 => ?_)
  ·have p27 := h27; try simp only [bs] at p27
   have hbm := bsl_mul R (j := j) (by omega)
   have htm := tms_mul R (m := j + 1) (by omega)
   refine .skip ?_
   refine .seq ?_
   refine .block ?_
   refine .sr ?_
   iterate 2 refine .m ?_
   refine .c (.int .i64 (((tms R (j + 1) : Nat) : Int))) [.slice Ar r cr, .int .i64 (((j + 1 : Nat) : Int))] Tcall_40 (fun w hs => folding_spec (hs.sl hsl) (m := j + 1) (by omega) (by omega) (by omega)) ?_
   refine .m ?_
   refine .dsr ?_
   refine .m ?_
   refine .w (.bool (decide ((((tms R (j + 1) : Nat) : Int)) > 1))) ?_
   rcases Bool.eq_false_or_eq_true (decide ((((tms R (j + 1) : Nat) : Int)) > 1)) with h35 | h35
   ·refine .mb h35 ?_
    have p35 := h35; try simp only [bs] at p35
    iterate 2 refine .m ?_
    refine .u (.int .i64 (((tms R (j + 1) * (j + 1) : Nat) : Int))) (.mulN rfl rfl (by omega)) ?_
    iterate 2 refine .m ?_
    refine .u (.int .i64 ((((bsl R j).1 * (bsl R j).2 : Nat) : Int))) (.mulN rfl rfl (by omega)) ?_
    refine .w (.bool (decide ((((tms R (j + 1) * (j + 1) : Nat) : Int)) > ((((bsl R j).1 * (bsl R j).2 : Nat) : Int))))) ?_
    refine .w (.bool (decide ((((tms R (j + 1) * (j + 1) : Nat) : Int)) > ((((bsl R j).1 * (bsl R j).2 : Nat) : Int))))) ?_
    refine .done ?_
    refine .cond (b := decide ((((tms R (j + 1) * (j + 1) : Nat) : Int)) > ((((bsl R j).1 * (bsl R j).2 : Nat) : Int)))) rfl (fun h43 => ?_) (fun h43 => ?_)
    ·have p43 := h43; try simp only [bs] at p43
     have hb1 := bsl_yes (L := R) (j := j) (by omega) (by omega)
     refine .region ?_
     iterate 4 refine .m ?_
     refine .done ?_
     refine .blockEnd ?_
     refine .region ?_
     refine .m ?_
     refine .u (.int .i64 ((((j + 1 : Nat) : Int)) + 1)) (.add rfl rfl rfl (by omega) (by omega)) ?_
     refine .m ?_
     refine .done ?_
     refine .goal ⟨(by repeat (first | exact Same.refl _ _ | refine Same.put rfl ?_ | refine Same.over rfl rfl ?_)), j + 1, ?_, ?_, ?_, ?_⟩
     ·omega
     ·omega
     ·exact ⟨(by show Value.int _ _ = Value.int _ _; rw [hb1]), (by show Value.int _ _ = Value.int _ _; rw [hb1]), (by first | rfl | (congr 1; omega) | simp), trivial⟩
     ·exact (Some'.weak (.take (.nil _)))
    have p43 := h43; try simp only [bs] at p43
    have hb1 : bsl R (j + 1) = bsl R j := bsl_no (by omega)
    refine .skip ?_
    refine .blockEnd ?_
    refine .region ?_
    refine .m ?_
    refine .u (.int .i64 ((((j + 1 : Nat) : Int)) + 1)) (.add rfl rfl rfl (by omega) (by omega)) ?_
    refine .m ?_
    refine .done ?_
    refine .goal ⟨(by repeat (first | exact Same.refl _ _ | refine Same.put rfl ?_ | refine Same.over rfl rfl ?_)), j + 1, ?_, ?_, ?_, ?_⟩
    ·omega
    ·omega
    ·exact ⟨(by show Value.int _ _ = Value.int _ _; rw [hb1]), (by show Value.int _ _ = Value.int _ _; rw [hb1]), (by first | rfl | (congr 1; omega) | simp), trivial⟩
    ·exact (Some'.weak (.take (.nil _)))
   refine .mb h35 ?_
   have p35 := h35; try simp only [bs] at p35
   have hb1 : bsl R (j + 1) = bsl R j := bsl_no (by omega)
   iterate 7 refine .pass rfl ?_
   refine .w (.bool false) ?_
   refine .done ?_
   refine .cond (b := false) rfl (fun h => nomatch h) (fun _ => ?_)
   refine .skip ?_
   refine .blockEnd ?_
   refine .region ?_
   refine .m ?_
   refine .u (.int .i64 ((((j + 1 : Nat) : Int)) + 1)) (.add rfl rfl rfl (by omega) (by omega)) ?_
   refine .m ?_
   refine .done ?_
   refine .goal ⟨(by repeat (first | exact Same.refl _ _ | refine Same.put rfl ?_ | refine Same.over rfl rfl ?_)), j + 1, ?_, ?_, ?_, ?_⟩
   ·omega
   ·omega
   ·exact ⟨(by show Value.int _ _ = Value.int _ _; rw [hb1]), (by show Value.int _ _ = Value.int _ _; rw [hb1]), (by first | rfl | (congr 1; omega) | simp), trivial⟩
   ·exact (Some'.weak (.take (.nil _)))
  have p27 := h27; try simp only [bs] at p27
  have hj : j = min 8 R.length := by omega
  obtain ⟨b, q, hbc⟩ : ∃ b q, bsl R j = (b, q) := ⟨_, _, rfl⟩
  have hbz := bsl_z hbc
  have hbF : bslF R = (b, q) := by rw [bslF, ← hj]; exact hbc
  rw [hbc]
  refine .exit rfl ?_
  refine .seq ?_
  refine .sr ?_
  refine .m ?_
  refine .w (.bool ((((q : Nat) : Int)) == 0)) ?_
  refine .done ?_
  refine .cond (b := (((q : Nat) : Int)) == 0) rfl (fun h47 => ?_) (fun h47 => ?_)
  ·have p47 := h47; try simp only [bs] at p47
   have hq0 : q = 0 := by omega
   obtain ⟨A2, c2, hA2, hnx⟩ := hin0.one (by omega) (hq0 ▸ hbF)
   have hgl := gls_len (R.take 1)
   rw [List.length_take] at hgl
   refine .sr ?_
   refine .w (sv out) ?_
   refine .m ?_
   refine .u (.slice Ar 1 cr) (.sliceHN (h := 1) Tsl_22 rfl rfl rfl (by omega)) ?_
   refine .c (sv (gls (R.take 1))) [.slice Ar 1 cr] Tcall_37 (fun w hs => gateLines_spec (hg.go hs) (hs.sl (hsl.takeF (m := 1) (by omega))) (hRk.take _) (by omega)) ?_
   refine .u (sv (out ++ (gls (R.take 1)))) (.addS rfl rfl (by first | omega | (simp only [List.length_append, List.length_cons, List.length_nil]; omega))) ?_
   refine .w (sv (out ++ (gls (R.take 1)))) ?_
   refine .dsr ?_
   refine .m ?_
   refine .u (.slice A2 ((r - 1)) c2) (.sliceLE (l := 1) Tsl_22 rfl rfl rfl (by omega) hA2) ?_
   refine .m ?_
   refine .done ?_
   refine .exit rfl ?_
   refine .goal ⟨(by repeat (first | exact Same.refl _ _ | refine Same.put rfl ?_ | refine Same.over rfl rfl ?_)), (out ++ (gls (R.take 1)), R.drop 1, A2, (r - 1), c2), ?_, ?_, ?_, ?_⟩
   ·exact hnx
   ·first | (show r - 1 < r; omega) | (show r - b * q < r; omega)
   ·exact ⟨(by first | rfl | (congr 1; omega) | simp), (by first | rfl | (congr 1; omega) | simp), trivial⟩
   ·exact (Some'.weak (.take (.nil _)))
  have p47 := h47; try simp only [bs] at p47
  have hq0 : ¬ q = 0 := by omega
  obtain ⟨A2, c2, hA2, hnx⟩ := hin0.rep (by omega) hbF hq0 (by omega)
  have hnd := nd_len q
  have hgl := gls_len (R.take b)
  rw [List.length_take] at hgl
  have hwr : wRs.length = 7 := rfl
  refine .skip ?_
  refine .seq ?_
  refine .draws (by kernel_rfl) (by kernel_rfl) ?_
  refine .w (sv out) ?_
  refine .m ?_
  refine Lex.q (v := sv (nd q)) rfl (OpQ.call (vs := [.int .i64 (((q : Nat) : Int))]) (caps := []) Tcall_36 rfl rfl (fun w hs => Itoa_ndN (hg.go hs) (by omega))) ?_
  refine .u (sv (wRs ++ (nd q))) (.addS rfl rfl (by first | omega | (simp only [List.length_append, List.length_cons, List.length_nil]; omega))) ?_
  refine .u (sv ((wRs ++ (nd q)) ++ ([32, 123, 10]))) (.addS rfl rfl (by first | omega | (simp only [List.length_append, List.length_cons, List.length_nil]; omega))) ?_
  iterate 2 refine .m ?_
  refine .u (.slice Ar b cr) (.sliceHN (h := b) Tsl_22 rfl rfl rfl (by omega)) ?_
  refine Lex.q (v := sv (gls (R.take b))) rfl (OpQ.call (vs := [.slice Ar b cr]) (caps := []) Tcall_37 rfl rfl (fun w hs => gateLines_spec (hg.go hs) (hs.sl (hsl.takeF (m := b) (by omega))) (hRk.take _) (by omega))) ?_
  refine .u (sv (((wRs ++ (nd q)) ++ ([32, 123, 10])) ++ (gls (R.take b)))) (.addS rfl rfl (by first | omega | (simp only [List.length_append, List.length_cons, List.length_nil]; omega))) ?_
  refine .u (sv ((((wRs ++ (nd q)) ++ ([32, 123, 10])) ++ (gls (R.take b))) ++ ([125, 10]))) (.addS rfl rfl (by first | omega | (simp only [List.length_append, List.length_cons, List.length_nil]; omega))) ?_
  refine .u (sv (out ++ ((((wRs ++ (nd q)) ++ ([32, 123, 10])) ++ (gls (R.take b))) ++ ([125, 10])))) (.addS rfl rfl (by first | omega | (simp only [List.length_append, List.length_cons, List.length_nil]; omega))) ?_
  refine .w (sv (out ++ ((((wRs ++ (nd q)) ++ ([32, 123, 10])) ++ (gls (R.take b))) ++ ([125, 10])))) ?_
  refine .done ?_
  refine .region ?_
  iterate 3 refine .m ?_
  refine .u (.int .i64 (((b * q : Nat) : Int))) (.mulN rfl rfl (by omega)) ?_
  refine .u (.slice A2 ((r - b * q)) c2) (.sliceLE (l := b * q) Tsl_22 rfl rfl rfl (by omega) hA2) ?_
  refine .m ?_
  refine .done ?_
  refine .blockEnd ?_
  refine .goal ⟨(by repeat (first | exact Same.refl _ _ | refine Same.put rfl ?_ | refine Same.over rfl rfl ?_)), (out ++ ((((wRs ++ (nd q)) ++ ([32, 123, 10])) ++ (gls (R.take b))) ++ ([125, 10])), R.drop (b * q), A2, (r - b * q), c2), ?_, ?_, ?_, ?_⟩
  ·exact hnx
  ·first | (show r - 1 < r; omega) | (show r - b * q < r; omega)
  ·exact ⟨(by first | rfl | (congr 1; omega) | simp), (by first | rfl | (congr 1; omega) | simp), trivial⟩
  ·exact (Some'.weak (.take (.nil _)))
 have p22 := h22; try simp only [bs] at p22
 have hout := hin0.end_ (by omega)
 obtain ⟨hf1, hf2⟩ := fd_ends p12 hout
 refine .exit rfl ?_
 refine .sr ?_
 refine .w (sv out) ?_
 refine .w (sv out) ?_
 refine .u (.int .i64 (((out.length : Nat) : Int))) (.lenS Tstr_9 rfl) ?_
 refine .w (sv out) ?_
 refine .u (.int .i64 (((out.length : Nat) : Int))) (.lenS Tstr_9 rfl) ?_
 refine .w (.bool (decide ((((out.length : Nat) : Int)) ≤ 8000))) ?_
 refine .c (.int .i64 (((if out.length ≤ 8000 then 1 else 0 : Nat) : Int))) [.bool (decide ((((out.length : Nat) : Int)) ≤ 8000))] Tcall_41 (fun w hs => (by have h := small_spec (decide (((out.length : Nat) : Int) ≤ 8000)) w; rw [show (if decide (((out.length : Nat) : Int) ≤ 8000) = true then (1 : Int) else 0) = ((if out.length ≤ 8000 then 1 else 0 : Nat) : Int) by simp only [decide_eq_true_eq]; split <;> (try split) <;> omega] at h; exact h)) ?_
 refine .u (.int .i64 (((out.length * (if out.length ≤ 8000 then 1 else 0) : Nat) : Int))) (.mulN rfl rfl (by split <;> omega)) ?_
 refine .u (sv (ssub out 0 ((out.length * (if out.length ≤ 8000 then 1 else 0))))) (.sliceSH (b := (out.length * (if out.length ≤ 8000 then 1 else 0))) Tstr_9 rfl rfl (by first | rfl | omega) (by first | omega | (split <;> omega))) ?_
 refine .w (sv out) ?_
 refine .u (.int .i64 (((out.length : Nat) : Int))) (.lenS Tstr_9 rfl) ?_
 refine .w (.bool (decide ((((out.length : Nat) : Int)) ≤ 8000))) ?_
 refine .w (sv (ssub out 0 ((out.length * (if out.length ≤ 8000 then 1 else 0))))) ?_
 refine .m ?_
 refine .done ?_
 refine .ret ?_
 refine ⟨.tuple #[sv (ssub out 0 ((out.length * (if out.length ≤ 8000 then 1 else 0)))), .bool (decide ((((out.length : Nat) : Int)) ≤ 8000))], [], Out.two rfl rfl rfl, (Some'.weak (.nil _)), ?_⟩
 first | (rw [(fd_bad p12).1, (fd_bad p12).2]; done) | (rw [← hf1, ← hf2]; done)

set_option maxHeartbeats 4000000 in
set_option maxRecDepth 20000 in
theorem sFoldCircuit_spec {N : Int} {va : Value} {n : Nat} {L : List G3} {w : World} (ha : Sl w va 3 n (ints (fl L))) : Calls Tryz.prog 17 #[.agg #[.int .i64 N, va]] w (Post No w fun v _ => v = .tuple #[sv (fdO N L n), .bool (fdB N L n)]) := by
 obtain ⟨A, c0, rfl, _, _⟩ := ha.form0
 refine enter (n := 93) (args := [.agg #[.int .i64 N, .slice A n c0]]) Tryz.func17 rfl rfl (St.empty _ _) ?_
 refine .sr ?_
 refine .step rfl (.box (us := [.int .i64 N, .slice A n c0]) rfl fun b1 => ?_)
 refine .w (sv ([])) ?_
 refine .m ?_
 refine .done ?_
 refine .seq ?_
 refine .sr ?_
 refine .u (.agg #[.int .i64 N, .slice A n c0]) (.loadN (cs := [.int .i64 N, .slice A n c0]) Tagg_24 rfl (Cells.blk (.head _) ⟨rfl, rfl, trivial⟩)) ?_
 refine .c (.bool (circOk N (fl L) n)) [.agg #[.int .i64 N, .slice A n c0]] Tcall_38 (fun w hs => l4Good_spec (hs.sl ha)) ?_
 refine .w (.bool (!(circOk N (fl L) n))) ?_
 refine .done ?_
 refine .cond (b := !(circOk N (fl L) n)) rfl (fun h14 => ?_) (fun h14 => ?_)
 ·have p14 := h14; try simp only [bs] at p14
  refine .sr ?_
  refine .w (sv ([])) ?_
  refine .m ?_
  refine .done ?_
  refine .ret ?_
  refine ⟨.tuple #[sv ([]), .bool false], [], Out.two rfl rfl rfl, (Some'.weak (.nil _)), ?_⟩
  first | (rw [(fd_bad p14).1, (fd_bad p14).2]; done) | (rw [hfl.1, hfl.2]; done)
 have p14 := h14; try simp only [bs] at p14
 have hN := circOk_N p14
 have hn4 := circOk_n p14
 have hLn : L.length = n := by have h := ha.len; have h2 := fl_len L; omega
 have hL := (circ_gs hLn p14).five hN.2
 have hgl := gls_len L
 have hnd := nd_len N.toNat
 have hwq : wQs.length = 7 := rfl
 refine .skip ?_
 refine .sr ?_
 refine .fa Tfo_24_0 ?_
 refine .u (.int .i64 N) (.load1 Tone_3 rfl (.b (.head _))) ?_
 refine .c (sv (nd N.toNat)) [.int .i64 N] Tcall_42 (fun w hs => l1Num_I (by omega) (by omega) w) ?_
 refine .u (sv (wQs ++ (nd N.toNat))) (.addS rfl rfl (by first | omega | (simp only [List.length_append, List.length_cons, List.length_nil]; omega))) ?_
 refine .u (sv ((wQs ++ (nd N.toNat)) ++ ([10]))) (.addS rfl rfl (by first | omega | (simp only [List.length_append, List.length_cons, List.length_nil]; omega))) ?_
 refine .w (sv ((wQs ++ (nd N.toNat)) ++ ([10]))) ?_
 refine .dsr ?_
 refine .fa Tfo_24_1 ?_
 refine .u (.slice A n c0) (.load1 Tone_22 rfl (.b (.head _))) ?_
 refine .m ?_
 refine .done ?_
 refine .seq ?_
 refine .block ?_
 refine Run.loop (ι := Bs × List G3 × Option Addr × Nat × Nat) ([4, 5, 6, 7, 8, 9, 11, 22, 23, 24, 25, 26, 27, 28, 29, 30, 31, 32, 33, 34, 35, 36, 37, 38, 39, 40, 41, 42, 43, 44, 45, 46, 47, 48, 49, 50, 51, 52, 53, 54, 55, 56, 57, 58, 59, 60, 61, 62, 63, 64] ++ [65, 66, 67, 68, 69, 70, 71, 72, 73, 74, 75, 76, 77, 78, 79, 80, 81, 82, 83, 84, 85, 86, 87, 88]) (fun ⟨out, R, Ar, r, cr⟩ => [(4, sv out), (5, .slice Ar r cr)]) (fun ⟨out, R, Ar, r, cr⟩ => [.blk b1 24 [.int .i64 N, .slice A n c0]]) (fun ⟨out, R, Ar, r, cr⟩ => FdI w N L n out R Ar r cr) (fun ⟨out, R, Ar, r, cr⟩ => r) (wQs ++ nd N.toNat ++ [10], L, A, n, c0) ?_ ?_ ?_ ?_
 ·exact FdI.start ha hLn hL
 ·exact ⟨rfl, rfl, trivial⟩
 ·exact (Some'.weak (.take (.nil _)))
 rintro ⟨out, R, Ar, r, cr⟩ fr hinv
 show Run _ _ (over _ _ [(4, sv out), (5, .slice Ar r cr)] fr) [.blk b1 24 [.int .i64 N, .slice A n c0]]
 try dsimp only at hinv
 have hin0 := hinv
 obtain ⟨hsl, hRl, hRk, hrn, htx, hbd⟩ := id hinv
 have hcp := hsl.capLe
 refine .seq ?_
 refine .sr ?_
 refine .m ?_
 refine .u (.int .i64 (((r : Nat) : Int))) (.len Tsl_22 rfl) ?_
 refine .w (.bool (decide ((((r : Nat) : Int)) > 0))) ?_
 refine .done ?_
 refine .cond (b := decide ((((r : Nat) : Int)) > 0)) rfl (fun h24 => ?_) (fun h24 => ?_)
 ·have p24 := h24; try simp only [bs] at p24
  refine .skip ?_
  refine .block ?_
  refine .sr ?_
  iterate 2 refine .m ?_
  refine .done ?_
  refine .seq ?_
  refine .sr ?_
  refine .m ?_
  refine .done ?_
  refine .block ?_
  refine Run.loop (ι := Nat) [6, 7, 8, 9, 25, 26, 27, 28, 29, 30, 31, 32, 33, 34, 35, 36, 37, 38, 39, 40, 41, 42, 43, 44, 45, 46, 47, 48, 49, 50] (fun j => [(6, .int .i64 ((((bsl R j).1 : Nat) : Int))), (7, .int .i64 ((((bsl R j).2 : Nat) : Int))), (8, .int .i64 (((j + 1 : Nat) : Int)))]) (fun j => [.blk b1 24 [.int .i64 N, .slice A n c0]]) (fun j => j ≤ min 8 R.length) (fun j => 10 - j) 0 ?_ ?_ ?_ ?_
  ·exact Nat.zero_le _
  ·exact ⟨rfl, rfl, rfl, trivial⟩
  ·exact (Some'.weak (.take (.nil _)))
  rintro j fr hinv
  show Run _ _ (over _ _ [(6, .int .i64 ((((bsl R j).1 : Nat) : Int))), (7, .int .i64 ((((bsl R j).2 : Nat) : Int))), (8, .int .i64 (((j + 1 : Nat) : Int)))] fr) [.blk b1 24 [.int .i64 N, .slice A n c0]]
  try dsimp only at hinv
  refine .seq ?_
  refine .seq ?_
  refine Run.cut (ι := Bool) [25, 26, 27, 28, 29, 30, 31, 32] (fun bb => [(32, .bool bb)]) (fun bb => [.blk b1 24 [.int .i64 N, .slice A n c0]]) (fun bb => bb = (decide (((j + 1 : Nat) : Int) ≤ 8) && decide (((j + 1 : Nat) : Int) ≤ ((r : Nat) : Int)))) ?_ ?_
  ·refine .region ?_
   refine .m ?_
   refine .w (.bool (decide ((((j + 1 : Nat) : Int)) ≤ 8))) ?_
   rcases Bool.eq_false_or_eq_true (decide ((((j + 1 : Nat) : Int)) ≤ 8)) with h27 | h27
   ·refine .mb h27 ?_
    have p27 := h27; try simp only [bs] at p27
    iterate 2 refine .m ?_
    refine .u (.int .i64 (((r : Nat) : Int))) (.len Tsl_22 rfl) ?_
    refine .w (.bool (decide ((((j + 1 : Nat) : Int)) ≤ (((r : Nat) : Int))))) ?_
    refine .w (.bool (decide ((((j + 1 : Nat) : Int)) ≤ (((r : Nat) : Int))))) ?_
    refine .done ?_
    refine .goal ⟨(by repeat (first | exact Same.refl _ _ | refine Same.put rfl ?_ | refine Same.over rfl rfl ?_)), decide ((((j + 1 : Nat) : Int)) ≤ (((r : Nat) : Int))), ?_, ?_, ?_⟩
    ·first | (rw [decide_eq_true (show ((j + 1 : Nat) : Int) ≤ 8 by omega), Bool.true_and]; done) | (rw [decide_eq_false (show ¬ ((j + 1 : Nat) : Int) ≤ 8 by omega), Bool.false_and]; done)
    ·exact ⟨(by first | rfl | (congr 1; omega) | simp [*]), trivial⟩
    ·exact ((Weak.refl _).trans (Some'.weak (.take (.nil _))))
   refine .mb h27 ?_
   have p27 := h27; try simp only [bs] at p27
   iterate 4 refine .pass rfl ?_
   refine .w (.bool false) ?_
   refine .done ?_
   refine .goal ⟨(by repeat (first | exact Same.refl _ _ | refine Same.put rfl ?_ | refine Same.over rfl rfl ?_)), false, ?_, ?_, ?_⟩
   ·first | (rw [decide_eq_true (show ((j + 1 : Nat) : Int) ≤ 8 by omega), Bool.true_and]; done) | (rw [decide_eq_false (show ¬ ((j + 1 : Nat) : Int) ≤ 8 by omega), Bool.false_and]; done)
   ·exact ⟨(by first | rfl | (congr 1; omega) | simp [*]), trivial⟩
   ·exact ((Weak.refl _).trans (Some'.weak (.take (.nil _))))
  rintro bb fr hcut
  show Run _ _ (over _ _ [(32, .bool bb)] fr) [.blk b1 24 [.int .i64 N, .slice A n c0]]
  refine .cond (b := bb) rfl (fun h32 => ?_) (fun h32 => ?_)
  ·have p32 := h32; try simp only [bs] at p32
   have hw := hcut.symm.trans h32
   simp only [Bool.and_eq_true, decide_eq_true_eq] at hw
   have hbm := bsl_mul R (j := j) (by omega)
   have htm := tms_mul R (m := j + 1) (by omega)
   refine .skip ?_
   refine .seq ?_
   refine .block ?_
   refine .sr ?_
   iterate 2 refine .m ?_
   refine .c (.int .i64 (((tms R (j + 1) : Nat) : Int))) [.slice Ar r cr, .int .i64 (((j + 1 : Nat) : Int))] Tcall_43 (fun w hs => l5Times_spec (hs.sl hsl) (m := j + 1) (by omega) (by omega) (by omega)) ?_
   refine .m ?_
   refine .dsr ?_
   refine .m ?_
   refine .w (.bool (decide ((((tms R (j + 1) : Nat) : Int)) > 1))) ?_
   rcases Bool.eq_false_or_eq_true (decide ((((tms R (j + 1) : Nat) : Int)) > 1)) with h40 | h40
   ·refine .mb h40 ?_
    have p40 := h40; try simp only [bs] at p40
    iterate 2 refine .m ?_
    refine .u (.int .i64 (((tms R (j + 1) * (j + 1) : Nat) : Int))) (.mulN rfl rfl (by omega)) ?_
    iterate 2 refine .m ?_
    refine .u (.int .i64 ((((bsl R j).1 * (bsl R j).2 : Nat) : Int))) (.mulN rfl rfl (by omega)) ?_
    refine .w (.bool (decide ((((tms R (j + 1) * (j + 1) : Nat) : Int)) > ((((bsl R j).1 * (bsl R j).2 : Nat) : Int))))) ?_
    refine .w (.bool (decide ((((tms R (j + 1) * (j + 1) : Nat) : Int)) > ((((bsl R j).1 * (bsl R j).2 : Nat) : Int))))) ?_
    refine .done ?_
    refine .cond (b := decide ((((tms R (j + 1) * (j + 1) : Nat) : Int)) > ((((bsl R j).1 * (bsl R j).2 : Nat) : Int)))) rfl (fun h48 => ?_) (fun h48 => ?_)
    ·have p48 := h48; try simp only [bs] at p48
     have hb1 := bsl_yes (L := R) (j := j) (by omega) (by omega)
     refine .sr ?_
     iterate 2 refine .m ?_
     refine .dr ?_
     iterate 2 refine .m ?_
     refine .done ?_
     refine .blockEnd ?_
     refine .region ?_
     refine .m ?_
     refine .u (.int .i64 ((((j + 1 : Nat) : Int)) + 1)) (.add rfl rfl rfl (by omega) (by omega)) ?_
     refine .m ?_
     refine .done ?_
     refine .goal ⟨(by repeat (first | exact Same.refl _ _ | refine Same.put rfl ?_ | refine Same.over rfl rfl ?_)), j + 1, ?_, ?_, ?_, ?_⟩
     ·omega
     ·omega
     ·exact ⟨(by show Value.int _ _ = Value.int _ _; rw [hb1]), (by show Value.int _ _ = Value.int _ _; rw [hb1]), (by first | rfl | (congr 1; omega) | simp), trivial⟩
     ·exact (Some'.weak (.take (.nil _)))
    have p48 := h48; try simp only [bs] at p48
    have hb1 : bsl R (j + 1) = bsl R j := bsl_no (by omega)
    refine .skip ?_
    refine .blockEnd ?_
    refine .region ?_
    refine .m ?_
    refine .u (.int .i64 ((((j + 1 : Nat) : Int)) + 1)) (.add rfl rfl rfl (by omega) (by omega)) ?_
    refine .m ?_
    refine .done ?_
    refine .goal ⟨(by repeat (first | exact Same.refl _ _ | refine Same.put rfl ?_ | refine Same.over rfl rfl ?_)), j + 1, ?_, ?_, ?_, ?_⟩
    ·omega
    ·omega
    ·exact ⟨(by show Value.int _ _ = Value.int _ _; rw [hb1]), (by show Value.int _ _ = Value.int _ _; rw [hb1]), (by first | rfl | (congr 1; omega) | simp), trivial⟩
    ·exact (Some'.weak (.take (.nil _)))
   refine .mb h40 ?_
   have p40 := h40; try simp only [bs] at p40
   have hb1 : bsl R (j + 1) = bsl R j := bsl_no (by omega)
   iterate 7 refine .pass rfl ?_
   refine .w (.bool false) ?_
   refine .done ?_
   refine .cond (b := false) rfl (fun h => nomatch h) (fun _ => ?_)
   refine .skip ?_
   refine .blockEnd ?_
   refine .region ?_
   refine .m ?_
   refine .u (.int .i64 ((((j + 1 : Nat) : Int)) + 1)) (.add rfl rfl rfl (by omega) (by omega)) ?_
   refine .m ?_
   refine .done ?_
   refine .goal ⟨(by repeat (first | exact Same.refl _ _ | refine Same.put rfl ?_ | refine Same.over rfl rfl ?_)), j + 1, ?_, ?_, ?_, ?_⟩
   ·omega
   ·omega
   ·exact ⟨(by show Value.int _ _ = Value.int _ _; rw [hb1]), (by show Value.int _ _ = Value.int _ _; rw [hb1]), (by first | rfl | (congr 1; omega) | simp), trivial⟩
   ·exact (Some'.weak (.take (.nil _)))
  have p32 := h32; try simp only [bs] at p32
  have hw := hcut.symm.trans h32
  simp only [Bool.and_eq_false_iff, decide_eq_false_iff_not] at hw
  refine .exit rfl ?_
  refine .seq ?_
  refine .seq ?_
  have hj : j = min 8 R.length := by omega
  obtain ⟨b, q, hbc⟩ : ∃ b q, bsl R j = (b, q) := ⟨_, _, rfl⟩
  have hbz := bsl_z hbc
  have hbF : bslF R = (b, q) := by rw [bslF, ← hj]; exact hbc
  rw [hbc]
  refine .region ?_
  refine .m ?_
  refine .w (.bool ((((b : Nat) : Int)) == 0)) ?_
  refine .done ?_
  refine .cond (b := (((b : Nat) : Int)) == 0) rfl (fun h52 => ?_) (fun h52 => ?_)
  ·have p52 := h52; try simp only [bs] at p52
   have hq0 : q = 0 := by omega
   obtain ⟨A2, c2, hA2, hnx⟩ := hin0.one (by omega) (hq0 ▸ hbF)
   have hfx := fl_ix (L := R) (k := 0) (by omega)
   obtain ⟨⟨g, a, e⟩, hgx⟩ : ∃ q, gx (R) 0 = q := ⟨_, rfl⟩
   rw [hgx] at hfx
   have hgm := hRk (gx (R) 0) (gx_mem (by omega))
   rw [hgx] at hgm
   simp only [Nat.zero_mul, Nat.zero_add] at hfx hgm
   have hgt := gls_take (L := R) (k := 0) (by omega) hgx
   have hg1 := gtx_len (g, a, e)
   have hfl := fl_len (R)
   have hone : out ++ (gtx (g, a, e) ++ [10]) = out ++ gls (R.take 1) := by rw [hgt]; simp [gls]
   obtain ⟨b0, o0, rfl⟩ := hsl.opn (by omega)
   refine .sr ?_
   refine .w (sv out) ?_
   refine .m ?_
   refine .u (.pointer (some ⟨b0, o0, none⟩)) (.ix 0 Tsl_22) ?_
   refine .u (.agg #[.int .i64 g, .int .i64 a, .int .i64 e]) (.loadN (cs := [.int .i64 g, .int .i64 a, .int .i64 e]) Tagg_69 rfl (Cells.arg (k := 0) hsl rfl (by omega) (by have h := pre3 (xs := fl R) (o := 0) (by omega); rw [hfx.1, hfx.2.1, hfx.2.2] at h; exact h))) ?_
   refine .c (sv (gtx (g, a, e))) [.agg #[.int .i64 g, .int .i64 a, .int .i64 e]] Tcall_44 (fun w hs => l4Text_spec hgm w) ?_
   refine .u (sv ((gtx (g, a, e)) ++ ([10]))) (.addS rfl rfl (by first | omega | (simp only [List.length_append, List.length_cons, List.length_nil]; omega))) ?_
   refine .u (sv (out ++ ((gtx (g, a, e)) ++ ([10])))) (.addS rfl rfl (by first | omega | (simp only [List.length_append, List.length_cons, List.length_nil]; omega))) ?_
   refine .w (sv (out ++ ((gtx (g, a, e)) ++ ([10])))) ?_
   refine .dsr ?_
   refine .m ?_
   refine .u (.slice A2 ((r - 1)) c2) (.sliceLE (l := 1) Tsl_22 rfl rfl rfl (by omega) hA2) ?_
   refine .m ?_
   refine .done ?_
   refine .exit rfl ?_
   refine .goal ⟨(by repeat (first | exact Same.refl _ _ | refine Same.put rfl ?_ | refine Same.over rfl rfl ?_)), (out ++ gls (R.take 1), R.drop 1, A2, (r - 1), c2), ?_, ?_, ?_, ?_⟩
   ·exact hnx
   ·first | (show r - 1 < r; omega) | (show r - b * q < r; omega)
   ·exact ⟨(congrArg sv (by first | (rw [hone]; done) | (rw [hrep]; done))), (by first | rfl | (congr 1; omega) | simp), trivial⟩
   ·exact (Some'.weak (.take (.nil _)))
  have p52 := h52; try simp only [bs] at p52
  have hq0 : ¬ q = 0 := by omega
  obtain ⟨A2, c2, hA2, hnx⟩ := hin0.rep (by omega) hbF hq0 (by omega)
  have hnd := nd_len q
  have hgl := gls_len (R.take b)
  rw [List.length_take] at hgl
  have hwr : wRs.length = 7 := rfl
  have hsb := hsl.takeF (m := b) (by omega)
  have hbl : (R.take b).length = b := by rw [List.length_take]; omega
  refine .skip ?_
  refine .sr ?_
  refine .w (sv out) ?_
  refine .m ?_
  refine .c (sv (nd q)) [.int .i64 (((q : Nat) : Int))] Tcall_42 (fun w hs => l1Num_spec (by omega) w) ?_
  refine .u (sv (wRs ++ (nd q))) (.addS rfl rfl (by first | omega | (simp only [List.length_append, List.length_cons, List.length_nil]; omega))) ?_
  refine .u (sv ((wRs ++ (nd q)) ++ ([32, 123, 10]))) (.addS rfl rfl (by first | omega | (simp only [List.length_append, List.length_cons, List.length_nil]; omega))) ?_
  refine .u (sv (out ++ ((wRs ++ (nd q)) ++ ([32, 123, 10])))) (.addS rfl rfl (by first | omega | (simp only [List.length_append, List.length_cons, List.length_nil]; omega))) ?_
  refine .w (sv (out ++ ((wRs ++ (nd q)) ++ ([32, 123, 10])))) ?_
  refine .done ?_
  refine .seq ?_
  refine .sr ?_
  iterate 2 refine .m ?_
  refine .u (.slice Ar b cr) (.sliceHN (h := b) Tsl_22 rfl rfl rfl (by omega)) ?_
  refine .u (.int .i64 (((b : Nat) : Int))) (.len Tsl_22 rfl) ?_
  refine .m ?_
  refine .done ?_
  refine .block ?_
  refine Run.loop (ι := Nat) [4, 11, 72, 73, 74, 75, 76, 77, 78, 79, 80, 81] (fun k => [(4, sv (((out ++ ((wRs ++ nd q) ++ [32, 123, 10])) ++ gls ((R.take b).take k)))), (72, .int .i64 (((k : Nat) : Int)))]) (fun k => [.blk b1 24 [.int .i64 N, .slice A n c0]]) (fun k => k ≤ b) (fun k => b - k) 0 ?_ ?_ ?_ ?_
  ·exact Nat.zero_le _
  ·exact ⟨(congrArg sv (by simp [gls])), rfl, trivial⟩
  ·exact (Some'.weak (.take (.nil _)))
  rintro k fr hinv
  show Run _ _ (over _ _ [(4, sv (((out ++ ((wRs ++ nd q) ++ [32, 123, 10])) ++ gls ((R.take b).take k)))), (72, .int .i64 (((k : Nat) : Int)))] fr) [.blk b1 24 [.int .i64 N, .slice A n c0]]
  try dsimp only at hinv
  refine .sr ?_
  refine .w (.bool (decide ((((k : Nat) : Int)) < (((b : Nat) : Int))))) ?_
  refine .done ?_
  refine .seq ?_
  refine .cond (b := decide ((((k : Nat) : Int)) < (((b : Nat) : Int)))) rfl (fun h73 => ?_) (fun h73 => ?_)
  ·have p73 := h73; try simp only [bs] at p73
   have hltk : k < b := by omega
   have hfx := fl_ix (L := R.take b) (k := k) (by omega)
   obtain ⟨⟨g, a, e⟩, hgx⟩ : ∃ q, gx (R.take b) k = q := ⟨_, rfl⟩
   rw [hgx] at hfx
   have hgm := (hRk.take b) (gx (R.take b) k) (gx_mem (by omega))
   rw [hgx] at hgm
   simp only [Nat.zero_mul, Nat.zero_add] at hfx hgm
   have hgt := gls_take (L := R.take b) (k := k) (by omega) hgx
   have hg1 := gtx_len (g, a, e)
   have hfl := fl_len (R.take b)
   have hglk := gls_len ((R.take b).take k)
   rw [List.length_take, Nat.min_eq_left (by omega)] at hglk
   obtain ⟨b0, o0, rfl⟩ := hsb.opn (by omega)
   refine .skip ?_
   refine .seq ?_
   refine .block ?_
   refine .sr ?_
   refine .u (.pointer (some ⟨b0, o0 + k * 3, none⟩)) (.ix k Tsl_22) ?_
   refine .u (.agg #[.int .i64 g, .int .i64 a, .int .i64 e]) (.loadN (cs := [.int .i64 g, .int .i64 a, .int .i64 e]) Tagg_69 rfl (Cells.arg (k := k * 3) hsb rfl (by omega) (by have h := pre3 (xs := fl (R.take b)) (o := k * 3) (by omega); rw [hfx.1, hfx.2.1, hfx.2.2] at h; exact h))) ?_
   refine .step rfl (.alloc (zs := [.int .i64 0, .int .i64 0, .int .i64 0]) Tzero_69 fun b2 => ?_)
   refine .step rfl (.storeAll (us := [.int .i64 g, .int .i64 a, .int .i64 e]) Tsize_69 rfl rfl rfl (.here _) rfl ?_)
   refine .dr ?_
   refine .w (sv (((out ++ ((wRs ++ nd q) ++ [32, 123, 10])) ++ gls ((R.take b).take k)))) ?_
   refine .u (.agg #[.int .i64 g, .int .i64 a, .int .i64 e]) (.loadN (cs := [.int .i64 g, .int .i64 a, .int .i64 e]) Tagg_69 rfl (Cells.blk (.head _) ⟨rfl, rfl, rfl, trivial⟩)) ?_
   refine .c (sv (gtx (g, a, e))) [.agg #[.int .i64 g, .int .i64 a, .int .i64 e]] Tcall_44 (fun w hs => l4Text_spec hgm w) ?_
   refine .u (sv ((gtx (g, a, e)) ++ ([10]))) (.addS rfl rfl (by first | omega | (simp only [List.length_append, List.length_cons, List.length_nil]; omega))) ?_
   refine .u (sv ((((out ++ ((wRs ++ nd q) ++ [32, 123, 10])) ++ gls ((R.take b).take k))) ++ ((gtx (g, a, e)) ++ ([10])))) (.addS rfl rfl (by first | omega | (simp only [List.length_append, List.length_cons, List.length_nil]; omega))) ?_
   refine .w (sv ((((out ++ ((wRs ++ nd q) ++ [32, 123, 10])) ++ gls ((R.take b).take k))) ++ ((gtx (g, a, e)) ++ ([10])))) ?_
   refine .done ?_
   refine .blockEnd ?_
   refine .region ?_
   refine .u (.int .i64 ((((k : Nat) : Int)) + 1)) (.add rfl rfl rfl (by omega) (by omega)) ?_
   refine .m ?_
   refine .done ?_
   refine .goal ⟨(by repeat (first | exact Same.refl _ _ | refine Same.put rfl ?_ | refine Same.over rfl rfl ?_)), k + 1, ?_, ?_, ?_, ?_⟩
   ·show k + 1 ≤ b; omega
   ·omega
   ·exact ⟨(congrArg sv (by rw [hgt, List.append_assoc])), (by first | rfl | (congr 1; omega) | simp), trivial⟩
   ·exact (Some'.weak (.skip (.take (.nil _))))
  have p73 := h73; try simp only [bs] at p73
  have hkn : k = b := by omega
  have hgk : gls ((R.take b).take k) = gls (R.take b) := by rw [List.take_of_length_le (by omega)]
  have hglk := gls_len ((R.take b).take k)
  rw [List.length_take, Nat.min_eq_left (by omega)] at hglk
  have hrep : ((out ++ ((wRs ++ nd q) ++ [32, 123, 10])) ++ gls ((R.take b).take k)) ++ [125, 10] = out ++ rpT R b q := by rw [hgk, rpT]; simp only [List.append_assoc]
  refine .exit rfl ?_
  refine .sr ?_
  refine .w (sv (((out ++ ((wRs ++ nd q) ++ [32, 123, 10])) ++ gls ((R.take b).take k)))) ?_
  refine .u (sv ((((out ++ ((wRs ++ nd q) ++ [32, 123, 10])) ++ gls ((R.take b).take k))) ++ ([125, 10]))) (.addS rfl rfl (by first | omega | (simp only [List.length_append, List.length_cons, List.length_nil]; omega))) ?_
  refine .w (sv ((((out ++ ((wRs ++ nd q) ++ [32, 123, 10])) ++ gls ((R.take b).take k))) ++ ([125, 10]))) ?_
  refine .dr ?_
  iterate 3 refine .m ?_
  refine .u (.int .i64 (((b * q : Nat) : Int))) (.mulN rfl rfl (by omega)) ?_
  refine .u (.slice A2 ((r - b * q)) c2) (.sliceLE (l := b * q) Tsl_22 rfl rfl rfl (by omega) hA2) ?_
  refine .m ?_
  refine .done ?_
  refine .blockEnd ?_
  refine .goal ⟨(by repeat (first | exact Same.refl _ _ | refine Same.put rfl ?_ | refine Same.over rfl rfl ?_)), (out ++ rpT R b q, R.drop (b * q), A2, (r - b * q), c2), ?_, ?_, ?_, ?_⟩
  ·exact hnx
  ·first | (show r - 1 < r; omega) | (show r - b * q < r; omega)
  ·exact ⟨(congrArg sv (by first | (rw [hone]; done) | (rw [hrep]; done))), (by first | rfl | (congr 1; omega) | simp), trivial⟩
  ·exact (Some'.weak (.take (.nil _)))
 have p24 := h24; try simp only [bs] at p24
 have hout := hin0.end_ (by omega)
 refine .exit rfl ?_
 refine .seq ?_
 refine .sr ?_
 refine .w (sv out) ?_
 refine .u (.int .i64 (((out.length : Nat) : Int))) (.lenS Tstr_9 rfl) ?_
 refine .w (.bool (decide ((((out.length : Nat) : Int)) > 8000))) ?_
 refine .done ?_
 refine .cond (b := decide ((((out.length : Nat) : Int)) > 8000)) rfl (fun h91 => ?_) (fun h91 => ?_)
 ·have p91 := h91; try simp only [bs] at p91
  have hfl := fd_long (n := n) hout (by omega)
  refine .sr ?_
  refine .w (sv ([])) ?_
  refine .m ?_
  refine .done ?_
  refine .ret ?_
  refine ⟨.tuple #[sv ([]), .bool false], [], Out.two rfl rfl rfl, (Some'.weak (.nil _)), ?_⟩
  first | (rw [(fd_bad p14).1, (fd_bad p14).2]; done) | (rw [hfl.1, hfl.2]; done)
 have p91 := h91; try simp only [bs] at p91
 have hfl := fd_good p14 hout (by omega)
 refine .skip ?_
 refine .sr ?_
 refine .w (sv out) ?_
 refine .w (sv out) ?_
 refine .m ?_
 refine .done ?_
 refine .ret ?_
 refine ⟨.tuple #[sv out, .bool true], [], Out.two rfl rfl rfl, (Some'.weak (.nil _)), ?_⟩
 first | (rw [(fd_bad p14).1, (fd_bad p14).2]; done) | (rw [hfl.1, hfl.2]; done)

end Go.Proofs.YtgpkpopbajkklaaGreatDoor
