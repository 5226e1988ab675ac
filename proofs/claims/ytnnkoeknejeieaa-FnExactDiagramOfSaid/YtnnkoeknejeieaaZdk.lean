/- Walk: IsValidDiagram. -/
import Derived.Test.YtnnkoeknejeieaaZdj
import Derived.Test.YtnnkoeknejeieaaProg
set_option linter.unusedSimpArgs false
set_option linter.unusedVariables false
namespace Go.Proofs.Ytnnkoeknejeieaa
open Go Go.RowKit
namespace ZdkT
theorem Tagg_29 : aggOf Try.prog 29 = some 5 := by kernel_rfl
theorem Tagg_52 : aggOf Try.prog 52 = some 2 := by kernel_rfl
theorem Tagg_71 : aggOf Try.prog 71 = some 3 := by kernel_rfl
theorem Tcall_38 : callable Try.prog 38 = true := by kernel_rfl
theorem Tcall_62 : callable Try.prog 62 = true := by kernel_rfl
theorem Tcall_63 : callable Try.prog 63 = true := by kernel_rfl
theorem Tcall_66 : callable Try.prog 66 = true := by kernel_rfl
theorem Tcall_67 : callable Try.prog 67 = true := by kernel_rfl
theorem Tfo_29_0 : fieldOff Try.prog 29 0 = some 0 := by kernel_rfl
theorem Tfo_29_1 : fieldOff Try.prog 29 1 = some 1 := by kernel_rfl
theorem Tfo_29_2 : fieldOff Try.prog 29 2 = some 2 := by kernel_rfl
theorem Tfo_29_3 : fieldOff Try.prog 29 3 = some 3 := by kernel_rfl
theorem Tfo_29_4 : fieldOff Try.prog 29 4 = some 4 := by kernel_rfl
theorem Tfo_52_0 : fieldOff Try.prog 52 0 = some 0 := by kernel_rfl
theorem Tfo_71_0 : fieldOff Try.prog 71 0 = some 0 := by kernel_rfl
theorem Tfo_71_1 : fieldOff Try.prog 71 1 = some 1 := by kernel_rfl
theorem Tone_26 : oneOf Try.prog 26 = true := by kernel_rfl
theorem Tone_27 : oneOf Try.prog 27 = true := by kernel_rfl
theorem Tone_3 : oneOf Try.prog 3 = true := by kernel_rfl
theorem Tsize_52 : (Try.prog.info? 52).map (·.size) = some 2 := by kernel_rfl
theorem Tsize_71 : (Try.prog.info? 71).map (·.size) = some 3 := by kernel_rfl
theorem Tsl_26 : sliceOf Try.prog 26 = some (52, 2, 16, [.int .i64 0, .int .i64 0]) := by kernel_rfl
theorem Tsl_27 : sliceOf Try.prog 27 = some (71, 3, 24, [.int .i64 0, .int .i64 0, .bool false]) := by kernel_rfl
theorem Tzero_52 : zeroOf Try.prog 52 = some [.int .i64 0, .int .i64 0] := by kernel_rfl
theorem Tzero_71 : zeroOf Try.prog 71 = some [.int .i64 0, .int .i64 0, .bool false] := by kernel_rfl
end ZdkT
open ZdkT

theorem within_true {x lo hi : Int} {w : World} (h : within x lo hi = true) : Calls Try.prog 38 #[.int .i64 x, .int .i64 lo, .int .i64 hi] w (Post No w fun v _ => v = .bool true) := by
  have h1 := within_spec x lo hi w
  rw [h] at h1; exact h1
theorem gdP_no {Q : Nat} {L : List N2} {ws : List W3} {t rt : Int} (h : 40 < L.length ∨ within t 0 7 = false ∨ within rt (-60) 60 = false ∨ anyI (fun i => !isNd Q (ndx L i)) L.length = true ∨ endsP Q L = false) : gdP Q L ws t rt = false := by
  rcases h with h | h | h | h | h
  · rw [gdP, decide_eq_false (by omega)]; rfl
  · rw [gdP, h]; simp
  · rw [gdP, h]; simp
  · rw [gdP, allI, h]; simp
  · rw [gdP, h]; simp
theorem gdP_yes {Q : Nat} {L : List N2} {ws : List W3} {t rt : Int} (h1 : L.length ≤ 40) (h2 : within t 0 7 = true) (h3 : within rt (-60) 60 = true) (h4 : anyI (fun i => !isNd Q (ndx L i)) L.length = false) (h5 : endsP Q L = true) : gdP Q L ws t rt = (allI (wOk L.length ws) ws.length && allI (dgOk L ws) L.length) := by
  rw [gdP, decide_eq_true h1, h2, h3, allI, h4, h5]; rfl

set_option maxHeartbeats 4000000 in
set_option maxRecDepth 20000 in
theorem IsValidDiagram_spec {Q : Nat} {t r : Int} {va vw : Value} {n m : Nat} {L : List N2} {ws : List W3} {w : World} (hQ : 1 ≤ Q ∧ Q ≤ 5) (ha : Sl w va 2 n (nds L)) (hw : Sl w vw 3 m (wls ws)) : Calls Try.prog 47 #[.agg #[.int .i64 (Q : Nat), va, vw, .int .i64 t, .int .i64 r]] w (Post No w fun v _ => v = .bool (gdP Q L ws t r)) := by
 have hwQ : within (Q : Nat) 1 5 = true := within_iff.2 (by omega)
 have hLn : L.length = n := ha.nlen
 have hn := ha.le
 obtain ⟨A, c, rfl, _, _⟩ := ha.form0
 have hLm : ws.length = m := hw.wlen
 have hm := hw.le
 obtain ⟨Aw, cw, rfl, _, _⟩ := hw.form0
 refine enter (n := 116) (args := [.agg #[.int .i64 (((Q : Nat) : Int)), .slice A n c, .slice Aw m cw, .int .i64 t, .int .i64 r]]) Try.func47 rfl rfl (St.empty _ _) ?_
 refine .sr ?_
 refine .step rfl (.box (us := [.int .i64 (((Q : Nat) : Int)), .slice A n c, .slice Aw m cw, .int .i64 t, .int .i64 r]) rfl fun b1 => ?_)
 refine .m ?_
 refine .done ?_
 refine .seq ?_
 refine .sr ?_
 refine .fa Tfo_29_0 ?_
 refine .u (.int .i64 (((Q : Nat) : Int))) (.load1 Tone_3 rfl (.b (.head _))) ?_
 refine .c (.bool true) [.int .i64 (((Q : Nat) : Int)), .int .i64 1, .int .i64 5] Tcall_38 (fun w hs => within_true hwQ) ?_
 refine .w (.bool false) ?_
 refine .m ?_
 refine .fa Tfo_29_1 ?_
 refine .u (.slice A n c) (.load1 Tone_26 rfl (.b (.head _))) ?_
 refine .u (.int .i64 (((n : Nat) : Int))) (.len Tsl_26 rfl) ?_
 refine .w (.bool (decide ((((n : Nat) : Int)) > 40))) ?_
 refine .w (.bool (decide ((((n : Nat) : Int)) > 40))) ?_
 rcases Bool.eq_false_or_eq_true (decide ((((n : Nat) : Int)) > 40)) with h17 | h17
 ·refine .mb h17 ?_
  have p17 := h17; try simp only [bs] at p17
  iterate 4 refine .pass rfl ?_
  refine .w (.bool true) ?_
  refine .m ?_
  iterate 4 refine .pass rfl ?_
  refine .w (.bool true) ?_
  refine .m ?_
  iterate 4 refine .pass rfl ?_
  refine .w (.bool true) ?_
  refine .m ?_
  iterate 3 refine .pass rfl ?_
  refine .w (.bool true) ?_
  refine .done ?_
  refine .cond (b := true) rfl (fun _ => ?_) (fun h => nomatch h)
  refine .seq ?_
  have hres : gdP Q L ws t r = false := gdP_no (by rw [hLn]; first | (left; omega) | (right; left; simp_all; done) | (right; right; left; simp_all; done) | (right; right; right; left; simp_all; done) | (right; right; right; right; simp_all; done))
  refine .region ?_
  refine .m ?_
  refine .done ?_
  refine .ret ?_
  refine ⟨.bool false, [], Out.one rfl rfl, (Some'.weak (.nil _)), ?_⟩
  show _ = _; rw [hres]
 refine .mb h17 ?_
 have p17 := h17; try simp only [bs] at p17
 refine .fa Tfo_29_3 ?_
 refine .u (.int .i64 t) (.load1 Tone_3 rfl (.b (.head _))) ?_
 refine .c (.bool (within t 0 7)) [.int .i64 t, .int .i64 0, .int .i64 7] Tcall_38 (fun w hs => within_spec _ _ _ w) ?_
 refine .w (.bool (!(within t 0 7))) ?_
 refine .w (.bool (!(within t 0 7))) ?_
 rcases Bool.eq_false_or_eq_true (!(within t 0 7)) with h23 | h23
 ·refine .mb h23 ?_
  have p23 := h23; try simp only [bs] at p23
  iterate 4 refine .pass rfl ?_
  refine .w (.bool true) ?_
  refine .m ?_
  iterate 4 refine .pass rfl ?_
  refine .w (.bool true) ?_
  refine .m ?_
  iterate 3 refine .pass rfl ?_
  refine .w (.bool true) ?_
  refine .done ?_
  refine .cond (b := true) rfl (fun _ => ?_) (fun h => nomatch h)
  refine .seq ?_
  have hres : gdP Q L ws t r = false := gdP_no (by rw [hLn]; first | (left; omega) | (right; left; simp_all; done) | (right; right; left; simp_all; done) | (right; right; right; left; simp_all; done) | (right; right; right; right; simp_all; done))
  refine .region ?_
  refine .m ?_
  refine .done ?_
  refine .ret ?_
  refine ⟨.bool false, [], Out.one rfl rfl, (Some'.weak (.nil _)), ?_⟩
  show _ = _; rw [hres]
 refine .mb h23 ?_
 have p23 := h23; try simp only [bs] at p23
 refine .fa Tfo_29_4 ?_
 refine .u (.int .i64 r) (.load1 Tone_3 rfl (.b (.head _))) ?_
 refine .c (.bool (within r (-60) 60)) [.int .i64 r, .int .i64 (-60), .int .i64 60] Tcall_38 (fun w hs => within_spec _ _ _ w) ?_
 refine .w (.bool (!(within r (-60) 60))) ?_
 refine .w (.bool (!(within r (-60) 60))) ?_
 rcases Bool.eq_false_or_eq_true (!(within r (-60) 60)) with h29 | h29
 ·refine .mb h29 ?_
  have p29 := h29; try simp only [bs] at p29
  iterate 4 refine .pass rfl ?_
  refine .w (.bool true) ?_
  refine .m ?_
  iterate 3 refine .pass rfl ?_
  refine .w (.bool true) ?_
  refine .done ?_
  refine .cond (b := true) rfl (fun _ => ?_) (fun h => nomatch h)
  refine .seq ?_
  have hres : gdP Q L ws t r = false := gdP_no (by rw [hLn]; first | (left; omega) | (right; left; simp_all; done) | (right; right; left; simp_all; done) | (right; right; right; left; simp_all; done) | (right; right; right; right; simp_all; done))
  refine .region ?_
  refine .m ?_
  refine .done ?_
  refine .ret ?_
  refine ⟨.bool false, [], Out.one rfl rfl, (Some'.weak (.nil _)), ?_⟩
  show _ = _; rw [hres]
 refine .mb h29 ?_
 have p29 := h29; try simp only [bs] at p29
 refine .fa Tfo_29_1 ?_
 refine .u (.slice A n c) (.load1 Tone_26 rfl (.b (.head _))) ?_
 refine .u (.func (.func 64) #[] #[.pointer (some ⟨b1, 0, none⟩)]) (.makeFunc (caps := [.pointer (some ⟨b1, 0, none⟩)]) rfl) ?_
 refine .c (.bool (anyI (fun i => !isNd Q (ndx L i)) n)) [.slice A n c, .func (.func 64) #[] #[.pointer (some ⟨b1, 0, none⟩)]] Tcall_63 (fun w hs => ContainsFuncNode_spec (hs.sl ha) hQ (hs.slBlk (.head _))) ?_
 refine .w (.bool (anyI (fun i => !isNd Q (ndx L i)) n)) ?_
 rcases Bool.eq_false_or_eq_true (anyI (fun i => !isNd Q (ndx L i)) n) with h35 | h35
 ·refine .mb h35 ?_
  have p35 := h35; try simp only [bs] at p35
  iterate 3 refine .pass rfl ?_
  refine .w (.bool true) ?_
  refine .done ?_
  refine .cond (b := true) rfl (fun _ => ?_) (fun h => nomatch h)
  refine .seq ?_
  have hres : gdP Q L ws t r = false := gdP_no (by rw [hLn]; first | (left; omega) | (right; left; simp_all; done) | (right; right; left; simp_all; done) | (right; right; right; left; simp_all; done) | (right; right; right; right; simp_all; done))
  refine .region ?_
  refine .m ?_
  refine .done ?_
  refine .ret ?_
  refine ⟨.bool false, [], Out.one rfl rfl, (Some'.weak (.nil _)), ?_⟩
  show _ = _; rw [hres]
 refine .mb h35 ?_
 have p35 := h35; try simp only [bs] at p35
 refine .u (.agg #[.int .i64 (((Q : Nat) : Int)), .slice A n c, .slice Aw m cw, .int .i64 t, .int .i64 r]) (.loadN (cs := [.int .i64 (((Q : Nat) : Int)), .slice A n c, .slice Aw m cw, .int .i64 t, .int .i64 r]) Tagg_29 rfl (Cells.blk (.head _) ⟨rfl, rfl, rfl, rfl, rfl, trivial⟩)) ?_
 refine .c (.bool (endsP Q L)) [.agg #[.int .i64 (((Q : Nat) : Int)), .slice A n c, .slice Aw m cw, .int .i64 t, .int .i64 r]] Tcall_66 (fun w hs => hasEnds_spec hQ (hs.sl ha) (by omega)) ?_
 refine .w (.bool (!(endsP Q L))) ?_
 refine .w (.bool (!(endsP Q L))) ?_
 refine .done ?_
 refine .cond (b := !(endsP Q L)) rfl (fun h39 => ?_) (fun h39 => ?_)
 ·have p39 := h39; try simp only [bs] at p39
  refine .seq ?_
  have hres : gdP Q L ws t r = false := gdP_no (by rw [hLn]; first | (left; omega) | (right; left; simp_all; done) | (right; right; left; simp_all; done) | (right; right; right; left; simp_all; done) | (right; right; right; right; simp_all; done))
  refine .region ?_
  refine .m ?_
  refine .done ?_
  refine .ret ?_
  refine ⟨.bool false, [], Out.one rfl rfl, (Some'.weak (.nil _)), ?_⟩
  show _ = _; rw [hres]
 have p39 := h39; try simp only [bs] at p39
 refine .skip ?_
 refine .seq ?_
 refine .seq ?_
 have hpre : gdP Q L ws t r = (allI (wOk L.length ws) ws.length && allI (dgOk L ws) L.length) := gdP_yes (by omega) (by simp_all) (by simp_all) (by rw [hLn]; simp_all) (by simp_all)
 refine .region ?_
 refine .fa Tfo_29_2 ?_
 refine .u (.slice Aw m cw) (.load1 Tone_27 rfl (.b (.head _))) ?_
 refine .u (.int .i64 (((m : Nat) : Int))) (.len Tsl_27 rfl) ?_
 refine .m ?_
 refine .done ?_
 refine .block ?_
 refine Run.loop (ι := Nat) [2, 3, 4, 43, 44, 45, 46, 47, 48, 49, 50, 51, 52, 53, 54, 55, 56, 57, 58, 59, 60, 61, 62, 63, 64, 65, 66, 67, 68, 69, 70, 71, 72, 73, 74, 75, 76, 77, 78, 79, 80, 81] (fun k => [(43, .int .i64 (((k : Nat) : Int)))]) (fun k => [.blk b1 29 [.int .i64 (((Q : Nat) : Int)), .slice A n c, .slice Aw m cw, .int .i64 t, .int .i64 r]]) (fun k => k ≤ m ∧ ∀ j, j < k → wOk L.length ws j = true) (fun k => m - k) 0 ?_ ?_ ?_ ?_
 ·exact ⟨Nat.zero_le _, fun i hi => by omega⟩
 ·exact ⟨rfl, trivial⟩
 ·exact (Some'.weak (.take (.nil _)))
 rintro k fr hinv
 show Run _ _ (over _ _ [(43, .int .i64 (((k : Nat) : Int)))] fr) [.blk b1 29 [.int .i64 (((Q : Nat) : Int)), .slice A n c, .slice Aw m cw, .int .i64 t, .int .i64 r]]
 try dsimp only at hinv
 refine .sr ?_
 refine .w (.bool (decide ((((k : Nat) : Int)) < (((m : Nat) : Int))))) ?_
 refine .done ?_
 refine .seq ?_
 refine .cond (b := decide ((((k : Nat) : Int)) < (((m : Nat) : Int)))) rfl (fun h44 => ?_) (fun h44 => ?_)
 ·have p44 := h44; try simp only [bs] at p44
  have hltk : k < m := by omega
  obtain ⟨bw, ow, rfl⟩ := hw.opn (by omega)
  refine .skip ?_
  refine .seq ?_
  refine .block ?_
  refine .sr ?_
  refine .m ?_
  refine .u (.pointer (some ⟨bw, ow + k * 3, none⟩)) (.ix k Tsl_27) ?_
  refine .u (.agg #[.int .i64 ((wx ws k).1), .int .i64 ((wx ws k).2.1), .bool ((wx ws k).2.2)]) (.loadN (cs := [.int .i64 ((wx ws k).1), .int .i64 ((wx ws k).2.1), .bool ((wx ws k).2.2)]) Tagg_71 rfl (Cells.arg (k := k * 3) hw rfl (by omega) (preW (k := k) (by omega)))) ?_
  refine .step rfl (.alloc (zs := [.int .i64 0, .int .i64 0, .bool false]) Tzero_71 fun b2 => ?_)
  refine .m ?_
  refine .step rfl (.storeAll (us := [.int .i64 ((wx ws k).1), .int .i64 ((wx ws k).2.1), .bool ((wx ws k).2.2)]) Tsize_71 rfl rfl rfl (.here _) rfl ?_)
  refine .done ?_
  refine .seq ?_
  refine .draws (by kernel_rfl) (by kernel_rfl) ?_
  refine .u (.pointer (some ⟨b2, 0, none⟩)) (.fieldAddr Tfo_71_0 rfl rfl) ?_
  refine .u (.int .i64 ((wx ws k).1)) (.load1 Tone_3 rfl (.b (.head _))) ?_
  refine .w (.bool (decide (((wx ws k).1) < 0))) ?_
  rcases Bool.eq_false_or_eq_true (decide (((wx ws k).1) < 0)) with h51 | h51
  ·refine .u (.bool true) (.moveB rfl h51) ?_
   have p51 := h51; try simp only [bs] at p51
   iterate 5 refine .pass rfl ?_
   refine .w (.bool true) ?_
   refine .m ?_
   iterate 6 refine .pass rfl ?_
   refine .w (.bool true) ?_
   refine .m ?_
   iterate 13 refine .pass rfl ?_
   refine .w (.bool true) ?_
   refine .done ?_
   refine .cond (b := true) rfl (fun _ => ?_) (fun h => nomatch h)
   refine .seq ?_
   have hbad : wOk L.length ws k = false := by
    cases hb : wOk L.length ws k with
    | false => rfl
    | true =>
     exfalso
     have hcw := cw_ge (wx ws (k - 1)) (wx ws k)
     rw [wOk, hLn] at hb
     simp only [Bool.and_eq_true, Bool.or_eq_true, decide_eq_true_eq] at hb
     first | omega | (simp_all; done) | (simp_all; omega)
   have hres : gdP Q L ws t r = false := by rw [hpre, allI_false (i := k) (by omega) hbad]; rfl
   refine .region ?_
   refine .m ?_
   refine .done ?_
   refine .ret ?_
   refine ⟨.bool false, [], Out.one rfl rfl, (Some'.weak (.nil _)), ?_⟩
   show _ = _; rw [hres]
  refine .u (.bool false) (.moveB rfl h51) ?_
  have p51 := h51; try simp only [bs] at p51
  refine .u (.pointer (some ⟨b2, 0, none⟩)) (.fieldAddr Tfo_71_0 rfl rfl) ?_
  refine .u (.int .i64 ((wx ws k).1)) (.load1 Tone_3 rfl (.b (.head _))) ?_
  refine .u (.pointer (some ⟨b2, 1, none⟩)) (.fieldAddr Tfo_71_1 rfl rfl) ?_
  refine .u (.int .i64 ((wx ws k).2.1)) (.load1 Tone_3 rfl (.b (.head _))) ?_
  refine .w (.bool (decide (((wx ws k).1) ≥ ((wx ws k).2.1)))) ?_
  refine .w (.bool (decide (((wx ws k).1) ≥ ((wx ws k).2.1)))) ?_
  rcases Bool.eq_false_or_eq_true (decide (((wx ws k).1) ≥ ((wx ws k).2.1))) with h58 | h58
  ·refine .u (.bool true) (.moveB rfl h58) ?_
   have p58 := h58; try simp only [bs] at p58
   iterate 6 refine .pass rfl ?_
   refine .w (.bool true) ?_
   refine .m ?_
   iterate 13 refine .pass rfl ?_
   refine .w (.bool true) ?_
   refine .done ?_
   refine .cond (b := true) rfl (fun _ => ?_) (fun h => nomatch h)
   refine .seq ?_
   have hbad : wOk L.length ws k = false := by
    cases hb : wOk L.length ws k with
    | false => rfl
    | true =>
     exfalso
     have hcw := cw_ge (wx ws (k - 1)) (wx ws k)
     rw [wOk, hLn] at hb
     simp only [Bool.and_eq_true, Bool.or_eq_true, decide_eq_true_eq] at hb
     first | omega | (simp_all; done) | (simp_all; omega)
   have hres : gdP Q L ws t r = false := by rw [hpre, allI_false (i := k) (by omega) hbad]; rfl
   refine .region ?_
   refine .m ?_
   refine .done ?_
   refine .ret ?_
   refine ⟨.bool false, [], Out.one rfl rfl, (Some'.weak (.nil _)), ?_⟩
   show _ = _; rw [hres]
  refine .u (.bool false) (.moveB rfl h58) ?_
  have p58 := h58; try simp only [bs] at p58
  refine .u (.pointer (some ⟨b2, 1, none⟩)) (.fieldAddr Tfo_71_1 rfl rfl) ?_
  refine .u (.int .i64 ((wx ws k).2.1)) (.load1 Tone_3 rfl (.b (.head _))) ?_
  refine .u (.pointer (some ⟨b1, 1, none⟩)) (.fieldAddr Tfo_29_1 rfl rfl) ?_
  refine .u (.slice A n c) (.load1 Tone_26 rfl (.b (.tail _ (.head _)))) ?_
  refine .u (.int .i64 (((n : Nat) : Int))) (.len Tsl_26 rfl) ?_
  refine .w (.bool (decide (((wx ws k).2.1) ≥ (((n : Nat) : Int))))) ?_
  refine .w (.bool (decide (((wx ws k).2.1) ≥ (((n : Nat) : Int))))) ?_
  rcases Bool.eq_false_or_eq_true (decide (((wx ws k).2.1) ≥ (((n : Nat) : Int)))) with h66 | h66
  ·refine .u (.bool true) (.moveB rfl h66) ?_
   have p66 := h66; try simp only [bs] at p66
   iterate 13 refine .pass rfl ?_
   refine .w (.bool true) ?_
   refine .done ?_
   refine .cond (b := true) rfl (fun _ => ?_) (fun h => nomatch h)
   refine .seq ?_
   have hbad : wOk L.length ws k = false := by
    cases hb : wOk L.length ws k with
    | false => rfl
    | true =>
     exfalso
     have hcw := cw_ge (wx ws (k - 1)) (wx ws k)
     rw [wOk, hLn] at hb
     simp only [Bool.and_eq_true, Bool.or_eq_true, decide_eq_true_eq] at hb
     first | omega | (simp_all; done) | (simp_all; omega)
   have hres : gdP Q L ws t r = false := by rw [hpre, allI_false (i := k) (by omega) hbad]; rfl
   refine .region ?_
   refine .m ?_
   refine .done ?_
   refine .ret ?_
   refine ⟨.bool false, [], Out.one rfl rfl, (Some'.weak (.nil _)), ?_⟩
   show _ = _; rw [hres]
  refine .u (.bool false) (.moveB rfl h66) ?_
  have p66 := h66; try simp only [bs] at p66
  refine .m ?_
  refine .w (.bool (decide ((((k : Nat) : Int)) > 0))) ?_
  rcases Bool.eq_false_or_eq_true (decide ((((k : Nat) : Int)) > 0)) with h69 | h69
  ·refine .u (.bool true) (.moveB rfl h69) ?_
   have p69 := h69; try simp only [bs] at p69
   refine .u (.pointer (some ⟨b1, 2, none⟩)) (.fieldAddr Tfo_29_2 rfl rfl) ?_
   refine .u (.slice (some ⟨bw, ow, none⟩) m cw) (.load1 Tone_27 rfl (.b (.tail _ (.head _)))) ?_
   refine .m ?_
   refine .u (.int .i64 (((k - 1 : Nat) : Int))) (.sub rfl rfl (by omega) (by omega) (by omega)) ?_
   refine .u (.pointer (some ⟨bw, ow + (k - 1) * 3, none⟩)) (.ix (k - 1) Tsl_27) ?_
   refine .u (.agg #[.int .i64 ((wx ws (k - 1)).1), .int .i64 ((wx ws (k - 1)).2.1), .bool ((wx ws (k - 1)).2.2)]) (.loadN (cs := [.int .i64 ((wx ws (k - 1)).1), .int .i64 ((wx ws (k - 1)).2.1), .bool ((wx ws (k - 1)).2.2)]) Tagg_71 rfl (Cells.arg (k := (k - 1) * 3) hw rfl (by omega) (preW (k := k - 1) (by omega)))) ?_
   refine .u (.agg #[.int .i64 ((wx ws k).1), .int .i64 ((wx ws k).2.1), .bool ((wx ws k).2.2)]) (.loadN (cs := [.int .i64 ((wx ws k).1), .int .i64 ((wx ws k).2.1), .bool ((wx ws k).2.2)]) Tagg_71 rfl (Cells.blk (.head _) ⟨rfl, rfl, rfl, trivial⟩)) ?_
   refine Lex.q (v := .int .i64 (cwW (wx ws (k - 1)) (wx ws k))) rfl (OpQ.call (vs := [.agg #[.int .i64 ((wx ws (k - 1)).1), .int .i64 ((wx ws (k - 1)).2.1), .bool ((wx ws (k - 1)).2.2)], .agg #[.int .i64 ((wx ws k).1), .int .i64 ((wx ws k).2.1), .bool ((wx ws k).2.2)]]) (caps := []) Tcall_62 rfl rfl (fun w hs => compareWires_spec _ _ _ _ _ _ w)) ?_
   refine .w (.bool (decide ((cwW (wx ws (k - 1)) (wx ws k)) ≥ 0))) ?_
   refine .w (.bool (decide ((cwW (wx ws (k - 1)) (wx ws k)) ≥ 0))) ?_
   refine .w (.bool (decide ((cwW (wx ws (k - 1)) (wx ws k)) ≥ 0))) ?_
   refine .done ?_
   refine .cond (b := decide ((cwW (wx ws (k - 1)) (wx ws k)) ≥ 0)) rfl (fun h80 => ?_) (fun h80 => ?_)
   ·have p80 := h80; try simp only [bs] at p80
    refine .seq ?_
    have hbad : wOk L.length ws k = false := by
     cases hb : wOk L.length ws k with
     | false => rfl
     | true =>
      exfalso
      have hcw := cw_ge (wx ws (k - 1)) (wx ws k)
      rw [wOk, hLn] at hb
      simp only [Bool.and_eq_true, Bool.or_eq_true, decide_eq_true_eq] at hb
      first | omega | (simp_all; done) | (simp_all; omega)
    have hres : gdP Q L ws t r = false := by rw [hpre, allI_false (i := k) (by omega) hbad]; rfl
    refine .region ?_
    refine .m ?_
    refine .done ?_
    refine .ret ?_
    refine ⟨.bool false, [], Out.one rfl rfl, (Some'.weak (.nil _)), ?_⟩
    show _ = _; rw [hres]
   have p80 := h80; try simp only [bs] at p80
   refine .skip ?_
   refine .blockEnd ?_
   have hgood : wOk L.length ws k = true := by
    have hcw := cw_ge (wx ws (k - 1)) (wx ws k)
    rw [wOk, hLn]
    simp only [Bool.and_eq_true, Bool.or_eq_true, decide_eq_true_eq]
    refine ⟨⟨⟨by omega, by omega⟩, by omega⟩, ?_⟩
    first | (left; omega) | (right; simp_all; done)
   refine .region ?_
   refine .u (.int .i64 ((((k : Nat) : Int)) + 1)) (.add rfl rfl rfl (by omega) (by omega)) ?_
   refine .m ?_
   refine .done ?_
   refine .goal ⟨(by repeat (first | exact Same.refl _ _ | refine Same.put rfl ?_ | refine Same.over rfl rfl ?_)), k + 1, ?_, ?_, ?_, ?_⟩
   ·refine ⟨by omega, fun j hj => ?_⟩
    rcases Nat.lt_succ_iff_lt_or_eq.1 hj with h | h
    ·exact hinv.2 j h
    ·rw [h]; exact hgood
   ·omega
   ·exact ⟨(by first | rfl | (congr 1; omega) | simp), trivial⟩
   ·exact (Some'.weak (.skip (.takeEq (by first | rfl | simp) (.nil _))))
  refine .u (.bool false) (.moveB rfl h69) ?_
  have p69 := h69; try simp only [bs] at p69
  iterate 9 refine .pass rfl ?_
  refine .w (.bool false) ?_
  refine .w (.bool false) ?_
  refine .done ?_
  refine .cond (b := false) rfl (fun h => nomatch h) (fun _ => ?_)
  refine .skip ?_
  refine .blockEnd ?_
  have hgood : wOk L.length ws k = true := by
   have hcw := cw_ge (wx ws (k - 1)) (wx ws k)
   rw [wOk, hLn]
   simp only [Bool.and_eq_true, Bool.or_eq_true, decide_eq_true_eq]
   refine ⟨⟨⟨by omega, by omega⟩, by omega⟩, ?_⟩
   first | (left; omega) | (right; simp_all; done)
  refine .region ?_
  refine .u (.int .i64 ((((k : Nat) : Int)) + 1)) (.add rfl rfl rfl (by omega) (by omega)) ?_
  refine .m ?_
  refine .done ?_
  refine .goal ⟨(by repeat (first | exact Same.refl _ _ | refine Same.put rfl ?_ | refine Same.over rfl rfl ?_)), k + 1, ?_, ?_, ?_, ?_⟩
  ·refine ⟨by omega, fun j hj => ?_⟩
   rcases Nat.lt_succ_iff_lt_or_eq.1 hj with h | h
   ·exact hinv.2 j h
   ·rw [h]; exact hgood
  ·omega
  ·exact ⟨(by first | rfl | (congr 1; omega) | simp), trivial⟩
  ·exact (Some'.weak (.skip (.takeEq (by first | rfl | simp) (.nil _))))
 have p44 := h44; try simp only [bs] at p44
 have hkm : k = m := by omega
 have hwok : allI (wOk L.length ws) ws.length = true := allI_iff.2 (by rw [hLm, ← hkm]; exact hinv.2)
 refine .exit rfl ?_
 refine .seq ?_
 refine .sr ?_
 refine .fa Tfo_29_1 ?_
 refine .u (.slice A n c) (.load1 Tone_26 rfl (.b (.head _))) ?_
 refine .u (.int .i64 (((n : Nat) : Int))) (.len Tsl_26 rfl) ?_
 refine .m ?_
 refine .done ?_
 refine .block ?_
 refine Run.loop (ι := Nat) [2, 5, 6, 85, 86, 87, 88, 89, 90, 91, 92, 93, 94, 95, 96, 97, 98, 99, 100, 101, 102, 103, 104, 105, 106, 107, 108, 109, 110, 111, 112, 113, 114, 115] (fun i => [(85, .int .i64 (((i : Nat) : Int)))]) (fun i => [.blk b1 29 [.int .i64 (((Q : Nat) : Int)), .slice A n c, .slice Aw m cw, .int .i64 t, .int .i64 r]]) (fun i => i ≤ n ∧ ∀ j, j < i → dgOk L ws j = true) (fun i => n - i) 0 ?_ ?_ ?_ ?_
 ·exact ⟨Nat.zero_le _, fun i hi => by omega⟩
 ·exact ⟨rfl, trivial⟩
 ·exact (Some'.weak (.take (.nil _)))
 rintro i fr hinv
 show Run _ _ (over _ _ [(85, .int .i64 (((i : Nat) : Int)))] fr) [.blk b1 29 [.int .i64 (((Q : Nat) : Int)), .slice A n c, .slice Aw m cw, .int .i64 t, .int .i64 r]]
 try dsimp only at hinv
 refine .sr ?_
 refine .w (.bool (decide ((((i : Nat) : Int)) < (((n : Nat) : Int))))) ?_
 refine .done ?_
 refine .seq ?_
 refine .cond (b := decide ((((i : Nat) : Int)) < (((n : Nat) : Int)))) rfl (fun h86 => ?_) (fun h86 => ?_)
 ·have p86 := h86; try simp only [bs] at p86
  have hlti : i < n := by omega
  obtain ⟨ba, oa, rfl⟩ := ha.opn (by omega)
  refine .skip ?_
  refine .seq ?_
  refine .block ?_
  refine .sr ?_
  refine .m ?_
  refine .u (.pointer (some ⟨ba, oa + i * 2, none⟩)) (.ix i Tsl_26) ?_
  refine .u (.agg #[.int .i64 ((ndx L i).1), .int .i64 ((ndx L i).2)]) (.loadN (cs := [.int .i64 ((ndx L i).1), .int .i64 ((ndx L i).2)]) Tagg_52 rfl (Cells.arg (k := i * 2) ha rfl (by omega) (preN (k := i) (by omega)))) ?_
  refine .step rfl (.alloc (zs := [.int .i64 0, .int .i64 0]) Tzero_52 fun b3 => ?_)
  refine .m ?_
  refine .step rfl (.storeAll (us := [.int .i64 ((ndx L i).1), .int .i64 ((ndx L i).2)]) Tsize_52 rfl rfl rfl (.here _) rfl ?_)
  refine .dsr ?_
  refine .fa Tfo_52_0 ?_
  refine .u (.int .i64 ((ndx L i).1)) (.load1 Tone_3 rfl (.b (.head _))) ?_
  refine .w (.bool (((ndx L i).1) == 0)) ?_
  rcases Bool.eq_false_or_eq_true (((ndx L i).1) == 0) with h93 | h93
  ·refine .mb h93 ?_
   have p93 := h93; try simp only [bs] at p93
   refine .u (.agg #[.int .i64 (((Q : Nat) : Int)), .slice (some ⟨ba, oa, none⟩) n c, .slice Aw m cw, .int .i64 t, .int .i64 r]) (.loadN (cs := [.int .i64 (((Q : Nat) : Int)), .slice (some ⟨ba, oa, none⟩) n c, .slice Aw m cw, .int .i64 t, .int .i64 r]) Tagg_29 rfl (Cells.blk (.tail _ (.head _)) ⟨rfl, rfl, rfl, rfl, rfl, trivial⟩)) ?_
   refine .m ?_
   refine .c (.int .i64 (((degW ws ((i : Nat) : Int) : Nat) : Int))) [.agg #[.int .i64 (((Q : Nat) : Int)), .slice (some ⟨ba, oa, none⟩) n c, .slice Aw m cw, .int .i64 t, .int .i64 r], .int .i64 (((i : Nat) : Int))] Tcall_67 (fun w hs => degree_spec (hs.sl hw)) ?_
   refine .w (.bool ((((degW ws ((i : Nat) : Int) : Nat) : Int)) != 0)) ?_
   refine .w (.bool ((((degW ws ((i : Nat) : Int) : Nat) : Int)) != 0)) ?_
   rcases Bool.eq_false_or_eq_true ((((degW ws ((i : Nat) : Int) : Nat) : Int)) != 0) with h99 | h99
   ·refine .mb h99 ?_
    have p99 := h99; try simp only [bs] at p99
    iterate 14 refine .pass rfl ?_
    refine .w (.bool true) ?_
    refine .done ?_
    refine .cond (b := true) rfl (fun _ => ?_) (fun h => nomatch h)
    refine .seq ?_
    have hbad : dgOk L ws i = false := by
     rw [dgOk]
     first | (rw [if_pos (by omega)]; simp; omega) | (rw [if_neg (by omega), if_pos (by omega)]; simp; omega)
    have hres : gdP Q L ws t r = false := by rw [hpre, hwok, allI_false (i := i) (by omega) hbad]; rfl
    refine .region ?_
    refine .m ?_
    refine .done ?_
    refine .ret ?_
    refine ⟨.bool false, [], Out.one rfl rfl, (Some'.weak (.nil _)), ?_⟩
    show _ = _; rw [hres]
   refine .mb h99 ?_
   have p99 := h99; try simp only [bs] at p99
   refine .fa Tfo_52_0 ?_
   refine .u (.int .i64 ((ndx L i).1)) (.load1 Tone_3 rfl (.b (.head _))) ?_
   refine .w (.bool (((ndx L i).1) == 1)) ?_
   rcases Bool.eq_false_or_eq_true (((ndx L i).1) == 1) with h103 | h103
   ·refine .mb h103 ?_
    have p103 := h103; try simp only [bs] at p103
    iterate 3 refine .pass rfl ?_
    refine .w (.bool true) ?_
    refine .m ?_
    refine .u (.agg #[.int .i64 (((Q : Nat) : Int)), .slice (some ⟨ba, oa, none⟩) n c, .slice Aw m cw, .int .i64 t, .int .i64 r]) (.loadN (cs := [.int .i64 (((Q : Nat) : Int)), .slice (some ⟨ba, oa, none⟩) n c, .slice Aw m cw, .int .i64 t, .int .i64 r]) Tagg_29 rfl (Cells.blk (.tail _ (.head _)) ⟨rfl, rfl, rfl, rfl, rfl, trivial⟩)) ?_
    refine .m ?_
    refine .c (.int .i64 (((degW ws ((i : Nat) : Int) : Nat) : Int))) [.agg #[.int .i64 (((Q : Nat) : Int)), .slice (some ⟨ba, oa, none⟩) n c, .slice Aw m cw, .int .i64 t, .int .i64 r], .int .i64 (((i : Nat) : Int))] Tcall_67 (fun w hs => degree_spec (hs.sl hw)) ?_
    refine .w (.bool ((((degW ws ((i : Nat) : Int) : Nat) : Int)) != 1)) ?_
    refine .w (.bool ((((degW ws ((i : Nat) : Int) : Nat) : Int)) != 1)) ?_
    refine .w (.bool ((((degW ws ((i : Nat) : Int) : Nat) : Int)) != 1)) ?_
    refine .done ?_
    refine .cond (b := (((degW ws ((i : Nat) : Int) : Nat) : Int)) != 1) rfl (fun h114 => ?_) (fun h114 => ?_)
    ·have p114 := h114; try simp only [bs] at p114
     refine .seq ?_
     have hbad : dgOk L ws i = false := by
      rw [dgOk]
      first | (rw [if_pos (by omega)]; simp; omega) | (rw [if_neg (by omega), if_pos (by omega)]; simp; omega)
     have hres : gdP Q L ws t r = false := by rw [hpre, hwok, allI_false (i := i) (by omega) hbad]; rfl
     refine .region ?_
     refine .m ?_
     refine .done ?_
     refine .ret ?_
     refine ⟨.bool false, [], Out.one rfl rfl, (Some'.weak (.nil _)), ?_⟩
     show _ = _; rw [hres]
    have p114 := h114; try simp only [bs] at p114
    refine .skip ?_
    refine .blockEnd ?_
    have hgood : dgOk L ws i = true := by
     rw [dgOk]
     by_cases h0 : (ndx L i).1 = 0
     ·rw [if_pos h0]; first | (exfalso; omega) | (simp; omega)
     ·rw [if_neg h0]
      by_cases h1 : (ndx L i).1 = 1 ∨ (ndx L i).1 = 2
      ·rw [if_pos h1]; first | (exfalso; omega) | (simp; omega)
      ·rw [if_neg h1]
    refine .region ?_
    refine .u (.int .i64 ((((i : Nat) : Int)) + 1)) (.add rfl rfl rfl (by omega) (by omega)) ?_
    refine .m ?_
    refine .done ?_
    refine .goal ⟨(by repeat (first | exact Same.refl _ _ | refine Same.put rfl ?_ | refine Same.over rfl rfl ?_)), i + 1, ?_, ?_, ?_, ?_⟩
    ·refine ⟨by omega, fun j hj => ?_⟩
     rcases Nat.lt_succ_iff_lt_or_eq.1 hj with h | h
     ·exact hinv.2 j h
     ·rw [h]; exact hgood
    ·omega
    ·exact ⟨(by first | rfl | (congr 1; omega) | simp), trivial⟩
    ·exact (Some'.weak (.skip (.takeEq (by first | rfl | simp) (.nil _))))
   refine .mb h103 ?_
   have p103 := h103; try simp only [bs] at p103
   refine .fa Tfo_52_0 ?_
   refine .u (.int .i64 ((ndx L i).1)) (.load1 Tone_3 rfl (.b (.head _))) ?_
   refine .w (.bool (((ndx L i).1) == 2)) ?_
   refine .w (.bool (((ndx L i).1) == 2)) ?_
   rcases Bool.eq_false_or_eq_true (((ndx L i).1) == 2) with h108 | h108
   ·refine .mb h108 ?_
    have p108 := h108; try simp only [bs] at p108
    refine .u (.agg #[.int .i64 (((Q : Nat) : Int)), .slice (some ⟨ba, oa, none⟩) n c, .slice Aw m cw, .int .i64 t, .int .i64 r]) (.loadN (cs := [.int .i64 (((Q : Nat) : Int)), .slice (some ⟨ba, oa, none⟩) n c, .slice Aw m cw, .int .i64 t, .int .i64 r]) Tagg_29 rfl (Cells.blk (.tail _ (.head _)) ⟨rfl, rfl, rfl, rfl, rfl, trivial⟩)) ?_
    refine .m ?_
    refine .c (.int .i64 (((degW ws ((i : Nat) : Int) : Nat) : Int))) [.agg #[.int .i64 (((Q : Nat) : Int)), .slice (some ⟨ba, oa, none⟩) n c, .slice Aw m cw, .int .i64 t, .int .i64 r], .int .i64 (((i : Nat) : Int))] Tcall_67 (fun w hs => degree_spec (hs.sl hw)) ?_
    refine .w (.bool ((((degW ws ((i : Nat) : Int) : Nat) : Int)) != 1)) ?_
    refine .w (.bool ((((degW ws ((i : Nat) : Int) : Nat) : Int)) != 1)) ?_
    refine .w (.bool ((((degW ws ((i : Nat) : Int) : Nat) : Int)) != 1)) ?_
    refine .done ?_
    refine .cond (b := (((degW ws ((i : Nat) : Int) : Nat) : Int)) != 1) rfl (fun h114 => ?_) (fun h114 => ?_)
    ·have p114 := h114; try simp only [bs] at p114
     refine .seq ?_
     have hbad : dgOk L ws i = false := by
      rw [dgOk]
      first | (rw [if_pos (by omega)]; simp; omega) | (rw [if_neg (by omega), if_pos (by omega)]; simp; omega)
     have hres : gdP Q L ws t r = false := by rw [hpre, hwok, allI_false (i := i) (by omega) hbad]; rfl
     refine .region ?_
     refine .m ?_
     refine .done ?_
     refine .ret ?_
     refine ⟨.bool false, [], Out.one rfl rfl, (Some'.weak (.nil _)), ?_⟩
     show _ = _; rw [hres]
    have p114 := h114; try simp only [bs] at p114
    refine .skip ?_
    refine .blockEnd ?_
    have hgood : dgOk L ws i = true := by
     rw [dgOk]
     by_cases h0 : (ndx L i).1 = 0
     ·rw [if_pos h0]; first | (exfalso; omega) | (simp; omega)
     ·rw [if_neg h0]
      by_cases h1 : (ndx L i).1 = 1 ∨ (ndx L i).1 = 2
      ·rw [if_pos h1]; first | (exfalso; omega) | (simp; omega)
      ·rw [if_neg h1]
    refine .region ?_
    refine .u (.int .i64 ((((i : Nat) : Int)) + 1)) (.add rfl rfl rfl (by omega) (by omega)) ?_
    refine .m ?_
    refine .done ?_
    refine .goal ⟨(by repeat (first | exact Same.refl _ _ | refine Same.put rfl ?_ | refine Same.over rfl rfl ?_)), i + 1, ?_, ?_, ?_, ?_⟩
    ·refine ⟨by omega, fun j hj => ?_⟩
     rcases Nat.lt_succ_iff_lt_or_eq.1 hj with h | h
     ·exact hinv.2 j h
     ·rw [h]; exact hgood
    ·omega
    ·exact ⟨(by first | rfl | (congr 1; omega) | simp), trivial⟩
    ·exact (Some'.weak (.skip (.takeEq (by first | rfl | simp) (.nil _))))
   refine .mb h108 ?_
   have p108 := h108; try simp only [bs] at p108
   iterate 4 refine .pass rfl ?_
   refine .w (.bool false) ?_
   refine .w (.bool false) ?_
   refine .done ?_
   refine .cond (b := false) rfl (fun h => nomatch h) (fun _ => ?_)
   refine .skip ?_
   refine .blockEnd ?_
   have hgood : dgOk L ws i = true := by
    rw [dgOk]
    by_cases h0 : (ndx L i).1 = 0
    ·rw [if_pos h0]; first | (exfalso; omega) | (simp; omega)
    ·rw [if_neg h0]
     by_cases h1 : (ndx L i).1 = 1 ∨ (ndx L i).1 = 2
     ·rw [if_pos h1]; first | (exfalso; omega) | (simp; omega)
     ·rw [if_neg h1]
   refine .region ?_
   refine .u (.int .i64 ((((i : Nat) : Int)) + 1)) (.add rfl rfl rfl (by omega) (by omega)) ?_
   refine .m ?_
   refine .done ?_
   refine .goal ⟨(by repeat (first | exact Same.refl _ _ | refine Same.put rfl ?_ | refine Same.over rfl rfl ?_)), i + 1, ?_, ?_, ?_, ?_⟩
   ·refine ⟨by omega, fun j hj => ?_⟩
    rcases Nat.lt_succ_iff_lt_or_eq.1 hj with h | h
    ·exact hinv.2 j h
    ·rw [h]; exact hgood
   ·omega
   ·exact ⟨(by first | rfl | (congr 1; omega) | simp), trivial⟩
   ·exact (Some'.weak (.skip (.takeEq (by first | rfl | simp) (.nil _))))
  refine .mb h93 ?_
  have p93 := h93; try simp only [bs] at p93
  iterate 4 refine .pass rfl ?_
  refine .w (.bool false) ?_
  refine .m ?_
  refine .fa Tfo_52_0 ?_
  refine .u (.int .i64 ((ndx L i).1)) (.load1 Tone_3 rfl (.b (.head _))) ?_
  refine .w (.bool (((ndx L i).1) == 1)) ?_
  rcases Bool.eq_false_or_eq_true (((ndx L i).1) == 1) with h103 | h103
  ·refine .mb h103 ?_
   have p103 := h103; try simp only [bs] at p103
   iterate 3 refine .pass rfl ?_
   refine .w (.bool true) ?_
   refine .m ?_
   refine .u (.agg #[.int .i64 (((Q : Nat) : Int)), .slice (some ⟨ba, oa, none⟩) n c, .slice Aw m cw, .int .i64 t, .int .i64 r]) (.loadN (cs := [.int .i64 (((Q : Nat) : Int)), .slice (some ⟨ba, oa, none⟩) n c, .slice Aw m cw, .int .i64 t, .int .i64 r]) Tagg_29 rfl (Cells.blk (.tail _ (.head _)) ⟨rfl, rfl, rfl, rfl, rfl, trivial⟩)) ?_
   refine .m ?_
   refine .c (.int .i64 (((degW ws ((i : Nat) : Int) : Nat) : Int))) [.agg #[.int .i64 (((Q : Nat) : Int)), .slice (some ⟨ba, oa, none⟩) n c, .slice Aw m cw, .int .i64 t, .int .i64 r], .int .i64 (((i : Nat) : Int))] Tcall_67 (fun w hs => degree_spec (hs.sl hw)) ?_
   refine .w (.bool ((((degW ws ((i : Nat) : Int) : Nat) : Int)) != 1)) ?_
   refine .w (.bool ((((degW ws ((i : Nat) : Int) : Nat) : Int)) != 1)) ?_
   refine .w (.bool ((((degW ws ((i : Nat) : Int) : Nat) : Int)) != 1)) ?_
   refine .done ?_
   refine .cond (b := (((degW ws ((i : Nat) : Int) : Nat) : Int)) != 1) rfl (fun h114 => ?_) (fun h114 => ?_)
   ·have p114 := h114; try simp only [bs] at p114
    refine .seq ?_
    have hbad : dgOk L ws i = false := by
     rw [dgOk]
     first | (rw [if_pos (by omega)]; simp; omega) | (rw [if_neg (by omega), if_pos (by omega)]; simp; omega)
    have hres : gdP Q L ws t r = false := by rw [hpre, hwok, allI_false (i := i) (by omega) hbad]; rfl
    refine .region ?_
    refine .m ?_
    refine .done ?_
    refine .ret ?_
    refine ⟨.bool false, [], Out.one rfl rfl, (Some'.weak (.nil _)), ?_⟩
    show _ = _; rw [hres]
   have p114 := h114; try simp only [bs] at p114
   refine .skip ?_
   refine .blockEnd ?_
   have hgood : dgOk L ws i = true := by
    rw [dgOk]
    by_cases h0 : (ndx L i).1 = 0
    ·rw [if_pos h0]; first | (exfalso; omega) | (simp; omega)
    ·rw [if_neg h0]
     by_cases h1 : (ndx L i).1 = 1 ∨ (ndx L i).1 = 2
     ·rw [if_pos h1]; first | (exfalso; omega) | (simp; omega)
     ·rw [if_neg h1]
   refine .region ?_
   refine .u (.int .i64 ((((i : Nat) : Int)) + 1)) (.add rfl rfl rfl (by omega) (by omega)) ?_
   refine .m ?_
   refine .done ?_
   refine .goal ⟨(by repeat (first | exact Same.refl _ _ | refine Same.put rfl ?_ | refine Same.over rfl rfl ?_)), i + 1, ?_, ?_, ?_, ?_⟩
   ·refine ⟨by omega, fun j hj => ?_⟩
    rcases Nat.lt_succ_iff_lt_or_eq.1 hj with h | h
    ·exact hinv.2 j h
    ·rw [h]; exact hgood
   ·omega
   ·exact ⟨(by first | rfl | (congr 1; omega) | simp), trivial⟩
   ·exact (Some'.weak (.skip (.takeEq (by first | rfl | simp) (.nil _))))
  refine .mb h103 ?_
  have p103 := h103; try simp only [bs] at p103
  refine .fa Tfo_52_0 ?_
  refine .u (.int .i64 ((ndx L i).1)) (.load1 Tone_3 rfl (.b (.head _))) ?_
  refine .w (.bool (((ndx L i).1) == 2)) ?_
  refine .w (.bool (((ndx L i).1) == 2)) ?_
  rcases Bool.eq_false_or_eq_true (((ndx L i).1) == 2) with h108 | h108
  ·refine .mb h108 ?_
   have p108 := h108; try simp only [bs] at p108
   refine .u (.agg #[.int .i64 (((Q : Nat) : Int)), .slice (some ⟨ba, oa, none⟩) n c, .slice Aw m cw, .int .i64 t, .int .i64 r]) (.loadN (cs := [.int .i64 (((Q : Nat) : Int)), .slice (some ⟨ba, oa, none⟩) n c, .slice Aw m cw, .int .i64 t, .int .i64 r]) Tagg_29 rfl (Cells.blk (.tail _ (.head _)) ⟨rfl, rfl, rfl, rfl, rfl, trivial⟩)) ?_
   refine .m ?_
   refine .c (.int .i64 (((degW ws ((i : Nat) : Int) : Nat) : Int))) [.agg #[.int .i64 (((Q : Nat) : Int)), .slice (some ⟨ba, oa, none⟩) n c, .slice Aw m cw, .int .i64 t, .int .i64 r], .int .i64 (((i : Nat) : Int))] Tcall_67 (fun w hs => degree_spec (hs.sl hw)) ?_
   refine .w (.bool ((((degW ws ((i : Nat) : Int) : Nat) : Int)) != 1)) ?_
   refine .w (.bool ((((degW ws ((i : Nat) : Int) : Nat) : Int)) != 1)) ?_
   refine .w (.bool ((((degW ws ((i : Nat) : Int) : Nat) : Int)) != 1)) ?_
   refine .done ?_
   refine .cond (b := (((degW ws ((i : Nat) : Int) : Nat) : Int)) != 1) rfl (fun h114 => ?_) (fun h114 => ?_)
   ·have p114 := h114; try simp only [bs] at p114
    refine .seq ?_
    have hbad : dgOk L ws i = false := by
     rw [dgOk]
     first | (rw [if_pos (by omega)]; simp; omega) | (rw [if_neg (by omega), if_pos (by omega)]; simp; omega)
    have hres : gdP Q L ws t r = false := by rw [hpre, hwok, allI_false (i := i) (by omega) hbad]; rfl
    refine .region ?_
    refine .m ?_
    refine .done ?_
    refine .ret ?_
    refine ⟨.bool false, [], Out.one rfl rfl, (Some'.weak (.nil _)), ?_⟩
    show _ = _; rw [hres]
   have p114 := h114; try simp only [bs] at p114
   refine .skip ?_
   refine .blockEnd ?_
   have hgood : dgOk L ws i = true := by
    rw [dgOk]
    by_cases h0 : (ndx L i).1 = 0
    ·rw [if_pos h0]; first | (exfalso; omega) | (simp; omega)
    ·rw [if_neg h0]
     by_cases h1 : (ndx L i).1 = 1 ∨ (ndx L i).1 = 2
     ·rw [if_pos h1]; first | (exfalso; omega) | (simp; omega)
     ·rw [if_neg h1]
   refine .region ?_
   refine .u (.int .i64 ((((i : Nat) : Int)) + 1)) (.add rfl rfl rfl (by omega) (by omega)) ?_
   refine .m ?_
   refine .done ?_
   refine .goal ⟨(by repeat (first | exact Same.refl _ _ | refine Same.put rfl ?_ | refine Same.over rfl rfl ?_)), i + 1, ?_, ?_, ?_, ?_⟩
   ·refine ⟨by omega, fun j hj => ?_⟩
    rcases Nat.lt_succ_iff_lt_or_eq.1 hj with h | h
    ·exact hinv.2 j h
    ·rw [h]; exact hgood
   ·omega
   ·exact ⟨(by first | rfl | (congr 1; omega) | simp), trivial⟩
   ·exact (Some'.weak (.skip (.takeEq (by first | rfl | simp) (.nil _))))
  refine .mb h108 ?_
  have p108 := h108; try simp only [bs] at p108
  iterate 4 refine .pass rfl ?_
  refine .w (.bool false) ?_
  refine .w (.bool false) ?_
  refine .done ?_
  refine .cond (b := false) rfl (fun h => nomatch h) (fun _ => ?_)
  refine .skip ?_
  refine .blockEnd ?_
  have hgood : dgOk L ws i = true := by
   rw [dgOk]
   by_cases h0 : (ndx L i).1 = 0
   ·rw [if_pos h0]; first | (exfalso; omega) | (simp; omega)
   ·rw [if_neg h0]
    by_cases h1 : (ndx L i).1 = 1 ∨ (ndx L i).1 = 2
    ·rw [if_pos h1]; first | (exfalso; omega) | (simp; omega)
    ·rw [if_neg h1]
  refine .region ?_
  refine .u (.int .i64 ((((i : Nat) : Int)) + 1)) (.add rfl rfl rfl (by omega) (by omega)) ?_
  refine .m ?_
  refine .done ?_
  refine .goal ⟨(by repeat (first | exact Same.refl _ _ | refine Same.put rfl ?_ | refine Same.over rfl rfl ?_)), i + 1, ?_, ?_, ?_, ?_⟩
  ·refine ⟨by omega, fun j hj => ?_⟩
   rcases Nat.lt_succ_iff_lt_or_eq.1 hj with h | h
   ·exact hinv.2 j h
   ·rw [h]; exact hgood
  ·omega
  ·exact ⟨(by first | rfl | (congr 1; omega) | simp), trivial⟩
  ·exact (Some'.weak (.skip (.takeEq (by first | rfl | simp) (.nil _))))
 have p86 := h86; try simp only [bs] at p86
 have hin : i = n := by omega
 have hres : gdP Q L ws t r = true := by rw [hpre, hwok, allI_iff.2 (by rw [hLn, ← hin]; exact hinv.2)]; rfl
 refine .exit rfl ?_
 refine .sr ?_
 refine .m ?_
 refine .done ?_
 refine .ret ?_
 refine ⟨.bool true, [], Out.one rfl rfl, (Some'.weak (.nil _)), ?_⟩
 show _ = _; rw [hres]

end Go.Proofs.Ytnnkoeknejeieaa
