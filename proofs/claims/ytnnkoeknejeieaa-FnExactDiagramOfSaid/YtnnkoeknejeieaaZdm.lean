/- Walks: l16Good. -/
import Derived.Test.YtnnkoeknejeieaaZdl
import Derived.Test.YtnnkoeknejeieaaProg
set_option linter.unusedSimpArgs false
set_option linter.unusedVariables false
namespace Go.Proofs.Ytnnkoeknejeieaa
open Go Go.RowKit
namespace ZdmT
theorem Tagg_29 : aggOf Try.prog 29 = some 5 := by kernel_rfl
theorem Tagg_52 : aggOf Try.prog 52 = some 2 := by kernel_rfl
theorem Tagg_71 : aggOf Try.prog 71 = some 3 := by kernel_rfl
theorem Tcall_30 : callable Try.prog 30 = true := by kernel_rfl
theorem Tcall_34 : callable Try.prog 34 = true := by kernel_rfl
theorem Tcall_35 : callable Try.prog 35 = true := by kernel_rfl
theorem Tcall_36 : callable Try.prog 36 = true := by kernel_rfl
theorem Tcall_55 : callable Try.prog 55 = true := by kernel_rfl
theorem Tfo_29_0 : fieldOff Try.prog 29 0 = some 0 := by kernel_rfl
theorem Tfo_29_1 : fieldOff Try.prog 29 1 = some 1 := by kernel_rfl
theorem Tfo_29_2 : fieldOff Try.prog 29 2 = some 2 := by kernel_rfl
theorem Tfo_29_3 : fieldOff Try.prog 29 3 = some 3 := by kernel_rfl
theorem Tfo_29_4 : fieldOff Try.prog 29 4 = some 4 := by kernel_rfl
theorem Tfo_52_0 : fieldOff Try.prog 52 0 = some 0 := by kernel_rfl
theorem Tfo_52_1 : fieldOff Try.prog 52 1 = some 1 := by kernel_rfl
theorem Tfo_71_0 : fieldOff Try.prog 71 0 = some 0 := by kernel_rfl
theorem Tfo_71_1 : fieldOff Try.prog 71 1 = some 1 := by kernel_rfl
theorem Tone_26 : oneOf Try.prog 26 = true := by kernel_rfl
theorem Tone_27 : oneOf Try.prog 27 = true := by kernel_rfl
theorem Tone_3 : oneOf Try.prog 3 = true := by kernel_rfl
theorem Tsize_52 : (Try.prog.info? 52).map (·.size) = some 2 := by kernel_rfl
theorem Tsize_71 : (Try.prog.info? 71).map (·.size) = some 3 := by kernel_rfl
theorem Tsl_26 : sliceOf Try.prog 26 = some (52, 2, 16, [.int .i64 0, .int .i64 0]) := by kernel_rfl
theorem Tsl_27 : sliceOf Try.prog 27 = some (71, 3, 24, [.int .i64 0, .int .i64 0, .bool false]) := by kernel_rfl
theorem Tzero_52 : zeroOf Try.prog 52 = some [.int .i64 0, .int .i64 0] := by kernel_rfl
theorem Tzero_71 : zeroOf Try.prog 71 = some [.int .i64 0, .int .i64 0, .bool false] := by kernel_rfl
end ZdmT
open ZdmT

theorem l1In_true {x lo hi : Int} {w : World} (h : within x lo hi = true) : Calls Try.prog 30 #[.int .i64 x, .int .i64 lo, .int .i64 hi] w (Post No w fun v _ => v = .bool true) := by
  have h1 := l1In_spec x lo hi w
  rw [h] at h1; exact h1
theorem gdR_no {Q : Nat} {L : List N2} {ws : List W3} {t rt : Int} (h : 40 < L.length ∨ within t 0 7 = false ∨ within rt (-60) 60 = false) : gdR Q L ws t rt = false := by
  rcases h with h | h | h
  · rw [gdR, decide_eq_false (by omega)]; rfl
  · rw [gdR, h]; simp
  · rw [gdR, h]; simp
theorem gdR_yes {Q : Nat} {L : List N2} {ws : List W3} {t rt : Int} (h1 : L.length ≤ 40) (h2 : within t 0 7 = true) (h3 : within rt (-60) 60 = true) : gdR Q L ws t rt = (allI (wOk L.length ws) ws.length && allI (ndR Q L ws) L.length && endsR Q L) := by
  rw [gdR, decide_eq_true h1, h2, h3]; simp only [Bool.true_and]

set_option maxHeartbeats 1000000 in
set_option maxRecDepth 20000 in
theorem l16Node_spec {Q k : Nat} {t r : Int} {va vw : Value} {n m : Nat} {L : List N2} {ws : List W3} {w : World} (hQ : 1 ≤ Q ∧ Q ≤ 5) (ha : Sl w va 2 n (nds L)) (hw : Sl w vw 3 m (wls ws)) (hk : k < n) : Calls Try.prog 35 #[.agg #[.int .i64 (Q : Nat), va, vw, .int .i64 t, .int .i64 r], .int .i64 (k : Nat)] w (Post No w fun v _ => v = .bool (ndR Q L ws k)) := by
 have hLn : L.length = n := ha.nlen
 have hn := ha.le
 obtain ⟨A, c, rfl, _, _⟩ := ha.form0
 obtain ⟨ba, oa, rfl⟩ := ha.opn (by omega)
 refine enter (n := 47) (args := [.agg #[.int .i64 (((Q : Nat) : Int)), .slice (some ⟨ba, oa, none⟩) n c, vw, .int .i64 t, .int .i64 r], .int .i64 (((k : Nat) : Int))]) Try.func35 rfl rfl (St.empty _ _) ?_
 refine .sr ?_
 refine .step rfl (.box (us := [.int .i64 (((Q : Nat) : Int)), .slice (some ⟨ba, oa, none⟩) n c, vw, .int .i64 t, .int .i64 r]) rfl fun b1 => ?_)
 refine .m ?_
 refine .dsr ?_
 refine .fa Tfo_29_1 ?_
 refine .u (.slice (some ⟨ba, oa, none⟩) n c) (.load1 Tone_26 rfl (.b (.head _))) ?_
 refine .m ?_
 refine .u (.pointer (some ⟨ba, oa + k * 2, none⟩)) (.ix k Tsl_26) ?_
 refine .u (.agg #[.int .i64 ((ndx L k).1), .int .i64 ((ndx L k).2)]) (.loadN (cs := [.int .i64 ((ndx L k).1), .int .i64 ((ndx L k).2)]) Tagg_52 rfl (Cells.arg (k := k * 2) ha rfl (by omega) (preN (k := k) (by omega)))) ?_
 refine .step rfl (.alloc (zs := [.int .i64 0, .int .i64 0]) Tzero_52 fun b2 => ?_)
 refine .step rfl (.storeAll (us := [.int .i64 ((ndx L k).1), .int .i64 ((ndx L k).2)]) Tsize_52 rfl rfl rfl (.here _) rfl ?_)
 refine .done ?_
 refine .seq ?_
 refine .sr ?_
 refine .fa Tfo_52_0 ?_
 refine .u (.int .i64 ((ndx L k).1)) (.load1 Tone_3 rfl (.b (.head _))) ?_
 refine .done ?_
 refine .block ?_
 refine .sr ?_
 refine .w (.bool (((ndx L k).1) == 0)) ?_
 refine .m ?_
 refine .done ?_
 refine .cond (b := ((ndx L k).1) == 0) rfl (fun h13 => ?_) (fun h13 => ?_)
 ·have p13 := h13; try simp only [bs] at p13
  refine .sr ?_
  refine .fa Tfo_52_1 ?_
  refine .u (.int .i64 ((ndx L k).2)) (.load1 Tone_3 rfl (.b (.head _))) ?_
  refine .w (.bool (((ndx L k).2) == 0)) ?_
  rcases Bool.eq_false_or_eq_true (((ndx L k).2) == 0) with h18 | h18
  ·refine .mb h18 ?_
   have p18 := h18; try simp only [bs] at p18
   refine .u (.agg #[.int .i64 (((Q : Nat) : Int)), .slice (some ⟨ba, oa, none⟩) n c, vw, .int .i64 t, .int .i64 r]) (.loadN (cs := [.int .i64 (((Q : Nat) : Int)), .slice (some ⟨ba, oa, none⟩) n c, vw, .int .i64 t, .int .i64 r]) Tagg_29 rfl (Cells.blk (.tail _ (.head _)) ⟨rfl, rfl, rfl, rfl, rfl, trivial⟩)) ?_
   refine .m ?_
   refine .c (.int .i64 (((degW ws ((k : Nat) : Int) : Nat) : Int))) [.agg #[.int .i64 (((Q : Nat) : Int)), .slice (some ⟨ba, oa, none⟩) n c, vw, .int .i64 t, .int .i64 r], .int .i64 (((k : Nat) : Int))] Tcall_55 (fun w hs => l16Wires_spec (hs.sl hw)) ?_
   refine .w (.bool ((((degW ws ((k : Nat) : Int) : Nat) : Int)) == 0)) ?_
   refine .w (.bool ((((degW ws ((k : Nat) : Int) : Nat) : Int)) == 0)) ?_
   refine .m ?_
   refine .done ?_
   refine .ret ?_
   refine ⟨.bool ((((degW ws ((k : Nat) : Int) : Nat) : Int)) == 0), [], Out.one rfl rfl, (Some'.weak (.nil _)), ?_⟩
   show Value.bool _ = Value.bool _; congr 1; rw [Bool.eq_iff_iff, ndR, isNd, dgOk]; simp_all; try omega
  refine .mb h18 ?_
  have p18 := h18; try simp only [bs] at p18
  iterate 4 refine .pass rfl ?_
  refine .w (.bool false) ?_
  refine .m ?_
  refine .done ?_
  refine .ret ?_
  refine ⟨.bool false, [], Out.one rfl rfl, (Some'.weak (.nil _)), ?_⟩
  show Value.bool _ = Value.bool _; congr 1; rw [Bool.eq_iff_iff, ndR, isNd, dgOk]; simp_all; try omega
 have p13 := h13; try simp only [bs] at p13
 refine .seq ?_
 refine .sr ?_
 refine .w (.bool (((ndx L k).1) == 1)) ?_
 refine .m ?_
 refine .done ?_
 refine .cond (b := ((ndx L k).1) == 1) rfl (fun h24 => ?_) (fun h24 => ?_)
 ·have p24 := h24; try simp only [bs] at p24
  refine .skip ?_
  refine .cond (b := ((ndx L k).1) == 1) rfl (fun h24 => ?_) (fun h24 => ?_)
  ·have p24 := h24; try simp only [bs] at p24
   refine .sr ?_
   refine .fa Tfo_52_1 ?_
   refine .u (.int .i64 ((ndx L k).2)) (.load1 Tone_3 rfl (.b (.head _))) ?_
   refine .fa Tfo_29_0 ?_
   refine .u (.int .i64 (((Q : Nat) : Int))) (.load1 Tone_3 rfl (.b (.tail _ (.head _)))) ?_
   refine .u (.int .i64 ((((Q : Nat) : Int)) - 1)) (.sub rfl rfl rfl (by omega) (by omega)) ?_
   refine .c (.bool (within ((ndx L k).2) 0 ((((Q : Nat) : Int)) - 1))) [.int .i64 ((ndx L k).2), .int .i64 0, .int .i64 ((((Q : Nat) : Int)) - 1)] Tcall_30 (fun w hs => l1In_spec _ _ _ w) ?_
   rcases Bool.eq_false_or_eq_true (within ((ndx L k).2) 0 ((((Q : Nat) : Int)) - 1)) with h33 | h33
   ·refine .mb h33 ?_
    have p33 := h33; try simp only [bs] at p33
    refine .u (.agg #[.int .i64 (((Q : Nat) : Int)), .slice (some ⟨ba, oa, none⟩) n c, vw, .int .i64 t, .int .i64 r]) (.loadN (cs := [.int .i64 (((Q : Nat) : Int)), .slice (some ⟨ba, oa, none⟩) n c, vw, .int .i64 t, .int .i64 r]) Tagg_29 rfl (Cells.blk (.tail _ (.head _)) ⟨rfl, rfl, rfl, rfl, rfl, trivial⟩)) ?_
    refine .m ?_
    refine .c (.int .i64 (((degW ws ((k : Nat) : Int) : Nat) : Int))) [.agg #[.int .i64 (((Q : Nat) : Int)), .slice (some ⟨ba, oa, none⟩) n c, vw, .int .i64 t, .int .i64 r], .int .i64 (((k : Nat) : Int))] Tcall_55 (fun w hs => l16Wires_spec (hs.sl hw)) ?_
    refine .w (.bool ((((degW ws ((k : Nat) : Int) : Nat) : Int)) == 1)) ?_
    refine .w (.bool ((((degW ws ((k : Nat) : Int) : Nat) : Int)) == 1)) ?_
    refine .m ?_
    refine .done ?_
    refine .ret ?_
    refine ⟨.bool ((((degW ws ((k : Nat) : Int) : Nat) : Int)) == 1), [], Out.one rfl rfl, (Some'.weak (.nil _)), ?_⟩
    show Value.bool _ = Value.bool _; congr 1; rw [Bool.eq_iff_iff, ndR, isNd, dgOk]; simp_all; try omega
   refine .mb h33 ?_
   have p33 := h33; try simp only [bs] at p33
   iterate 4 refine .pass rfl ?_
   refine .w (.bool false) ?_
   refine .m ?_
   refine .done ?_
   refine .ret ?_
   refine ⟨.bool false, [], Out.one rfl rfl, (Some'.weak (.nil _)), ?_⟩
   show Value.bool _ = Value.bool _; congr 1; rw [Bool.eq_iff_iff, ndR, isNd, dgOk]; simp_all; try omega
  have p24 := h24; try simp only [bs] at p24
  refine .skip ?_
  refine .blockEnd ?_
  refine .sr ?_
  refine .fa Tfo_52_0 ?_
  refine .u (.int .i64 ((ndx L k).1)) (.load1 Tone_3 rfl (.b (.head _))) ?_
  refine .w (.bool (((ndx L k).1) == 3)) ?_
  rcases Bool.eq_false_or_eq_true (((ndx L k).1) == 3) with h42 | h42
  ·refine .mb h42 ?_
   have p42 := h42; try simp only [bs] at p42
   refine .fa Tfo_52_1 ?_
   refine .u (.int .i64 ((ndx L k).2)) (.load1 Tone_3 rfl (.b (.head _))) ?_
   refine .c (.bool (within ((ndx L k).2) 0 7)) [.int .i64 ((ndx L k).2), .int .i64 0, .int .i64 7] Tcall_30 (fun w hs => l1In_spec _ _ _ w) ?_
   refine .w (.bool (within ((ndx L k).2) 0 7)) ?_
   refine .m ?_
   refine .done ?_
   refine .ret ?_
   refine ⟨.bool (within ((ndx L k).2) 0 7), [], Out.one rfl rfl, (Some'.weak (.nil _)), ?_⟩
   show Value.bool _ = Value.bool _; congr 1; rw [Bool.eq_iff_iff, ndR, isNd, dgOk]; simp_all; try omega
  refine .mb h42 ?_
  have p42 := h42; try simp only [bs] at p42
  iterate 3 refine .pass rfl ?_
  refine .w (.bool false) ?_
  refine .m ?_
  refine .done ?_
  refine .ret ?_
  refine ⟨.bool false, [], Out.one rfl rfl, (Some'.weak (.nil _)), ?_⟩
  show Value.bool _ = Value.bool _; congr 1; rw [Bool.eq_iff_iff, ndR, isNd, dgOk]; simp_all; try omega
 have p24 := h24; try simp only [bs] at p24
 refine .region ?_
 refine .w (.bool (((ndx L k).1) == 2)) ?_
 refine .m ?_
 refine .done ?_
 refine .cond (b := ((ndx L k).1) == 2) rfl (fun h24 => ?_) (fun h24 => ?_)
 ·have p24 := h24; try simp only [bs] at p24
  refine .sr ?_
  refine .fa Tfo_52_1 ?_
  refine .u (.int .i64 ((ndx L k).2)) (.load1 Tone_3 rfl (.b (.head _))) ?_
  refine .fa Tfo_29_0 ?_
  refine .u (.int .i64 (((Q : Nat) : Int))) (.load1 Tone_3 rfl (.b (.tail _ (.head _)))) ?_
  refine .u (.int .i64 ((((Q : Nat) : Int)) - 1)) (.sub rfl rfl rfl (by omega) (by omega)) ?_
  refine .c (.bool (within ((ndx L k).2) 0 ((((Q : Nat) : Int)) - 1))) [.int .i64 ((ndx L k).2), .int .i64 0, .int .i64 ((((Q : Nat) : Int)) - 1)] Tcall_30 (fun w hs => l1In_spec _ _ _ w) ?_
  rcases Bool.eq_false_or_eq_true (within ((ndx L k).2) 0 ((((Q : Nat) : Int)) - 1)) with h33 | h33
  ·refine .mb h33 ?_
   have p33 := h33; try simp only [bs] at p33
   refine .u (.agg #[.int .i64 (((Q : Nat) : Int)), .slice (some ⟨ba, oa, none⟩) n c, vw, .int .i64 t, .int .i64 r]) (.loadN (cs := [.int .i64 (((Q : Nat) : Int)), .slice (some ⟨ba, oa, none⟩) n c, vw, .int .i64 t, .int .i64 r]) Tagg_29 rfl (Cells.blk (.tail _ (.head _)) ⟨rfl, rfl, rfl, rfl, rfl, trivial⟩)) ?_
   refine .m ?_
   refine .c (.int .i64 (((degW ws ((k : Nat) : Int) : Nat) : Int))) [.agg #[.int .i64 (((Q : Nat) : Int)), .slice (some ⟨ba, oa, none⟩) n c, vw, .int .i64 t, .int .i64 r], .int .i64 (((k : Nat) : Int))] Tcall_55 (fun w hs => l16Wires_spec (hs.sl hw)) ?_
   refine .w (.bool ((((degW ws ((k : Nat) : Int) : Nat) : Int)) == 1)) ?_
   refine .w (.bool ((((degW ws ((k : Nat) : Int) : Nat) : Int)) == 1)) ?_
   refine .m ?_
   refine .done ?_
   refine .ret ?_
   refine ⟨.bool ((((degW ws ((k : Nat) : Int) : Nat) : Int)) == 1), [], Out.one rfl rfl, (Some'.weak (.nil _)), ?_⟩
   show Value.bool _ = Value.bool _; congr 1; rw [Bool.eq_iff_iff, ndR, isNd, dgOk]; simp_all; try omega
  refine .mb h33 ?_
  have p33 := h33; try simp only [bs] at p33
  iterate 4 refine .pass rfl ?_
  refine .w (.bool false) ?_
  refine .m ?_
  refine .done ?_
  refine .ret ?_
  refine ⟨.bool false, [], Out.one rfl rfl, (Some'.weak (.nil _)), ?_⟩
  show Value.bool _ = Value.bool _; congr 1; rw [Bool.eq_iff_iff, ndR, isNd, dgOk]; simp_all; try omega
 have p24 := h24; try simp only [bs] at p24
 refine .skip ?_
 refine .blockEnd ?_
 refine .sr ?_
 refine .fa Tfo_52_0 ?_
 refine .u (.int .i64 ((ndx L k).1)) (.load1 Tone_3 rfl (.b (.head _))) ?_
 refine .w (.bool (((ndx L k).1) == 3)) ?_
 rcases Bool.eq_false_or_eq_true (((ndx L k).1) == 3) with h42 | h42
 ·refine .mb h42 ?_
  have p42 := h42; try simp only [bs] at p42
  refine .fa Tfo_52_1 ?_
  refine .u (.int .i64 ((ndx L k).2)) (.load1 Tone_3 rfl (.b (.head _))) ?_
  refine .c (.bool (within ((ndx L k).2) 0 7)) [.int .i64 ((ndx L k).2), .int .i64 0, .int .i64 7] Tcall_30 (fun w hs => l1In_spec _ _ _ w) ?_
  refine .w (.bool (within ((ndx L k).2) 0 7)) ?_
  refine .m ?_
  refine .done ?_
  refine .ret ?_
  refine ⟨.bool (within ((ndx L k).2) 0 7), [], Out.one rfl rfl, (Some'.weak (.nil _)), ?_⟩
  show Value.bool _ = Value.bool _; congr 1; rw [Bool.eq_iff_iff, ndR, isNd, dgOk]; simp_all; try omega
 refine .mb h42 ?_
 have p42 := h42; try simp only [bs] at p42
 iterate 3 refine .pass rfl ?_
 refine .w (.bool false) ?_
 refine .m ?_
 refine .done ?_
 refine .ret ?_
 refine ⟨.bool false, [], Out.one rfl rfl, (Some'.weak (.nil _)), ?_⟩
 show Value.bool _ = Value.bool _; congr 1; rw [Bool.eq_iff_iff, ndR, isNd, dgOk]; simp_all; try omega

set_option maxHeartbeats 2000000 in
set_option maxRecDepth 20000 in
theorem l16Ends_spec {Q : Nat} {t r : Int} {va vw : Value} {n : Nat} {L : List N2} {w : World} (hQ : 1 ≤ Q ∧ Q ≤ 5) (ha : Sl w va 2 n (nds L)) : Calls Try.prog 36 #[.agg #[.int .i64 (Q : Nat), va, vw, .int .i64 t, .int .i64 r]] w (Post No w fun v _ => v = .bool (endsR Q L)) := by
 have hLn : L.length = n := ha.nlen
 have hn := ha.le
 obtain ⟨A, c, rfl, _, _⟩ := ha.form0
 refine enter (n := 40) (args := [.agg #[.int .i64 (((Q : Nat) : Int)), .slice A n c, vw, .int .i64 t, .int .i64 r]]) Try.func36 rfl rfl (St.empty _ _) ?_
 refine .sr ?_
 refine .step rfl (.box (us := [.int .i64 (((Q : Nat) : Int)), .slice A n c, vw, .int .i64 t, .int .i64 r]) rfl fun b1 => ?_)
 refine .m ?_
 refine .done ?_
 refine .seq ?_
 refine .sr ?_
 refine .m ?_
 refine .done ?_
 refine .block ?_
 refine Run.loop (ι := Nat) [2, 3, 4, 5, 7, 8, 9, 10, 11, 12, 13, 14, 15, 16, 17, 18, 19, 20, 21, 22, 23, 24, 25, 26, 27, 28, 29, 30, 31, 32, 33, 34, 35, 36, 37, 38, 39] (fun kk => [(3, .int .i64 (((kk : Nat) : Int)))]) (fun kk => [.blk b1 29 [.int .i64 (((Q : Nat) : Int)), .slice A n c, vw, .int .i64 t, .int .i64 r]]) (fun kk => (1 ≤ kk ∧ kk ≤ 3) ∧ ∀ j : Nat, 1 ≤ j → j < kk → allI (fun q : Nat => cntK L ((j : Nat) : Int) (q : Int) == 1) Q = true) (fun kk => 3 - kk) 1 ?_ ?_ ?_ ?_
 ·exact ⟨by omega, fun j h1 h2 => by omega⟩
 ·exact ⟨rfl, trivial⟩
 ·exact (Some'.weak (.take (.nil _)))
 rintro kk fr hinv
 show Run _ _ (over _ _ [(3, .int .i64 (((kk : Nat) : Int)))] fr) [.blk b1 29 [.int .i64 (((Q : Nat) : Int)), .slice A n c, vw, .int .i64 t, .int .i64 r]]
 try dsimp only at hinv
 refine .seq ?_
 refine .sr ?_
 refine .m ?_
 refine .w (.bool (decide ((((kk : Nat) : Int)) ≤ 2))) ?_
 refine .done ?_
 refine .cond (b := decide ((((kk : Nat) : Int)) ≤ 2)) rfl (fun h9 => ?_) (fun h9 => ?_)
 ·have p9 := h9; try simp only [bs] at p9
  refine .skip ?_
  refine .seq ?_
  refine .block ?_
  refine .sr ?_
  refine .m ?_
  refine .done ?_
  refine .block ?_
  have hinv0 := hinv
  refine Run.loop (ι := Nat) [2, 4, 5, 7, 12, 13, 14, 15, 16, 17, 18, 19, 20, 21, 22, 23, 24, 25, 26, 27, 28, 29, 30, 31, 32, 33, 34, 35, 36, 37, 38, 39] (fun q => [(4, .int .i64 (((q : Nat) : Int)))]) (fun q => [.blk b1 29 [.int .i64 (((Q : Nat) : Int)), .slice A n c, vw, .int .i64 t, .int .i64 r]]) (fun q => q ≤ Q ∧ ∀ i, i < q → (cntK L ((kk : Nat) : Int) ((i : Nat) : Int) == 1) = true) (fun q => Q - q) 0 ?_ ?_ ?_ ?_
  ·exact ⟨Nat.zero_le _, fun i hi => by omega⟩
  ·exact ⟨rfl, trivial⟩
  ·exact (Some'.weak (.take (.nil _)))
  rintro q fr hinv
  show Run _ _ (over _ _ [(4, .int .i64 (((q : Nat) : Int)))] fr) [.blk b1 29 [.int .i64 (((Q : Nat) : Int)), .slice A n c, vw, .int .i64 t, .int .i64 r]]
  try dsimp only at hinv
  refine .seq ?_
  refine .sr ?_
  refine .m ?_
  refine .fa Tfo_29_0 ?_
  refine .u (.int .i64 (((Q : Nat) : Int))) (.load1 Tone_3 rfl (.b (.head _))) ?_
  refine .w (.bool (decide ((((q : Nat) : Int)) < (((Q : Nat) : Int))))) ?_
  refine .done ?_
  refine .cond (b := decide ((((q : Nat) : Int)) < (((Q : Nat) : Int)))) rfl (fun h15 => ?_) (fun h15 => ?_)
  ·have p15 := h15; try simp only [bs] at p15
   refine .skip ?_
   refine .seq ?_
   refine .block ?_
   refine .sr ?_
   refine .m ?_
   refine .done ?_
   refine .seq ?_
   refine .sr ?_
   refine .fa Tfo_29_1 ?_
   refine .u (.slice A n c) (.load1 Tone_26 rfl (.b (.head _))) ?_
   refine .u (.int .i64 (((n : Nat) : Int))) (.len Tsl_26 rfl) ?_
   refine .m ?_
   refine .done ?_
   refine .block ?_
   have hinv1 := hinv
   refine Run.loop (ι := Nat) [5, 7, 21, 22, 23, 24, 25, 26, 27, 28, 29, 30, 31, 32, 33, 34, 35, 36, 37] (fun i => [(5, .int .i64 (((cntN (fun j => isN ((kk : Nat) : Int) ((q : Nat) : Int) (ndx L j)) i : Nat) : Int))), (21, .int .i64 (((i : Nat) : Int)))]) (fun i => [.blk b1 29 [.int .i64 (((Q : Nat) : Int)), .slice A n c, vw, .int .i64 t, .int .i64 r]]) (fun i => i ≤ n ∧ cntN (fun j => isN ((kk : Nat) : Int) ((q : Nat) : Int) (ndx L j)) i ≤ i) (fun i => n - i) 0 ?_ ?_ ?_ ?_
   ·exact ⟨Nat.zero_le _, Nat.le_refl _⟩
   ·exact ⟨rfl, rfl, trivial⟩
   ·exact (Some'.weak (.take (.nil _)))
   rintro i fr hinv
   show Run _ _ (over _ _ [(5, .int .i64 (((cntN (fun j => isN ((kk : Nat) : Int) ((q : Nat) : Int) (ndx L j)) i : Nat) : Int))), (21, .int .i64 (((i : Nat) : Int)))] fr) [.blk b1 29 [.int .i64 (((Q : Nat) : Int)), .slice A n c, vw, .int .i64 t, .int .i64 r]]
   try dsimp only at hinv
   refine .sr ?_
   refine .w (.bool (decide ((((i : Nat) : Int)) < (((n : Nat) : Int))))) ?_
   refine .done ?_
   refine .seq ?_
   refine .cond (b := decide ((((i : Nat) : Int)) < (((n : Nat) : Int)))) rfl (fun h22 => ?_) (fun h22 => ?_)
   ·have p22 := h22; try simp only [bs] at p22
    have hlti : i < n := by omega
    obtain ⟨ba, oa, rfl⟩ := ha.opn (by omega)
    refine .skip ?_
    refine .seq ?_
    refine .block ?_
    refine .sr ?_
    refine .u (.pointer (some ⟨ba, oa + i * 2, none⟩)) (.ix i Tsl_26) ?_
    refine .u (.agg #[.int .i64 ((ndx L i).1), .int .i64 ((ndx L i).2)]) (.loadN (cs := [.int .i64 ((ndx L i).1), .int .i64 ((ndx L i).2)]) Tagg_52 rfl (Cells.arg (k := i * 2) ha rfl (by omega) (preN (k := i) (by omega)))) ?_
    refine .step rfl (.alloc (zs := [.int .i64 0, .int .i64 0]) Tzero_52 fun b2 => ?_)
    refine .step rfl (.storeAll (us := [.int .i64 ((ndx L i).1), .int .i64 ((ndx L i).2)]) Tsize_52 rfl rfl rfl (.here _) rfl ?_)
    refine .dsr ?_
    refine .fa Tfo_52_0 ?_
    refine .u (.int .i64 ((ndx L i).1)) (.load1 Tone_3 rfl (.b (.head _))) ?_
    refine .m ?_
    refine .w (.bool (((ndx L i).1) == (((kk : Nat) : Int)))) ?_
    rcases Bool.eq_false_or_eq_true (((ndx L i).1) == (((kk : Nat) : Int))) with h29 | h29
    ·refine .mb h29 ?_
     have p29 := h29; try simp only [bs] at p29
     refine .fa Tfo_52_1 ?_
     refine .u (.int .i64 ((ndx L i).2)) (.load1 Tone_3 rfl (.b (.head _))) ?_
     refine .m ?_
     refine .w (.bool (((ndx L i).2) == (((q : Nat) : Int)))) ?_
     refine .w (.bool (((ndx L i).2) == (((q : Nat) : Int)))) ?_
     refine .done ?_
     refine .cond (b := ((ndx L i).2) == (((q : Nat) : Int))) rfl (fun h34 => ?_) (fun h34 => ?_)
     ·have p34 := h34; try simp only [bs] at p34
      refine .region ?_
      refine .m ?_
      refine .u (.int .i64 ((((cntN (fun j => isN ((kk : Nat) : Int) ((q : Nat) : Int) (ndx L j)) i : Nat) : Int)) + 1)) (.add rfl rfl rfl (by omega) (by omega)) ?_
      refine .m ?_
      refine .done ?_
      refine .blockEnd ?_
      refine .region ?_
      refine .u (.int .i64 ((((i : Nat) : Int)) + 1)) (.add rfl rfl rfl (by omega) (by omega)) ?_
      refine .m ?_
      refine .done ?_
      refine .goal ⟨(by repeat (first | exact Same.refl _ _ | refine Same.put rfl ?_ | refine Same.over rfl rfl ?_)), i + 1, ?_, ?_, ?_, ?_⟩
      ·exact ⟨by omega, cntN_le _ _⟩
      ·omega
      ·exact ⟨(by show Value.int _ _ = Value.int _ _; congr 1; first | (rw [cntN_yes (p := (fun j => isN ((kk : Nat) : Int) ((q : Nat) : Int) (ndx L j))) (by simp_all [isN])]; omega) | rw [cntN_no (p := (fun j => isN ((kk : Nat) : Int) ((q : Nat) : Int) (ndx L j))) (by simp_all [isN])]), (by first | rfl | (congr 1; omega) | simp), trivial⟩
      ·exact (Some'.weak (.skip (.takeEq (by first | rfl | simp) (.nil _))))
     have p34 := h34; try simp only [bs] at p34
     refine .skip ?_
     refine .blockEnd ?_
     refine .region ?_
     refine .u (.int .i64 ((((i : Nat) : Int)) + 1)) (.add rfl rfl rfl (by omega) (by omega)) ?_
     refine .m ?_
     refine .done ?_
     refine .goal ⟨(by repeat (first | exact Same.refl _ _ | refine Same.put rfl ?_ | refine Same.over rfl rfl ?_)), i + 1, ?_, ?_, ?_, ?_⟩
     ·exact ⟨by omega, cntN_le _ _⟩
     ·omega
     ·exact ⟨(by show Value.int _ _ = Value.int _ _; congr 1; first | (rw [cntN_yes (p := (fun j => isN ((kk : Nat) : Int) ((q : Nat) : Int) (ndx L j))) (by simp_all [isN])]; omega) | rw [cntN_no (p := (fun j => isN ((kk : Nat) : Int) ((q : Nat) : Int) (ndx L j))) (by simp_all [isN])]), (by first | rfl | (congr 1; omega) | simp), trivial⟩
     ·exact (Some'.weak (.skip (.takeEq (by first | rfl | simp) (.nil _))))
    refine .mb h29 ?_
    have p29 := h29; try simp only [bs] at p29
    iterate 4 refine .pass rfl ?_
    refine .w (.bool false) ?_
    refine .done ?_
    refine .cond (b := false) rfl (fun h => nomatch h) (fun _ => ?_)
    refine .skip ?_
    refine .blockEnd ?_
    refine .region ?_
    refine .u (.int .i64 ((((i : Nat) : Int)) + 1)) (.add rfl rfl rfl (by omega) (by omega)) ?_
    refine .m ?_
    refine .done ?_
    refine .goal ⟨(by repeat (first | exact Same.refl _ _ | refine Same.put rfl ?_ | refine Same.over rfl rfl ?_)), i + 1, ?_, ?_, ?_, ?_⟩
    ·exact ⟨by omega, cntN_le _ _⟩
    ·omega
    ·exact ⟨(by show Value.int _ _ = Value.int _ _; congr 1; first | (rw [cntN_yes (p := (fun j => isN ((kk : Nat) : Int) ((q : Nat) : Int) (ndx L j))) (by simp_all [isN])]; omega) | rw [cntN_no (p := (fun j => isN ((kk : Nat) : Int) ((q : Nat) : Int) (ndx L j))) (by simp_all [isN])]), (by first | rfl | (congr 1; omega) | simp), trivial⟩
    ·exact (Some'.weak (.skip (.takeEq (by first | rfl | simp) (.nil _))))
   have p22 := h22; try simp only [bs] at p22
   have hin : i = n := by omega
   have hck : cntN (fun j => isN ((kk : Nat) : Int) ((q : Nat) : Int) (ndx L j)) i = cntK L ((kk : Nat) : Int) ((q : Nat) : Int) := by rw [cntK, hLn, hin]
   refine .exit rfl ?_
   refine .sr ?_
   refine .m ?_
   refine .w (.bool ((((cntN (fun j => isN ((kk : Nat) : Int) ((q : Nat) : Int) (ndx L j)) i : Nat) : Int)) != 1)) ?_
   refine .done ?_
   refine .cond (b := (((cntN (fun j => isN ((kk : Nat) : Int) ((q : Nat) : Int) (ndx L j)) i : Nat) : Int)) != 1) rfl (fun h39 => ?_) (fun h39 => ?_)
   ·have p39 := h39; try simp only [bs] at p39
    refine .seq ?_
    have hbad : (cntK L ((kk : Nat) : Int) ((q : Nat) : Int) == 1) = false := by rw [← hck]; simp; omega
    have hal : allI (fun q : Nat => cntK L ((kk : Nat) : Int) (q : Int) == 1) Q = false := allI_false (i := q) (by omega) hbad
    have hres : endsR Q L = false := by
     rcases (by omega : kk = 1 ∨ kk = 2) with rfl | rfl
     ·rw [endsR, show allI (fun q : Nat => cntK L 1 (q : Int) == 1) Q = false from hal]; rfl
     ·rw [endsR, show allI (fun q : Nat => cntK L 2 (q : Int) == 1) Q = false from hal, Bool.and_false]
    refine .region ?_
    refine .m ?_
    refine .done ?_
    refine .ret ?_
    refine ⟨.bool false, [], Out.one rfl rfl, (Some'.weak (.nil _)), ?_⟩
    show _ = _; rw [hres]
   have p39 := h39; try simp only [bs] at p39
   refine .skip ?_
   refine .blockEnd ?_
   have hone : (cntK L ((kk : Nat) : Int) ((q : Nat) : Int) == 1) = true := by rw [← hck]; simp; omega
   refine .region ?_
   refine .m ?_
   refine .u (.int .i64 ((((q : Nat) : Int)) + 1)) (.add rfl rfl rfl (by omega) (by omega)) ?_
   refine .m ?_
   refine .done ?_
   refine .goal ⟨(by repeat (first | exact Same.refl _ _ | refine Same.put rfl ?_ | refine Same.over rfl rfl ?_)), q + 1, ?_, ?_, ?_, ?_⟩
   ·refine ⟨by omega, fun i hi => ?_⟩
    rcases Nat.lt_succ_iff_lt_or_eq.1 hi with h | h
    ·exact hinv1.2 i h
    ·rw [h]; exact hone
   ·omega
   ·exact ⟨(by first | rfl | (congr 1; omega) | simp), trivial⟩
   ·exact (Some'.weak (.take (.nil _)))
  have p15 := h15; try simp only [bs] at p15
  have hqQ : q = Q := by omega
  have hall : allI (fun q : Nat => cntK L ((kk : Nat) : Int) (q : Int) == 1) Q = true := allI_iff.2 (by rw [← hqQ]; exact hinv.2)
  refine .exit rfl ?_
  refine .blockEnd ?_
  refine .region ?_
  refine .m ?_
  refine .u (.int .i64 ((((kk : Nat) : Int)) + 1)) (.add rfl rfl rfl (by omega) (by omega)) ?_
  refine .m ?_
  refine .done ?_
  refine .goal ⟨(by repeat (first | exact Same.refl _ _ | refine Same.put rfl ?_ | refine Same.over rfl rfl ?_)), kk + 1, ?_, ?_, ?_, ?_⟩
  ·refine ⟨by omega, fun j h1 h2 => ?_⟩
   by_cases e : j = kk
   ·rw [e]; exact hall
   ·exact hinv0.2 j h1 (by omega)
  ·omega
  ·exact ⟨(by first | rfl | (congr 1; omega) | simp), trivial⟩
  ·exact (Some'.weak (.take (.nil _)))
 have p9 := h9; try simp only [bs] at p9
 have hk3 : kk = 3 := by omega
 have hres : endsR Q L = true := by
  have h1 := hinv.2 1 (by omega) (by omega)
  have h2 := hinv.2 2 (by omega) (by omega)
  rw [endsR, show allI (fun q : Nat => cntK L 1 (q : Int) == 1) Q = true from h1, show allI (fun q : Nat => cntK L 2 (q : Int) == 1) Q = true from h2]; rfl
 refine .exit rfl ?_
 refine .sr ?_
 refine .m ?_
 refine .done ?_
 refine .ret ?_
 refine ⟨.bool true, [], Out.one rfl rfl, (Some'.weak (.nil _)), ?_⟩
 show _ = _; rw [hres]

set_option maxHeartbeats 4000000 in
set_option maxRecDepth 20000 in
theorem l16Good_spec {Q : Nat} {t r : Int} {va vw : Value} {n m : Nat} {L : List N2} {ws : List W3} {w : World} (hQ : 1 ≤ Q ∧ Q ≤ 5) (hwb : ∀ x ∈ ws, 0 ≤ x.2.1 ∧ x.2.1 ≤ 1000000) (ha : Sl w va 2 n (nds L)) (hw : Sl w vw 3 m (wls ws)) : Calls Try.prog 16 #[.agg #[.int .i64 (Q : Nat), va, vw, .int .i64 t, .int .i64 r]] w (Post No w fun v _ => v = .bool (gdR Q L ws t r)) := by
 have hwQ : within (Q : Nat) 1 5 = true := within_iff.2 (by omega)
 have hLn : L.length = n := ha.nlen
 have hn := ha.le
 obtain ⟨A, c, rfl, _, _⟩ := ha.form0
 have hLm : ws.length = m := hw.wlen
 have hm := hw.le
 obtain ⟨Aw, cw, rfl, _, _⟩ := hw.form0
 refine enter (n := 80) (args := [.agg #[.int .i64 (((Q : Nat) : Int)), .slice A n c, .slice Aw m cw, .int .i64 t, .int .i64 r]]) Try.func16 rfl rfl (St.empty _ _) ?_
 refine .sr ?_
 refine .step rfl (.box (us := [.int .i64 (((Q : Nat) : Int)), .slice A n c, .slice Aw m cw, .int .i64 t, .int .i64 r]) rfl fun b1 => ?_)
 refine .m ?_
 refine .done ?_
 refine .seq ?_
 refine .sr ?_
 refine .fa Tfo_29_0 ?_
 refine .u (.int .i64 (((Q : Nat) : Int))) (.load1 Tone_3 rfl (.b (.head _))) ?_
 refine .c (.bool true) [.int .i64 (((Q : Nat) : Int)), .int .i64 1, .int .i64 5] Tcall_30 (fun w hs => l1In_true hwQ) ?_
 refine .w (.bool false) ?_
 refine .m ?_
 refine .fa Tfo_29_1 ?_
 refine .u (.slice A n c) (.load1 Tone_26 rfl (.b (.head _))) ?_
 refine .u (.int .i64 (((n : Nat) : Int))) (.len Tsl_26 rfl) ?_
 refine .w (.bool (decide ((((n : Nat) : Int)) > 40))) ?_
 refine .w (.bool (decide ((((n : Nat) : Int)) > 40))) ?_
 rcases Bool.eq_false_or_eq_true (decide ((((n : Nat) : Int)) > 40)) with h16 | h16
 ·refine .mb h16 ?_
  have p16 := h16; try simp only [bs] at p16
  iterate 4 refine .pass rfl ?_
  refine .w (.bool true) ?_
  refine .m ?_
  iterate 4 refine .pass rfl ?_
  refine .w (.bool true) ?_
  refine .done ?_
  refine .cond (b := true) rfl (fun _ => ?_) (fun h => nomatch h)
  refine .seq ?_
  have hres : gdR Q L ws t r = false := gdR_no (by rw [hLn]; first | (left; omega) | (right; left; simp_all; done) | (right; right; simp_all; done))
  refine .region ?_
  refine .m ?_
  refine .done ?_
  refine .ret ?_
  refine ⟨.bool false, [], Out.one rfl rfl, (Some'.weak (.nil _)), ?_⟩
  show _ = _; rw [hres]
 refine .mb h16 ?_
 have p16 := h16; try simp only [bs] at p16
 refine .fa Tfo_29_3 ?_
 refine .u (.int .i64 t) (.load1 Tone_3 rfl (.b (.head _))) ?_
 refine .c (.bool (within t 0 7)) [.int .i64 t, .int .i64 0, .int .i64 7] Tcall_30 (fun w hs => l1In_spec _ _ _ w) ?_
 refine .w (.bool (!(within t 0 7))) ?_
 refine .w (.bool (!(within t 0 7))) ?_
 rcases Bool.eq_false_or_eq_true (!(within t 0 7)) with h22 | h22
 ·refine .mb h22 ?_
  have p22 := h22; try simp only [bs] at p22
  iterate 4 refine .pass rfl ?_
  refine .w (.bool true) ?_
  refine .done ?_
  refine .cond (b := true) rfl (fun _ => ?_) (fun h => nomatch h)
  refine .seq ?_
  have hres : gdR Q L ws t r = false := gdR_no (by rw [hLn]; first | (left; omega) | (right; left; simp_all; done) | (right; right; simp_all; done))
  refine .region ?_
  refine .m ?_
  refine .done ?_
  refine .ret ?_
  refine ⟨.bool false, [], Out.one rfl rfl, (Some'.weak (.nil _)), ?_⟩
  show _ = _; rw [hres]
 refine .mb h22 ?_
 have p22 := h22; try simp only [bs] at p22
 refine .fa Tfo_29_4 ?_
 refine .u (.int .i64 r) (.load1 Tone_3 rfl (.b (.head _))) ?_
 refine .c (.bool (within r (-60) 60)) [.int .i64 r, .int .i64 (-60), .int .i64 60] Tcall_30 (fun w hs => l1In_spec _ _ _ w) ?_
 refine .w (.bool (!(within r (-60) 60))) ?_
 refine .w (.bool (!(within r (-60) 60))) ?_
 refine .done ?_
 refine .cond (b := !(within r (-60) 60)) rfl (fun h27 => ?_) (fun h27 => ?_)
 ·have p27 := h27; try simp only [bs] at p27
  refine .seq ?_
  have hres : gdR Q L ws t r = false := gdR_no (by rw [hLn]; first | (left; omega) | (right; left; simp_all; done) | (right; right; simp_all; done))
  refine .region ?_
  refine .m ?_
  refine .done ?_
  refine .ret ?_
  refine ⟨.bool false, [], Out.one rfl rfl, (Some'.weak (.nil _)), ?_⟩
  show _ = _; rw [hres]
 have p27 := h27; try simp only [bs] at p27
 refine .skip ?_
 refine .seq ?_
 refine .seq ?_
 have hpre : gdR Q L ws t r = (allI (wOk L.length ws) ws.length && allI (ndR Q L ws) L.length && endsR Q L) := gdR_yes (by omega) (by simp_all) (by simp_all)
 refine .region ?_
 refine .fa Tfo_29_2 ?_
 refine .u (.slice Aw m cw) (.load1 Tone_27 rfl (.b (.head _))) ?_
 refine .u (.int .i64 (((m : Nat) : Int))) (.len Tsl_27 rfl) ?_
 refine .m ?_
 refine .done ?_
 refine .block ?_
 refine Run.loop (ι := Nat) [2, 3, 4, 31, 32, 33, 34, 35, 36, 37, 38, 39, 40, 41, 42, 43, 44, 45, 46, 47, 48, 49, 50, 51, 52, 53, 54, 55, 56, 57, 58, 59, 60, 61, 62, 63, 64, 65, 66] (fun k => [(31, .int .i64 (((k : Nat) : Int)))]) (fun k => [.blk b1 29 [.int .i64 (((Q : Nat) : Int)), .slice A n c, .slice Aw m cw, .int .i64 t, .int .i64 r]]) (fun k => k ≤ m ∧ ∀ j, j < k → wOk L.length ws j = true) (fun k => m - k) 0 ?_ ?_ ?_ ?_
 ·exact ⟨Nat.zero_le _, fun i hi => by omega⟩
 ·exact ⟨rfl, trivial⟩
 ·exact (Some'.weak (.take (.nil _)))
 rintro k fr hinv
 show Run _ _ (over _ _ [(31, .int .i64 (((k : Nat) : Int)))] fr) [.blk b1 29 [.int .i64 (((Q : Nat) : Int)), .slice A n c, .slice Aw m cw, .int .i64 t, .int .i64 r]]
 try dsimp only at hinv
 refine .sr ?_
 refine .w (.bool (decide ((((k : Nat) : Int)) < (((m : Nat) : Int))))) ?_
 refine .done ?_
 refine .seq ?_
 refine .cond (b := decide ((((k : Nat) : Int)) < (((m : Nat) : Int)))) rfl (fun h32 => ?_) (fun h32 => ?_)
 ·have p32 := h32; try simp only [bs] at p32
  have hltk : k < m := by omega
  have hwbk := hwb (wx ws k) (wx_mem (by omega))
  obtain ⟨bw, ow, rfl⟩ := hw.opn (by omega)
  refine .skip ?_
  refine .seq ?_
  refine .block ?_
  refine .sr ?_
  refine .m ?_
  refine .u (.pointer (some ⟨bw, ow + k * 3, none⟩)) (.ix k Tsl_27) ?_
  refine .u (.agg #[.int .i64 ((wx ws k).1), .int .i64 ((wx ws k).2.1), .bool ((wx ws k).2.2)]) (.loadN (cs := [.int .i64 ((wx ws k).1), .int .i64 ((wx ws k).2.1), .bool ((wx ws k).2.2)]) Tagg_71 rfl (Cells.arg (k := k * 3) hw rfl (by omega) (preW (k := k) (by omega)))) ?_
  refine .step rfl (.alloc (zs := [.int .i64 0, .int .i64 0, .bool false]) Tzero_71 fun b2 => ?_)
  refine .m ?_
  refine .step rfl (.storeAll (us := [.int .i64 ((wx ws k).1), .int .i64 ((wx ws k).2.1), .bool ((wx ws k).2.2)]) Tsize_71 rfl rfl rfl (.here _) rfl ?_)
  refine .done ?_
  refine .seq ?_
  refine .draws (by kernel_rfl) (by kernel_rfl) ?_
  refine .u (.pointer (some ⟨b2, 0, none⟩)) (.fieldAddr Tfo_71_0 rfl rfl) ?_
  refine .u (.int .i64 ((wx ws k).1)) (.load1 Tone_3 rfl (.b (.head _))) ?_
  refine .u (.pointer (some ⟨b2, 1, none⟩)) (.fieldAddr Tfo_71_1 rfl rfl) ?_
  refine .u (.int .i64 ((wx ws k).2.1)) (.load1 Tone_3 rfl (.b (.head _))) ?_
  refine .u (.int .i64 (((wx ws k).2.1) - 1)) (.sub rfl rfl rfl (by omega) (by omega)) ?_
  refine Lex.q (v := .bool (within ((wx ws k).1) 0 (((wx ws k).2.1) - 1))) rfl (OpQ.call (vs := [.int .i64 ((wx ws k).1), .int .i64 0, .int .i64 (((wx ws k).2.1) - 1)]) (caps := []) Tcall_30 rfl rfl (fun w hs => l1In_spec _ _ _ w)) ?_
  refine .w (.bool (!(within ((wx ws k).1) 0 (((wx ws k).2.1) - 1)))) ?_
  rcases Bool.eq_false_or_eq_true (!(within ((wx ws k).1) 0 (((wx ws k).2.1) - 1))) with h43 | h43
  ·refine .u (.bool true) (.moveB rfl h43) ?_
   have p43 := h43; try simp only [bs] at p43
   iterate 6 refine .pass rfl ?_
   refine .w (.bool true) ?_
   refine .m ?_
   iterate 13 refine .pass rfl ?_
   refine .w (.bool true) ?_
   refine .done ?_
   refine .cond (b := true) rfl (fun _ => ?_) (fun h => nomatch h)
   refine .seq ?_
   have hbad : wOk L.length ws k = false := by
    cases hb : wOk L.length ws k with
    | false => rfl
    | true =>
     exfalso
     rw [wOk, hLn] at hb
     simp only [Bool.and_eq_true, Bool.or_eq_true, decide_eq_true_eq] at hb
     first | omega | (simp_all [within]; done) | (simp_all [within]; omega)
   have hres : gdR Q L ws t r = false := by rw [hpre, allI_false (i := k) (by omega) hbad]; rfl
   refine .region ?_
   refine .m ?_
   refine .done ?_
   refine .ret ?_
   refine ⟨.bool false, [], Out.one rfl rfl, (Some'.weak (.nil _)), ?_⟩
   show _ = _; rw [hres]
  refine .u (.bool false) (.moveB rfl h43) ?_
  have p43 := h43; try simp only [bs] at p43
  refine .u (.pointer (some ⟨b2, 1, none⟩)) (.fieldAddr Tfo_71_1 rfl rfl) ?_
  refine .u (.int .i64 ((wx ws k).2.1)) (.load1 Tone_3 rfl (.b (.head _))) ?_
  refine .u (.pointer (some ⟨b1, 1, none⟩)) (.fieldAddr Tfo_29_1 rfl rfl) ?_
  refine .u (.slice A n c) (.load1 Tone_26 rfl (.b (.tail _ (.head _)))) ?_
  refine .u (.int .i64 (((n : Nat) : Int))) (.len Tsl_26 rfl) ?_
  refine .w (.bool (decide (((wx ws k).2.1) ≥ (((n : Nat) : Int))))) ?_
  refine .w (.bool (decide (((wx ws k).2.1) ≥ (((n : Nat) : Int))))) ?_
  rcases Bool.eq_false_or_eq_true (decide (((wx ws k).2.1) ≥ (((n : Nat) : Int)))) with h51 | h51
  ·refine .u (.bool true) (.moveB rfl h51) ?_
   have p51 := h51; try simp only [bs] at p51
   iterate 13 refine .pass rfl ?_
   refine .w (.bool true) ?_
   refine .done ?_
   refine .cond (b := true) rfl (fun _ => ?_) (fun h => nomatch h)
   refine .seq ?_
   have hbad : wOk L.length ws k = false := by
    cases hb : wOk L.length ws k with
    | false => rfl
    | true =>
     exfalso
     rw [wOk, hLn] at hb
     simp only [Bool.and_eq_true, Bool.or_eq_true, decide_eq_true_eq] at hb
     first | omega | (simp_all [within]; done) | (simp_all [within]; omega)
   have hres : gdR Q L ws t r = false := by rw [hpre, allI_false (i := k) (by omega) hbad]; rfl
   refine .region ?_
   refine .m ?_
   refine .done ?_
   refine .ret ?_
   refine ⟨.bool false, [], Out.one rfl rfl, (Some'.weak (.nil _)), ?_⟩
   show _ = _; rw [hres]
  refine .u (.bool false) (.moveB rfl h51) ?_
  have p51 := h51; try simp only [bs] at p51
  refine .m ?_
  refine .w (.bool (decide ((((k : Nat) : Int)) > 0))) ?_
  rcases Bool.eq_false_or_eq_true (decide ((((k : Nat) : Int)) > 0)) with h54 | h54
  ·refine .u (.bool true) (.moveB rfl h54) ?_
   have p54 := h54; try simp only [bs] at p54
   refine .u (.pointer (some ⟨b1, 2, none⟩)) (.fieldAddr Tfo_29_2 rfl rfl) ?_
   refine .u (.slice (some ⟨bw, ow, none⟩) m cw) (.load1 Tone_27 rfl (.b (.tail _ (.head _)))) ?_
   refine .m ?_
   refine .u (.int .i64 (((k - 1 : Nat) : Int))) (.sub rfl rfl (by omega) (by omega) (by omega)) ?_
   refine .u (.pointer (some ⟨bw, ow + (k - 1) * 3, none⟩)) (.ix (k - 1) Tsl_27) ?_
   refine .u (.agg #[.int .i64 ((wx ws (k - 1)).1), .int .i64 ((wx ws (k - 1)).2.1), .bool ((wx ws (k - 1)).2.2)]) (.loadN (cs := [.int .i64 ((wx ws (k - 1)).1), .int .i64 ((wx ws (k - 1)).2.1), .bool ((wx ws (k - 1)).2.2)]) Tagg_71 rfl (Cells.arg (k := (k - 1) * 3) hw rfl (by omega) (preW (k := k - 1) (by omega)))) ?_
   refine .u (.agg #[.int .i64 ((wx ws k).1), .int .i64 ((wx ws k).2.1), .bool ((wx ws k).2.2)]) (.loadN (cs := [.int .i64 ((wx ws k).1), .int .i64 ((wx ws k).2.1), .bool ((wx ws k).2.2)]) Tagg_71 rfl (Cells.blk (.head _) ⟨rfl, rfl, rfl, trivial⟩)) ?_
   refine Lex.q (v := .bool (wlt (wx ws (k - 1)) (wx ws k))) rfl (OpQ.call (vs := [.agg #[.int .i64 ((wx ws (k - 1)).1), .int .i64 ((wx ws (k - 1)).2.1), .bool ((wx ws (k - 1)).2.2)], .agg #[.int .i64 ((wx ws k).1), .int .i64 ((wx ws k).2.1), .bool ((wx ws k).2.2)]]) (caps := []) Tcall_34 rfl rfl (fun w hs => l16Less_spec _ _ _ _ _ _ w)) ?_
   refine .w (.bool (!(wlt (wx ws (k - 1)) (wx ws k)))) ?_
   refine .w (.bool (!(wlt (wx ws (k - 1)) (wx ws k)))) ?_
   refine .w (.bool (!(wlt (wx ws (k - 1)) (wx ws k)))) ?_
   refine .done ?_
   refine .cond (b := !(wlt (wx ws (k - 1)) (wx ws k))) rfl (fun h65 => ?_) (fun h65 => ?_)
   ·have p65 := h65; try simp only [bs] at p65
    refine .seq ?_
    have hbad : wOk L.length ws k = false := by
     cases hb : wOk L.length ws k with
     | false => rfl
     | true =>
      exfalso
      rw [wOk, hLn] at hb
      simp only [Bool.and_eq_true, Bool.or_eq_true, decide_eq_true_eq] at hb
      first | omega | (simp_all [within]; done) | (simp_all [within]; omega)
    have hres : gdR Q L ws t r = false := by rw [hpre, allI_false (i := k) (by omega) hbad]; rfl
    refine .region ?_
    refine .m ?_
    refine .done ?_
    refine .ret ?_
    refine ⟨.bool false, [], Out.one rfl rfl, (Some'.weak (.nil _)), ?_⟩
    show _ = _; rw [hres]
   have p65 := h65; try simp only [bs] at p65
   refine .skip ?_
   refine .blockEnd ?_
   have hgood : wOk L.length ws k = true := by
    have hin := within_iff.1 (show within (wx ws k).1 0 ((wx ws k).2.1 - 1) = true by simp_all)
    rw [wOk, hLn]
    simp only [Bool.and_eq_true, Bool.or_eq_true, decide_eq_true_eq]
    refine ⟨⟨⟨by omega, by omega⟩, by omega⟩, ?_⟩
    first | (left; omega) | (right; simp_all; done)
   refine .region ?_
   refine .u (.int .i64 ((((k : Nat) : Int)) + 1)) (.add rfl rfl rfl (by omega) (by omega)) ?_
   refine .m ?_
   refine .done ?_
   refine .goal ⟨(by repeat (first | exact Same.refl _ _ | refine Same.put rfl ?_ | refine Same.over rfl rfl ?_)), k + 1, ?_, ?_, ?_, ?_⟩
   ·refine ⟨by omega, fun j hj => ?_⟩
    rcases Nat.lt_succ_iff_lt_or_eq.1 hj with h | h
    ·exact hinv.2 j h
    ·rw [h]; exact hgood
   ·omega
   ·exact ⟨(by first | rfl | (congr 1; omega) | simp), trivial⟩
   ·exact (Some'.weak (.skip (.takeEq (by first | rfl | simp) (.nil _))))
  refine .u (.bool false) (.moveB rfl h54) ?_
  have p54 := h54; try simp only [bs] at p54
  iterate 9 refine .pass rfl ?_
  refine .w (.bool false) ?_
  refine .w (.bool false) ?_
  refine .done ?_
  refine .cond (b := false) rfl (fun h => nomatch h) (fun _ => ?_)
  refine .skip ?_
  refine .blockEnd ?_
  have hgood : wOk L.length ws k = true := by
   have hin := within_iff.1 (show within (wx ws k).1 0 ((wx ws k).2.1 - 1) = true by simp_all)
   rw [wOk, hLn]
   simp only [Bool.and_eq_true, Bool.or_eq_true, decide_eq_true_eq]
   refine ⟨⟨⟨by omega, by omega⟩, by omega⟩, ?_⟩
   first | (left; omega) | (right; simp_all; done)
  refine .region ?_
  refine .u (.int .i64 ((((k : Nat) : Int)) + 1)) (.add rfl rfl rfl (by omega) (by omega)) ?_
  refine .m ?_
  refine .done ?_
  refine .goal ⟨(by repeat (first | exact Same.refl _ _ | refine Same.put rfl ?_ | refine Same.over rfl rfl ?_)), k + 1, ?_, ?_, ?_, ?_⟩
  ·refine ⟨by omega, fun j hj => ?_⟩
   rcases Nat.lt_succ_iff_lt_or_eq.1 hj with h | h
   ·exact hinv.2 j h
   ·rw [h]; exact hgood
  ·omega
  ·exact ⟨(by first | rfl | (congr 1; omega) | simp), trivial⟩
  ·exact (Some'.weak (.skip (.takeEq (by first | rfl | simp) (.nil _))))
 have p32 := h32; try simp only [bs] at p32
 have hkm : k = m := by omega
 have hwok : allI (wOk L.length ws) ws.length = true := allI_iff.2 (by rw [hLm, ← hkm]; exact hinv.2)
 refine .exit rfl ?_
 refine .seq ?_
 refine .sr ?_
 refine .fa Tfo_29_1 ?_
 refine .u (.slice A n c) (.load1 Tone_26 rfl (.b (.head _))) ?_
 refine .u (.int .i64 (((n : Nat) : Int))) (.len Tsl_26 rfl) ?_
 refine .m ?_
 refine .done ?_
 refine .block ?_
 refine Run.loop (ι := Nat) [2, 5, 70, 71, 72, 73, 74, 75, 76, 77] (fun i => [(70, .int .i64 (((i : Nat) : Int)))]) (fun i => [.blk b1 29 [.int .i64 (((Q : Nat) : Int)), .slice A n c, .slice Aw m cw, .int .i64 t, .int .i64 r]]) (fun i => i ≤ n ∧ ∀ j, j < i → ndR Q L ws j = true) (fun i => n - i) 0 ?_ ?_ ?_ ?_
 ·exact ⟨Nat.zero_le _, fun i hi => by omega⟩
 ·exact ⟨rfl, trivial⟩
 ·exact (Some'.weak (.take (.nil _)))
 rintro i fr hinv
 show Run _ _ (over _ _ [(70, .int .i64 (((i : Nat) : Int)))] fr) [.blk b1 29 [.int .i64 (((Q : Nat) : Int)), .slice A n c, .slice Aw m cw, .int .i64 t, .int .i64 r]]
 try dsimp only at hinv
 refine .sr ?_
 refine .w (.bool (decide ((((i : Nat) : Int)) < (((n : Nat) : Int))))) ?_
 refine .done ?_
 refine .seq ?_
 refine .cond (b := decide ((((i : Nat) : Int)) < (((n : Nat) : Int)))) rfl (fun h71 => ?_) (fun h71 => ?_)
 ·have p71 := h71; try simp only [bs] at p71
  have hlti : i < n := by omega
  refine .skip ?_
  refine .seq ?_
  refine .block ?_
  refine .sr ?_
  iterate 2 refine .m ?_
  refine .dsr ?_
  refine .u (.agg #[.int .i64 (((Q : Nat) : Int)), .slice A n c, .slice Aw m cw, .int .i64 t, .int .i64 r]) (.loadN (cs := [.int .i64 (((Q : Nat) : Int)), .slice A n c, .slice Aw m cw, .int .i64 t, .int .i64 r]) Tagg_29 rfl (Cells.blk (.head _) ⟨rfl, rfl, rfl, rfl, rfl, trivial⟩)) ?_
  refine .m ?_
  refine .c (.bool (ndR Q L ws i)) [.agg #[.int .i64 (((Q : Nat) : Int)), .slice A n c, .slice Aw m cw, .int .i64 t, .int .i64 r], .int .i64 (((i : Nat) : Int))] Tcall_35 (fun w hs => l16Node_spec hQ (hs.sl ha) (hs.sl hw) (by omega)) ?_
  refine .w (.bool (!(ndR Q L ws i))) ?_
  refine .done ?_
  refine .cond (b := !(ndR Q L ws i)) rfl (fun h76 => ?_) (fun h76 => ?_)
  ·have p76 := h76; try simp only [bs] at p76
   refine .seq ?_
   have hbad : ndR Q L ws i = false := by simp_all
   have hres : gdR Q L ws t r = false := by rw [hpre, hwok, allI_false (i := i) (by omega) hbad]; rfl
   refine .region ?_
   refine .m ?_
   refine .done ?_
   refine .ret ?_
   refine ⟨.bool false, [], Out.one rfl rfl, (Some'.weak (.nil _)), ?_⟩
   show _ = _; rw [hres]
  have p76 := h76; try simp only [bs] at p76
  refine .skip ?_
  refine .blockEnd ?_
  have hgood : ndR Q L ws i = true := by simp_all
  refine .region ?_
  refine .u (.int .i64 ((((i : Nat) : Int)) + 1)) (.add rfl rfl rfl (by omega) (by omega)) ?_
  refine .m ?_
  refine .done ?_
  refine .goal ⟨(by repeat (first | exact Same.refl _ _ | refine Same.put rfl ?_ | refine Same.over rfl rfl ?_)), i + 1, ?_, ?_, ?_, ?_⟩
  ·refine ⟨by omega, fun j hj => ?_⟩
   rcases Nat.lt_succ_iff_lt_or_eq.1 hj with h | h
   ·exact hinv.2 j h
   ·rw [h]; exact hgood
  ·omega
  ·exact ⟨(by first | rfl | (congr 1; omega) | simp), trivial⟩
  ·exact (Some'.weak (.take (.nil _)))
 have p71 := h71; try simp only [bs] at p71
 have hin : i = n := by omega
 have hres : gdR Q L ws t r = endsR Q L := by rw [hpre, hwok, allI_iff.2 (by rw [hLn, ← hin]; exact hinv.2)]; rfl
 refine .exit rfl ?_
 refine .sr ?_
 refine .u (.agg #[.int .i64 (((Q : Nat) : Int)), .slice A n c, .slice Aw m cw, .int .i64 t, .int .i64 r]) (.loadN (cs := [.int .i64 (((Q : Nat) : Int)), .slice A n c, .slice Aw m cw, .int .i64 t, .int .i64 r]) Tagg_29 rfl (Cells.blk (.head _) ⟨rfl, rfl, rfl, rfl, rfl, trivial⟩)) ?_
 refine .c (.bool (endsR Q L)) [.agg #[.int .i64 (((Q : Nat) : Int)), .slice A n c, .slice Aw m cw, .int .i64 t, .int .i64 r]] Tcall_36 (fun w hs => l16Ends_spec hQ (hs.sl ha)) ?_
 refine .m ?_
 refine .done ?_
 refine .ret ?_
 refine ⟨.bool (endsR Q L), [], Out.one rfl rfl, (Some'.weak (.nil _)), ?_⟩
 show _ = _; rw [hres]

end Go.Proofs.Ytnnkoeknejeieaa
