/- Walks: which routes are searched, swaps that are counted. -/
import Derived.Test.YtekikmdjldincaaLsd
import Derived.Test.YtekikmdjldincaaProg
set_option linter.unusedSimpArgs false
set_option linter.unusedVariables false
namespace Go.Proofs.Ytekikmdjldincaa
open Go Go.RowKit
namespace LseT
theorem Tagg_101 : aggOf Try.prog 101 = some 3 := by kernel_rfl
theorem Tagg_35 : aggOf Try.prog 35 = some 2 := by kernel_rfl
theorem Tagg_39 : aggOf Try.prog 39 = some 2 := by kernel_rfl
theorem Tagg_81 : aggOf Try.prog 81 = some 3 := by kernel_rfl
theorem Tcall_56 : callable Try.prog 56 = true := by kernel_rfl
theorem Tcall_59 : callable Try.prog 59 = true := by kernel_rfl
theorem Tcall_60 : callable Try.prog 60 = true := by kernel_rfl
theorem Tcall_69 : callable Try.prog 69 = true := by kernel_rfl
theorem Tcall_70 : callable Try.prog 70 = true := by kernel_rfl
theorem Tcall_84 : callable Try.prog 84 = true := by kernel_rfl
theorem Tcall_85 : callable Try.prog 85 = true := by kernel_rfl
theorem Tcall_87 : callable Try.prog 87 = true := by kernel_rfl
theorem Tfo_101_0 : fieldOff Try.prog 101 0 = some 0 := by kernel_rfl
theorem Tfo_35_0 : fieldOff Try.prog 35 0 = some 0 := by kernel_rfl
theorem Tfo_39_1 : fieldOff Try.prog 39 1 = some 1 := by kernel_rfl
theorem Tfo_48_1 : fieldOff Try.prog 48 1 = some 1 := by kernel_rfl
theorem Tfo_81_0 : fieldOff Try.prog 81 0 = some 0 := by kernel_rfl
theorem Tone_3 : oneOf Try.prog 3 = true := by kernel_rfl
theorem Tone_37 : oneOf Try.prog 37 = true := by kernel_rfl
theorem Tone_46 : oneOf Try.prog 46 = true := by kernel_rfl
theorem Tsize_101 : (Try.prog.info? 101).map (·.size) = some 3 := by kernel_rfl
theorem Tsize_81 : (Try.prog.info? 81).map (·.size) = some 3 := by kernel_rfl
theorem Tsl_37 : sliceOf Try.prog 37 = some (81, 3, 24, [.int .i64 0, .int .i64 0, .int .i64 0]) := by kernel_rfl
theorem Tsl_46 : sliceOf Try.prog 46 = some (101, 3, 24, [.int .i64 0, .int .i64 0, .int .i64 0]) := by kernel_rfl
theorem Tzero_101 : zeroOf Try.prog 101 = some [.int .i64 0, .int .i64 0, .int .i64 0] := by kernel_rfl
theorem Tzero_81 : zeroOf Try.prog 81 = some [.int .i64 0, .int .i64 0, .int .i64 0] := by kernel_rfl
end LseT
open LseT

def smB (N : Int) (es : List Int) (m : Nat) (Q : Int) (xs : List Int) (n : Nat) : Bool := (((fitOk N es m Q xs n && decide (N ≤ 5)) && decide ((n : Int) ≤ 40)) && decide ((cnt2 xs n : Int) ≤ 12))
theorem fit_circ {N Q : Int} {es xs : List Int} {m n : Nat} (h : fitOk N es m Q xs n = true) : circOk Q xs n = true := by
  simp only [fitOk, Bool.and_eq_true] at h; exact h.1.2
/-- How many of the steps are swaps. -/
def swN (xs : List Int) : Nat → Nat
  | 0 => 0
  | k + 1 => if ix xs (k * 3) = -1 then swN xs k + 1 else swN xs k
theorem swN_le (xs : List Int) : ∀ k, swN xs k ≤ k
  | 0 => Nat.le_refl _
  | k + 1 => by have := swN_le xs k; rw [swN]; split <;> omega

set_option maxHeartbeats 1000000 in
set_option maxRecDepth 20000 in
theorem counted_spec {N : Int} {va : Value} {n : Nat} {xs : List Int} {w : World} (ha : Sl w va 3 n (ints xs)) : Calls Try.prog 84 #[.agg #[.int .i64 N, va], .func (.func 85) #[] #[]] w (Post No w fun v _ => v = .tuple #[.int .i64 (if circOk N xs n = true then ((cnt2 xs n : Nat) : Int) else 0), .bool (circOk N xs n)]) := by
  have hxl := ha.len
  have hn := ha.le
  obtain ⟨A, c, rfl, _, _⟩ := ha.form0
  refine enter (n := 27) (args := [.agg #[.int .i64 N, .slice A n c], .func (.func 85) #[] #[]]) Try.func84 rfl rfl (St.empty _ _) ?_
  refine Run.seq ?_
  refine Run.region ?_
  refine Run.step rfl (OpStep.box (us := [.int .i64 N, .slice A n c]) rfl fun b1 => ?_)
  refine Run.q (v := .int .i64 0) rfl (OpQ.y (OpY.pure rfl)) ?_
  refine Run.q (v := .bool false) rfl (OpQ.y (OpY.pure rfl)) ?_
  refine Run.done ?_
  refine Run.seq ?_
  refine Run.seq ?_
  refine Run.region ?_
  refine Run.q (v := .agg #[.int .i64 N, .slice A n c]) rfl (OpQ.y (OpY.loadN (cs := [.int .i64 N, .slice A n c]) Tagg_39 rfl (Cells.blk (.head _) ⟨rfl, rfl, trivial⟩))) ?_
  refine Run.q (v := .bool (circOk N xs n)) rfl (OpQ.call (vs := [.agg #[.int .i64 N, .slice A n c]]) (caps := []) Tcall_87 rfl rfl (fun w hs => IsValidCircuit_spec (hs.sl ha))) ?_
  refine Run.q (v := .bool (!(circOk N xs n))) rfl (OpQ.y (OpY.pure rfl)) ?_
  refine Run.done ?_
  refine Run.cond (b := !(circOk N xs n)) rfl (fun h11 => ?_) (fun h11 => ?_)
  · have p11 := h11; try simp only [bs] at p11
    have hbad : circOk N xs n = false := by simpa using p11
    refine Run.seq ?_
    refine Run.region ?_
    refine Run.q (v := .int .i64 0) rfl (OpQ.y (OpY.pure rfl)) ?_
    refine Run.q (v := .bool false) rfl (OpQ.y (OpY.pure rfl)) ?_
    refine Run.done ?_
    refine Run.ret ?_
    refine ⟨.tuple #[.int .i64 0, .bool false], [], Out.two rfl rfl rfl, (Some'.weak (.nil _)), ?_⟩
    show _ = _; rw [hbad]; rfl
  · have p11 := h11; try simp only [bs] at p11
    have hok : circOk N xs n = true := by simpa using p11
    have h400 := circOk_n hok
    refine Run.skip ?_
    refine Run.seq ?_
    refine Run.region ?_
    refine Run.q (v := .int .i64 0) rfl (OpQ.y (OpY.pure rfl)) ?_
    refine Run.done ?_
    refine Run.seq ?_
    refine Run.seq ?_
    refine Run.region ?_
    refine Run.q (v := .pointer (some ⟨b1, 1, none⟩)) rfl (OpQ.y (OpY.fieldAddr Tfo_39_1 rfl rfl)) ?_
    refine Run.q (v := .slice A n c) rfl (OpQ.y (OpY.load1 Tone_37 rfl (Cells.blk (.head _) ⟨rfl, trivial⟩))) ?_
    refine Run.q (v := .int .i64 (((n : Nat) : Int))) rfl (OpQ.y (OpY.len Tsl_37 rfl)) ?_
    refine Run.q (v := .int .i64 0) rfl (OpQ.y (OpY.pure rfl)) ?_
    refine Run.done ?_
    refine Run.block ?_
    refine Run.loop (ι := Nat) [6, 8, 15, 16, 17, 18, 19, 20, 21, 22, 23, 24, 25] (fun k => [(6, .int .i64 (((cnt2 xs k : Nat) : Int))), (15, .int .i64 (((k : Nat) : Int)))]) (fun k => [.blk b1 39 [.int .i64 N, .slice A n c]]) (fun k => k ≤ n ∧ (True)) (fun k => n - k) 0 ?_ ?_ ?_ ?_
    · exact ⟨Nat.zero_le _, by first | trivial | (intro i hi; omega)⟩
    · exact ⟨rfl, rfl, trivial⟩
    · exact (Some'.weak (.take (.nil _)))
    · rintro k fr hinv
      show Run _ _ (over _ _ [(6, .int .i64 (((cnt2 xs k : Nat) : Int))), (15, .int .i64 (((k : Nat) : Int)))] fr) [.blk b1 39 [.int .i64 N, .slice A n c]]
      try dsimp only at hinv
      refine Run.seq ?_
      refine Run.region ?_
      refine Run.q (v := .bool (decide ((((k : Nat) : Int)) < (((n : Nat) : Int))))) rfl (OpQ.y (OpY.pure rfl)) ?_
      refine Run.done ?_
      refine Run.seq ?_
      refine Run.cond (b := decide ((((k : Nat) : Int)) < (((n : Nat) : Int)))) rfl (fun h16 => ?_) (fun h16 => ?_)
      · have p16 := h16; try simp only [bs] at p16
        have hltk : k < n := by omega
        obtain ⟨b, o, rfl⟩ := ha.opn (by omega)
        have hcl := cnt2_le xs k
        refine Run.skip ?_
        refine Run.seq ?_
        refine Run.block ?_
        refine Run.seq ?_
        refine Run.region ?_
        refine Run.q (v := .pointer (some ⟨b, o + k * 3, none⟩)) rfl (OpQ.y (OpY.index (kk := k) Tsl_37 rfl rfl (by omega) (by omega) (by first | rfl | omega))) ?_
        refine Run.q (v := .agg #[.int .i64 (ix xs (k * 3)), .int .i64 (ix xs (k * 3 + 1)), .int .i64 (ix xs (k * 3 + 2))]) rfl (OpQ.y (OpY.loadN (cs := [.int .i64 (ix xs (k * 3)), .int .i64 (ix xs (k * 3 + 1)), .int .i64 (ix xs (k * 3 + 2))]) Tagg_81 rfl (Cells.arg (k := k * 3) ha rfl (by omega) (pre3 (by omega))))) ?_
        refine Run.step rfl (OpStep.alloc (zs := [.int .i64 0, .int .i64 0, .int .i64 0]) Tzero_81 fun b2 => ?_)
        refine Run.step rfl (OpStep.storeAll (us := [.int .i64 (ix xs (k * 3)), .int .i64 (ix xs (k * 3 + 1)), .int .i64 (ix xs (k * 3 + 2))]) Tsize_81 rfl rfl rfl (.here _) rfl ?_)
        refine Run.done ?_
        refine Run.seq ?_
        refine Run.region ?_
        refine Run.q (v := .func (.func 85) #[] #[]) rfl (OpQ.y (OpY.pure rfl)) ?_
        refine Run.q (v := .pointer (some ⟨b2, 0, none⟩)) rfl (OpQ.y (OpY.fieldAddr Tfo_81_0 rfl rfl)) ?_
        refine Run.q (v := .int .i64 (ix xs (k * 3))) rfl (OpQ.y (OpY.load1 Tone_3 rfl (Cells.blk (.head _) ⟨rfl, trivial⟩))) ?_
        refine Run.q (v := .bool (decide (9 ≤ ix xs (k * 3) ∧ ix xs (k * 3) ≤ 11))) rfl (OpQ.call (vs := [.int .i64 (ix xs (k * 3))]) (caps := []) Tcall_85 rfl rfl (fun w hs => isTwo_spec _ w)) ?_
        refine Run.done ?_
        refine Run.cond (b := decide (9 ≤ ix xs (k * 3) ∧ ix xs (k * 3) ≤ 11)) rfl (fun h22 => ?_) (fun h22 => ?_)
        · have p22 := h22; try simp only [bs] at p22
          have hnx : cnt2 xs (k + 1) = cnt2 xs k + 1 := by rw [cnt2, if_pos (by unfold isTwoI; exact h22)]
          refine Run.region ?_
          refine Run.q (v := .int .i64 (((cnt2 xs k : Nat) : Int))) rfl (OpQ.y (OpY.pure rfl)) ?_
          refine Run.q (v := .int .i64 ((((cnt2 xs k : Nat) : Int)) + 1)) rfl (OpQ.y (OpY.add rfl rfl rfl (by omega) (by omega))) ?_
          refine Run.q (v := .int .i64 ((((cnt2 xs k : Nat) : Int)) + 1)) rfl (OpQ.y (OpY.pure rfl)) ?_
          refine Run.done ?_
          refine Run.blockEnd ?_
          refine Run.region ?_
          refine Run.q (v := .int .i64 ((((k : Nat) : Int)) + 1)) rfl (OpQ.y (OpY.add rfl rfl rfl (by omega) (by omega))) ?_
          refine Run.q (v := .int .i64 ((((k : Nat) : Int)) + 1)) rfl (OpQ.y (OpY.pure rfl)) ?_
          refine Run.done ?_
          refine Run.goal ⟨(by repeat (first | exact Same.refl _ _ | refine Same.put rfl ?_ | refine Same.over rfl rfl ?_)), k + 1, ?_, ?_, ?_, ?_⟩
          · refine ⟨by omega, ?_⟩
            trivial
          · omega
          · exact ⟨(by show Value.int _ _ = Value.int _ _; rw [hnx] <;> first | done | rfl | (congr 1)), (by first | rfl | (congr 1; omega) | simp), trivial⟩
          · exact (Some'.weak (.skip (.takeEq (by first | rfl | simp) (.nil _))))
        · have p22 := h22; try simp only [bs] at p22
          have hnx : cnt2 xs (k + 1) = cnt2 xs k := by rw [cnt2, if_neg (by unfold isTwoI; rw [h22]; decide)]
          refine Run.skip ?_
          refine Run.blockEnd ?_
          refine Run.region ?_
          refine Run.q (v := .int .i64 ((((k : Nat) : Int)) + 1)) rfl (OpQ.y (OpY.add rfl rfl rfl (by omega) (by omega))) ?_
          refine Run.q (v := .int .i64 ((((k : Nat) : Int)) + 1)) rfl (OpQ.y (OpY.pure rfl)) ?_
          refine Run.done ?_
          refine Run.goal ⟨(by repeat (first | exact Same.refl _ _ | refine Same.put rfl ?_ | refine Same.over rfl rfl ?_)), k + 1, ?_, ?_, ?_, ?_⟩
          · refine ⟨by omega, ?_⟩
            trivial
          · omega
          · exact ⟨(by show Value.int _ _ = Value.int _ _; rw [hnx] <;> first | done | rfl | (congr 1)), (by first | rfl | (congr 1; omega) | simp), trivial⟩
          · exact (Some'.weak (.skip (.takeEq (by first | rfl | simp) (.nil _))))
      · have p16 := h16; try simp only [bs] at p16
        have hknk : k = n := by omega
        refine Run.exit rfl ?_
        refine Run.seq ?_
        refine Run.region ?_
        refine Run.q (v := .int .i64 (((cnt2 xs k : Nat) : Int))) rfl (OpQ.y (OpY.pure rfl)) ?_
        refine Run.q (v := .int .i64 (((cnt2 xs k : Nat) : Int))) rfl (OpQ.y (OpY.pure rfl)) ?_
        refine Run.q (v := .bool true) rfl (OpQ.y (OpY.pure rfl)) ?_
        refine Run.done ?_
        refine Run.ret ?_
        refine ⟨.tuple #[.int .i64 (((cnt2 xs k : Nat) : Int)), .bool true], [], Out.two rfl rfl rfl, (Some'.weak (.nil _)), ?_⟩
        show _ = _; rw [hok, hknk]; rfl

set_option maxHeartbeats 1000000 in
set_option maxRecDepth 20000 in
theorem CountTwo_spec {N : Int} {va : Value} {n : Nat} {xs : List Int} {w : World} (ha : Sl w va 3 n (ints xs)) : Calls Try.prog 69 #[.agg #[.int .i64 N, va]] w (Post No w fun v _ => v = .tuple #[.int .i64 (if circOk N xs n = true then ((cnt2 xs n : Nat) : Int) else 0), .bool (circOk N xs n)]) := by
  refine enter (n := 8) (args := [.agg #[.int .i64 N, va]]) Try.func69 rfl rfl (St.empty _ _) ?_
  refine Run.seq ?_
  refine Run.region ?_
  refine Run.step rfl (OpStep.box (us := [.int .i64 N, va]) rfl fun b1 => ?_)
  refine Run.q (v := .int .i64 0) rfl (OpQ.y (OpY.pure rfl)) ?_
  refine Run.q (v := .bool false) rfl (OpQ.y (OpY.pure rfl)) ?_
  refine Run.done ?_
  refine Run.seq ?_
  refine Run.region ?_
  refine Run.q (v := .agg #[.int .i64 N, va]) rfl (OpQ.y (OpY.loadN (cs := [.int .i64 N, va]) Tagg_39 rfl (Cells.blk (.head _) ⟨rfl, rfl, trivial⟩))) ?_
  refine Run.q (v := .tuple #[.int .i64 (if circOk N xs n = true then ((cnt2 xs n : Nat) : Int) else 0), .bool (circOk N xs n)]) rfl (OpQ.call (vs := [.agg #[.int .i64 N, va], .func (.func 85) #[] #[]]) (caps := []) Tcall_84 rfl rfl (fun w hs => counted_spec (hs.sl ha))) ?_
  refine Run.q (v := .int .i64 (if circOk N xs n = true then ((cnt2 xs n : Nat) : Int) else 0)) rfl (OpQ.y (OpY.pure rfl)) ?_
  refine Run.q (v := .bool (circOk N xs n)) rfl (OpQ.y (OpY.pure rfl)) ?_
  refine Run.q (v := .int .i64 (if circOk N xs n = true then ((cnt2 xs n : Nat) : Int) else 0)) rfl (OpQ.y (OpY.pure rfl)) ?_
  refine Run.q (v := .bool (circOk N xs n)) rfl (OpQ.y (OpY.pure rfl)) ?_
  refine Run.done ?_
  refine Run.ret ?_
  refine ⟨.tuple #[.int .i64 (if circOk N xs n = true then ((cnt2 xs n : Nat) : Int) else 0), .bool (circOk N xs n)], [], Out.two rfl rfl rfl, (Some'.weak (.nil _)), ?_⟩
  rfl

set_option maxHeartbeats 1000000 in
set_option maxRecDepth 20000 in
theorem canSearch_spec {N Q : Int} {vg va : Value} {m n : Nat} {es xs : List Int} {w : World} (hg : Sl w vg 2 m (ints es)) (ha : Sl w va 3 n (ints xs)) : Calls Try.prog 44 #[.agg #[.int .i64 N, vg], .agg #[.int .i64 Q, va]] w (Post No w fun v _ => v = .bool (smB N es m Q xs n)) := by
  have hxl := ha.len
  have hn := ha.le
  obtain ⟨A, c, rfl, _, _⟩ := ha.form0
  refine enter (n := 33) (args := [.agg #[.int .i64 N, vg], .agg #[.int .i64 Q, .slice A n c]]) Try.func44 rfl rfl (St.empty _ _) ?_
  refine Run.seq ?_
  refine Run.region ?_
  refine Run.step rfl (OpStep.box (us := [.int .i64 N, vg]) rfl fun b1 => ?_)
  refine Run.step rfl (OpStep.box (us := [.int .i64 Q, .slice A n c]) rfl fun b2 => ?_)
  refine Run.q (v := .bool false) rfl (OpQ.y (OpY.pure rfl)) ?_
  refine Run.done ?_
  refine Run.seq ?_
  refine Run.region ?_
  refine Run.q (v := .agg #[.int .i64 Q, .slice A n c]) rfl (OpQ.y (OpY.loadN (cs := [.int .i64 Q, .slice A n c]) Tagg_39 rfl (Cells.blk (.head _) ⟨rfl, rfl, trivial⟩))) ?_
  refine Run.q (v := .tuple #[.int .i64 (if circOk Q xs n = true then ((cnt2 xs n : Nat) : Int) else 0), .bool (circOk Q xs n)]) rfl (OpQ.call (vs := [.agg #[.int .i64 Q, .slice A n c]]) (caps := []) Tcall_69 rfl rfl (fun w hs => CountTwo_spec (hs.sl ha))) ?_
  refine Run.q (v := .tuple #[.int .i64 (if circOk Q xs n = true then ((cnt2 xs n : Nat) : Int) else 0), .bool (circOk Q xs n)]) rfl (OpQ.y (OpY.pure rfl)) ?_
  refine Run.q (v := .int .i64 (if circOk Q xs n = true then ((cnt2 xs n : Nat) : Int) else 0)) rfl (OpQ.y (OpY.pure rfl)) ?_
  refine Run.q (v := .bool (circOk Q xs n)) rfl (OpQ.y (OpY.pure rfl)) ?_
  refine Run.q (v := .int .i64 (if circOk Q xs n = true then ((cnt2 xs n : Nat) : Int) else 0)) rfl (OpQ.y (OpY.pure rfl)) ?_
  refine Run.q (v := .bool (circOk Q xs n)) rfl (OpQ.y (OpY.pure rfl)) ?_
  refine Run.done ?_
  refine Run.seq ?_
  refine Run.region ?_
  refine Run.q (v := .bool (circOk Q xs n)) rfl (OpQ.y (OpY.pure rfl)) ?_
  rcases Bool.eq_false_or_eq_true (circOk Q xs n) with h13 | h13
  · refine Run.q (v := .bool true) rfl (OpQ.y (OpY.moveB rfl h13)) ?_
    have p13 := h13; try simp only [bs] at p13
    refine Run.q (v := .agg #[.int .i64 N, vg]) rfl (OpQ.y (OpY.loadN (cs := [.int .i64 N, vg]) Tagg_35 rfl (Cells.blk (.tail _ (List.Mem.head _)) ⟨rfl, rfl, trivial⟩))) ?_
    refine Run.q (v := .agg #[.int .i64 Q, .slice A n c]) rfl (OpQ.y (OpY.loadN (cs := [.int .i64 Q, .slice A n c]) Tagg_39 rfl (Cells.blk (.head _) ⟨rfl, rfl, trivial⟩))) ?_
    refine Run.q (v := .bool (fitOk N es m Q xs n)) rfl (OpQ.call (vs := [.agg #[.int .i64 N, vg], .agg #[.int .i64 Q, .slice A n c]]) (caps := []) Tcall_70 rfl rfl (fun w hs => canRoute_spec (hs.sl hg) (hs.sl ha))) ?_
    refine Run.q (v := .bool (fitOk N es m Q xs n)) rfl (OpQ.y (OpY.pure rfl)) ?_
    rcases Bool.eq_false_or_eq_true (fitOk N es m Q xs n) with h18 | h18
    · refine Run.q (v := .bool true) rfl (OpQ.y (OpY.moveB rfl h18)) ?_
      have p18 := h18; try simp only [bs] at p18
      refine Run.q (v := .pointer (some ⟨b1, 0, none⟩)) rfl (OpQ.y (OpY.fieldAddr Tfo_35_0 rfl rfl)) ?_
      refine Run.q (v := .int .i64 N) rfl (OpQ.y (OpY.load1 Tone_3 rfl (Cells.blk (.tail _ (List.Mem.head _)) ⟨rfl, trivial⟩))) ?_
      refine Run.q (v := .bool (decide (N ≤ 5))) rfl (OpQ.y (OpY.pure rfl)) ?_
      refine Run.q (v := .bool (decide (N ≤ 5))) rfl (OpQ.y (OpY.pure rfl)) ?_
      rcases Bool.eq_false_or_eq_true (decide (N ≤ 5)) with h23 | h23
      · refine Run.q (v := .bool true) rfl (OpQ.y (OpY.moveB rfl h23)) ?_
        have p23 := h23; try simp only [bs] at p23
        refine Run.q (v := .pointer (some ⟨b2, 1, none⟩)) rfl (OpQ.y (OpY.fieldAddr Tfo_39_1 rfl rfl)) ?_
        refine Run.q (v := .slice A n c) rfl (OpQ.y (OpY.load1 Tone_37 rfl (Cells.blk (.head _) ⟨rfl, trivial⟩))) ?_
        refine Run.q (v := .int .i64 (((n : Nat) : Int))) rfl (OpQ.y (OpY.len Tsl_37 rfl)) ?_
        refine Run.q (v := .bool (decide ((((n : Nat) : Int)) ≤ 40))) rfl (OpQ.y (OpY.pure rfl)) ?_
        refine Run.q (v := .bool (decide ((((n : Nat) : Int)) ≤ 40))) rfl (OpQ.y (OpY.pure rfl)) ?_
        rcases Bool.eq_false_or_eq_true (decide ((((n : Nat) : Int)) ≤ 40)) with h29 | h29
        · refine Run.q (v := .bool true) rfl (OpQ.y (OpY.moveB rfl h29)) ?_
          have p29 := h29; try simp only [bs] at p29
          refine Run.q (v := .int .i64 (if circOk Q xs n = true then ((cnt2 xs n : Nat) : Int) else 0)) rfl (OpQ.y (OpY.pure rfl)) ?_
          refine Run.q (v := .bool (decide ((if circOk Q xs n = true then ((cnt2 xs n : Nat) : Int) else 0) ≤ 12))) rfl (OpQ.y (OpY.pure rfl)) ?_
          refine Run.q (v := .bool (decide ((if circOk Q xs n = true then ((cnt2 xs n : Nat) : Int) else 0) ≤ 12))) rfl (OpQ.y (OpY.pure rfl)) ?_
          refine Run.q (v := .bool (decide ((if circOk Q xs n = true then ((cnt2 xs n : Nat) : Int) else 0) ≤ 12))) rfl (OpQ.y (OpY.pure rfl)) ?_
          refine Run.done ?_
          refine Run.ret ?_
          refine ⟨.bool (decide ((if circOk Q xs n = true then ((cnt2 xs n : Nat) : Int) else 0) ≤ 12)), [], Out.one rfl rfl, (Some'.weak (.nil _)), ?_⟩
          show Value.bool _ = Value.bool _
          unfold smB
          cases hf : fitOk N es m Q xs n with
          | false => simp_all
          | true => have hc := fit_circ hf; simp_all <;> (intros; omega)
        · refine Run.q (v := .bool false) rfl (OpQ.y (OpY.moveB rfl h29)) ?_
          have p29 := h29; try simp only [bs] at p29
          refine Run.pass rfl ?_
          refine Run.pass rfl ?_
          refine Run.q (v := .bool false) rfl (OpQ.y (OpY.pure rfl)) ?_
          refine Run.q (v := .bool false) rfl (OpQ.y (OpY.pure rfl)) ?_
          refine Run.done ?_
          refine Run.ret ?_
          refine ⟨.bool false, [], Out.one rfl rfl, (Some'.weak (.nil _)), ?_⟩
          show Value.bool _ = Value.bool _
          unfold smB
          cases hf : fitOk N es m Q xs n with
          | false => simp_all
          | true => have hc := fit_circ hf; simp_all <;> (intros; omega)
      · refine Run.q (v := .bool false) rfl (OpQ.y (OpY.moveB rfl h23)) ?_
        have p23 := h23; try simp only [bs] at p23
        refine Run.pass rfl ?_
        refine Run.pass rfl ?_
        refine Run.pass rfl ?_
        refine Run.pass rfl ?_
        refine Run.q (v := .bool false) rfl (OpQ.y (OpY.pure rfl)) ?_
        refine Run.q (v := .bool false) rfl (OpQ.y (OpY.pure rfl)) ?_
        refine Run.pass rfl ?_
        refine Run.pass rfl ?_
        refine Run.q (v := .bool false) rfl (OpQ.y (OpY.pure rfl)) ?_
        refine Run.q (v := .bool false) rfl (OpQ.y (OpY.pure rfl)) ?_
        refine Run.done ?_
        refine Run.ret ?_
        refine ⟨.bool false, [], Out.one rfl rfl, (Some'.weak (.nil _)), ?_⟩
        show Value.bool _ = Value.bool _
        unfold smB
        cases hf : fitOk N es m Q xs n with
        | false => simp_all
        | true => have hc := fit_circ hf; simp_all <;> (intros; omega)
    · refine Run.q (v := .bool false) rfl (OpQ.y (OpY.moveB rfl h18)) ?_
      have p18 := h18; try simp only [bs] at p18
      refine Run.pass rfl ?_
      refine Run.pass rfl ?_
      refine Run.pass rfl ?_
      refine Run.q (v := .bool false) rfl (OpQ.y (OpY.pure rfl)) ?_
      refine Run.q (v := .bool false) rfl (OpQ.y (OpY.pure rfl)) ?_
      refine Run.pass rfl ?_
      refine Run.pass rfl ?_
      refine Run.pass rfl ?_
      refine Run.pass rfl ?_
      refine Run.q (v := .bool false) rfl (OpQ.y (OpY.pure rfl)) ?_
      refine Run.q (v := .bool false) rfl (OpQ.y (OpY.pure rfl)) ?_
      refine Run.pass rfl ?_
      refine Run.pass rfl ?_
      refine Run.q (v := .bool false) rfl (OpQ.y (OpY.pure rfl)) ?_
      refine Run.q (v := .bool false) rfl (OpQ.y (OpY.pure rfl)) ?_
      refine Run.done ?_
      refine Run.ret ?_
      refine ⟨.bool false, [], Out.one rfl rfl, (Some'.weak (.nil _)), ?_⟩
      show Value.bool _ = Value.bool _
      unfold smB
      cases hf : fitOk N es m Q xs n with
      | false => simp_all
      | true => have hc := fit_circ hf; simp_all <;> (intros; omega)
  · refine Run.q (v := .bool false) rfl (OpQ.y (OpY.moveB rfl h13)) ?_
    have p13 := h13; try simp only [bs] at p13
    refine Run.pass rfl ?_
    refine Run.pass rfl ?_
    refine Run.pass rfl ?_
    refine Run.q (v := .bool false) rfl (OpQ.y (OpY.pure rfl)) ?_
    refine Run.q (v := .bool false) rfl (OpQ.y (OpY.pure rfl)) ?_
    refine Run.pass rfl ?_
    refine Run.pass rfl ?_
    refine Run.pass rfl ?_
    refine Run.q (v := .bool false) rfl (OpQ.y (OpY.pure rfl)) ?_
    refine Run.q (v := .bool false) rfl (OpQ.y (OpY.pure rfl)) ?_
    refine Run.pass rfl ?_
    refine Run.pass rfl ?_
    refine Run.pass rfl ?_
    refine Run.pass rfl ?_
    refine Run.q (v := .bool false) rfl (OpQ.y (OpY.pure rfl)) ?_
    refine Run.q (v := .bool false) rfl (OpQ.y (OpY.pure rfl)) ?_
    refine Run.pass rfl ?_
    refine Run.pass rfl ?_
    refine Run.q (v := .bool false) rfl (OpQ.y (OpY.pure rfl)) ?_
    refine Run.q (v := .bool false) rfl (OpQ.y (OpY.pure rfl)) ?_
    refine Run.done ?_
    refine Run.ret ?_
    refine ⟨.bool false, [], Out.one rfl rfl, (Some'.weak (.nil _)), ?_⟩
    show Value.bool _ = Value.bool _
    unfold smB
    cases hf : fitOk N es m Q xs n with
    | false => simp_all
    | true => have hc := fit_circ hf; simp_all <;> (intros; omega)

set_option maxHeartbeats 1000000 in
set_option maxRecDepth 20000 in
theorem l23Small_spec {N Q : Int} {vg va : Value} {m n : Nat} {es xs : List Int} {w : World} (hN : In64 N) (hw : ∀ x ∈ es, In64 x) (hg : Sl w vg 2 m (ints es)) (ha : Sl w va 3 n (ints xs)) : Calls Try.prog 34 #[.agg #[.int .i64 N, vg], .agg #[.int .i64 Q, va]] w (Post No w fun v _ => v = .bool (smB N es m Q xs n)) := by
  have hxl := ha.len
  have hn := ha.le
  obtain ⟨A, c, rfl, _, _⟩ := ha.form0
  refine enter (n := 38) (args := [.agg #[.int .i64 N, vg], .agg #[.int .i64 Q, .slice A n c]]) Try.func34 rfl rfl (St.empty _ _) ?_
  refine Run.seq ?_
  refine Run.region ?_
  refine Run.step rfl (OpStep.box (us := [.int .i64 N, vg]) rfl fun b1 => ?_)
  refine Run.step rfl (OpStep.box (us := [.int .i64 Q, .slice A n c]) rfl fun b2 => ?_)
  refine Run.q (v := .bool false) rfl (OpQ.y (OpY.pure rfl)) ?_
  refine Run.done ?_
  refine Run.seq ?_
  refine Run.region ?_
  refine Run.q (v := .int .i64 0) rfl (OpQ.y (OpY.pure rfl)) ?_
  refine Run.done ?_
  refine Run.seq ?_
  refine Run.seq ?_
  refine Run.region ?_
  refine Run.q (v := .pointer (some ⟨b2, 1, none⟩)) rfl (OpQ.y (OpY.fieldAddr Tfo_39_1 rfl rfl)) ?_
  refine Run.q (v := .slice A n c) rfl (OpQ.y (OpY.load1 Tone_37 rfl (Cells.blk (.head _) ⟨rfl, trivial⟩))) ?_
  refine Run.q (v := .int .i64 (((n : Nat) : Int))) rfl (OpQ.y (OpY.len Tsl_37 rfl)) ?_
  refine Run.q (v := .int .i64 0) rfl (OpQ.y (OpY.pure rfl)) ?_
  refine Run.done ?_
  refine Run.block ?_
  refine Run.loop (ι := Nat) [5, 7, 11, 12, 13, 14, 15, 16, 17, 18, 19] (fun k => [(5, .int .i64 (((cnt2 xs k : Nat) : Int))), (11, .int .i64 (((k : Nat) : Int)))]) (fun k => [.blk b2 39 [.int .i64 Q, .slice A n c], .blk b1 35 [.int .i64 N, vg]]) (fun k => k ≤ n ∧ (True)) (fun k => n - k) 0 ?_ ?_ ?_ ?_
  · exact ⟨Nat.zero_le _, by first | trivial | (intro i hi; omega)⟩
  · exact ⟨rfl, rfl, trivial⟩
  · exact (Some'.weak (.take (.take (.nil _))))
  · rintro k fr hinv
    show Run _ _ (over _ _ [(5, .int .i64 (((cnt2 xs k : Nat) : Int))), (11, .int .i64 (((k : Nat) : Int)))] fr) [.blk b2 39 [.int .i64 Q, .slice A n c], .blk b1 35 [.int .i64 N, vg]]
    try dsimp only at hinv
    refine Run.seq ?_
    refine Run.region ?_
    refine Run.q (v := .bool (decide ((((k : Nat) : Int)) < (((n : Nat) : Int))))) rfl (OpQ.y (OpY.pure rfl)) ?_
    refine Run.done ?_
    refine Run.seq ?_
    refine Run.cond (b := decide ((((k : Nat) : Int)) < (((n : Nat) : Int)))) rfl (fun h12 => ?_) (fun h12 => ?_)
    · have p12 := h12; try simp only [bs] at p12
      have hltk : k < n := by omega
      obtain ⟨b, o, rfl⟩ := ha.opn (by omega)
      have hcl := cnt2_le xs k
      refine Run.skip ?_
      refine Run.seq ?_
      refine Run.block ?_
      refine Run.seq ?_
      refine Run.region ?_
      refine Run.q (v := .pointer (some ⟨b, o + k * 3, none⟩)) rfl (OpQ.y (OpY.index (kk := k) Tsl_37 rfl rfl (by omega) (by omega) (by first | rfl | omega))) ?_
      refine Run.q (v := .agg #[.int .i64 (ix xs (k * 3)), .int .i64 (ix xs (k * 3 + 1)), .int .i64 (ix xs (k * 3 + 2))]) rfl (OpQ.y (OpY.loadN (cs := [.int .i64 (ix xs (k * 3)), .int .i64 (ix xs (k * 3 + 1)), .int .i64 (ix xs (k * 3 + 2))]) Tagg_81 rfl (Cells.arg (k := k * 3) ha rfl (by omega) (pre3 (by omega))))) ?_
      refine Run.step rfl (OpStep.alloc (zs := [.int .i64 0, .int .i64 0, .int .i64 0]) Tzero_81 fun b3 => ?_)
      refine Run.step rfl (OpStep.storeAll (us := [.int .i64 (ix xs (k * 3)), .int .i64 (ix xs (k * 3 + 1)), .int .i64 (ix xs (k * 3 + 2))]) Tsize_81 rfl rfl rfl (.here _) rfl ?_)
      refine Run.done ?_
      refine Run.seq ?_
      refine Run.region ?_
      refine Run.q (v := .agg #[.int .i64 (ix xs (k * 3)), .int .i64 (ix xs (k * 3 + 1)), .int .i64 (ix xs (k * 3 + 2))]) rfl (OpQ.y (OpY.loadN (cs := [.int .i64 (ix xs (k * 3)), .int .i64 (ix xs (k * 3 + 1)), .int .i64 (ix xs (k * 3 + 2))]) Tagg_81 rfl (Cells.blk (.head _) ⟨rfl, rfl, rfl, trivial⟩))) ?_
      refine Run.q (v := .bool (decide (9 ≤ ix xs (k * 3) ∧ ix xs (k * 3) ≤ 11))) rfl (OpQ.call (vs := [.agg #[.int .i64 (ix xs (k * 3)), .int .i64 (ix xs (k * 3 + 1)), .int .i64 (ix xs (k * 3 + 2))]]) (caps := []) Tcall_59 rfl rfl (fun w hs => l22Two_spec _ _ _ w)) ?_
      refine Run.done ?_
      refine Run.cond (b := decide (9 ≤ ix xs (k * 3) ∧ ix xs (k * 3) ≤ 11)) rfl (fun h16 => ?_) (fun h16 => ?_)
      · have p16 := h16; try simp only [bs] at p16
        have hnx : cnt2 xs (k + 1) = cnt2 xs k + 1 := by rw [cnt2, if_pos (by unfold isTwoI; exact h16)]
        refine Run.region ?_
        refine Run.q (v := .int .i64 (((cnt2 xs k : Nat) : Int))) rfl (OpQ.y (OpY.pure rfl)) ?_
        refine Run.q (v := .int .i64 ((((cnt2 xs k : Nat) : Int)) + 1)) rfl (OpQ.y (OpY.add rfl rfl rfl (by omega) (by omega))) ?_
        refine Run.q (v := .int .i64 ((((cnt2 xs k : Nat) : Int)) + 1)) rfl (OpQ.y (OpY.pure rfl)) ?_
        refine Run.done ?_
        refine Run.blockEnd ?_
        refine Run.region ?_
        refine Run.q (v := .int .i64 ((((k : Nat) : Int)) + 1)) rfl (OpQ.y (OpY.add rfl rfl rfl (by omega) (by omega))) ?_
        refine Run.q (v := .int .i64 ((((k : Nat) : Int)) + 1)) rfl (OpQ.y (OpY.pure rfl)) ?_
        refine Run.done ?_
        refine Run.goal ⟨(by repeat (first | exact Same.refl _ _ | refine Same.put rfl ?_ | refine Same.over rfl rfl ?_)), k + 1, ?_, ?_, ?_, ?_⟩
        · refine ⟨by omega, ?_⟩
          trivial
        · omega
        · exact ⟨(by show Value.int _ _ = Value.int _ _; rw [hnx] <;> first | done | rfl | (congr 1)), (by first | rfl | (congr 1; omega) | simp), trivial⟩
        · exact (Some'.weak (.skip (.takeEq (by first | rfl | simp) (.take (.nil _)))))
      · have p16 := h16; try simp only [bs] at p16
        have hnx : cnt2 xs (k + 1) = cnt2 xs k := by rw [cnt2, if_neg (by unfold isTwoI; rw [h16]; decide)]
        refine Run.skip ?_
        refine Run.blockEnd ?_
        refine Run.region ?_
        refine Run.q (v := .int .i64 ((((k : Nat) : Int)) + 1)) rfl (OpQ.y (OpY.add rfl rfl rfl (by omega) (by omega))) ?_
        refine Run.q (v := .int .i64 ((((k : Nat) : Int)) + 1)) rfl (OpQ.y (OpY.pure rfl)) ?_
        refine Run.done ?_
        refine Run.goal ⟨(by repeat (first | exact Same.refl _ _ | refine Same.put rfl ?_ | refine Same.over rfl rfl ?_)), k + 1, ?_, ?_, ?_, ?_⟩
        · refine ⟨by omega, ?_⟩
          trivial
        · omega
        · exact ⟨(by show Value.int _ _ = Value.int _ _; rw [hnx] <;> first | done | rfl | (congr 1)), (by first | rfl | (congr 1; omega) | simp), trivial⟩
        · exact (Some'.weak (.skip (.takeEq (by first | rfl | simp) (.take (.nil _)))))
    · have p12 := h12; try simp only [bs] at p12
      have hknk : k = n := by omega
      refine Run.exit rfl ?_
      refine Run.seq ?_
      refine Run.region ?_
      refine Run.q (v := .agg #[.int .i64 N, vg]) rfl (OpQ.y (OpY.loadN (cs := [.int .i64 N, vg]) Tagg_35 rfl (Cells.blk (.tail _ (List.Mem.head _)) ⟨rfl, rfl, trivial⟩))) ?_
      refine Run.q (v := .agg #[.int .i64 Q, .slice A n c]) rfl (OpQ.y (OpY.loadN (cs := [.int .i64 Q, .slice A n c]) Tagg_39 rfl (Cells.blk (.head _) ⟨rfl, rfl, trivial⟩))) ?_
      refine Run.q (v := .bool (fitOk N es m Q xs n)) rfl (OpQ.call (vs := [.agg #[.int .i64 N, vg], .agg #[.int .i64 Q, .slice A n c]]) (caps := []) Tcall_60 rfl rfl (fun w hs => l23Fits_spec hN hw (hs.sl hg) (hs.sl ha))) ?_
      rcases Bool.eq_false_or_eq_true (fitOk N es m Q xs n) with h23 | h23
      · refine Run.q (v := .bool true) rfl (OpQ.y (OpY.moveB rfl h23)) ?_
        have p23 := h23; try simp only [bs] at p23
        refine Run.q (v := .pointer (some ⟨b1, 0, none⟩)) rfl (OpQ.y (OpY.fieldAddr Tfo_35_0 rfl rfl)) ?_
        refine Run.q (v := .int .i64 N) rfl (OpQ.y (OpY.load1 Tone_3 rfl (Cells.blk (.tail _ (List.Mem.head _)) ⟨rfl, trivial⟩))) ?_
        refine Run.q (v := .bool (decide (N ≤ 5))) rfl (OpQ.y (OpY.pure rfl)) ?_
        refine Run.q (v := .bool (decide (N ≤ 5))) rfl (OpQ.y (OpY.pure rfl)) ?_
        rcases Bool.eq_false_or_eq_true (decide (N ≤ 5)) with h28 | h28
        · refine Run.q (v := .bool true) rfl (OpQ.y (OpY.moveB rfl h28)) ?_
          have p28 := h28; try simp only [bs] at p28
          refine Run.q (v := .pointer (some ⟨b2, 1, none⟩)) rfl (OpQ.y (OpY.fieldAddr Tfo_39_1 rfl rfl)) ?_
          refine Run.q (v := .slice A n c) rfl (OpQ.y (OpY.load1 Tone_37 rfl (Cells.blk (.head _) ⟨rfl, trivial⟩))) ?_
          refine Run.q (v := .int .i64 (((n : Nat) : Int))) rfl (OpQ.y (OpY.len Tsl_37 rfl)) ?_
          refine Run.q (v := .bool (decide ((((n : Nat) : Int)) ≤ 40))) rfl (OpQ.y (OpY.pure rfl)) ?_
          refine Run.q (v := .bool (decide ((((n : Nat) : Int)) ≤ 40))) rfl (OpQ.y (OpY.pure rfl)) ?_
          rcases Bool.eq_false_or_eq_true (decide ((((n : Nat) : Int)) ≤ 40)) with h34 | h34
          · refine Run.q (v := .bool true) rfl (OpQ.y (OpY.moveB rfl h34)) ?_
            have p34 := h34; try simp only [bs] at p34
            refine Run.q (v := .int .i64 (((cnt2 xs k : Nat) : Int))) rfl (OpQ.y (OpY.pure rfl)) ?_
            refine Run.q (v := .bool (decide ((((cnt2 xs k : Nat) : Int)) ≤ 12))) rfl (OpQ.y (OpY.pure rfl)) ?_
            refine Run.q (v := .bool (decide ((((cnt2 xs k : Nat) : Int)) ≤ 12))) rfl (OpQ.y (OpY.pure rfl)) ?_
            refine Run.q (v := .bool (decide ((((cnt2 xs k : Nat) : Int)) ≤ 12))) rfl (OpQ.y (OpY.pure rfl)) ?_
            refine Run.done ?_
            refine Run.ret ?_
            refine ⟨.bool (decide ((((cnt2 xs k : Nat) : Int)) ≤ 12)), [], Out.one rfl rfl, (Some'.weak (.nil _)), ?_⟩
            show Value.bool _ = Value.bool _
            unfold smB
            cases hf : fitOk N es m Q xs n with
            | false => simp_all
            | true => simp_all <;> (intros; omega)
          · refine Run.q (v := .bool false) rfl (OpQ.y (OpY.moveB rfl h34)) ?_
            have p34 := h34; try simp only [bs] at p34
            refine Run.pass rfl ?_
            refine Run.pass rfl ?_
            refine Run.q (v := .bool false) rfl (OpQ.y (OpY.pure rfl)) ?_
            refine Run.q (v := .bool false) rfl (OpQ.y (OpY.pure rfl)) ?_
            refine Run.done ?_
            refine Run.ret ?_
            refine ⟨.bool false, [], Out.one rfl rfl, (Some'.weak (.nil _)), ?_⟩
            show Value.bool _ = Value.bool _
            unfold smB
            cases hf : fitOk N es m Q xs n with
            | false => simp_all
            | true => simp_all <;> (intros; omega)
        · refine Run.q (v := .bool false) rfl (OpQ.y (OpY.moveB rfl h28)) ?_
          have p28 := h28; try simp only [bs] at p28
          refine Run.pass rfl ?_
          refine Run.pass rfl ?_
          refine Run.pass rfl ?_
          refine Run.pass rfl ?_
          refine Run.q (v := .bool false) rfl (OpQ.y (OpY.pure rfl)) ?_
          refine Run.q (v := .bool false) rfl (OpQ.y (OpY.pure rfl)) ?_
          refine Run.pass rfl ?_
          refine Run.pass rfl ?_
          refine Run.q (v := .bool false) rfl (OpQ.y (OpY.pure rfl)) ?_
          refine Run.q (v := .bool false) rfl (OpQ.y (OpY.pure rfl)) ?_
          refine Run.done ?_
          refine Run.ret ?_
          refine ⟨.bool false, [], Out.one rfl rfl, (Some'.weak (.nil _)), ?_⟩
          show Value.bool _ = Value.bool _
          unfold smB
          cases hf : fitOk N es m Q xs n with
          | false => simp_all
          | true => simp_all <;> (intros; omega)
      · refine Run.q (v := .bool false) rfl (OpQ.y (OpY.moveB rfl h23)) ?_
        have p23 := h23; try simp only [bs] at p23
        refine Run.pass rfl ?_
        refine Run.pass rfl ?_
        refine Run.pass rfl ?_
        refine Run.q (v := .bool false) rfl (OpQ.y (OpY.pure rfl)) ?_
        refine Run.q (v := .bool false) rfl (OpQ.y (OpY.pure rfl)) ?_
        refine Run.pass rfl ?_
        refine Run.pass rfl ?_
        refine Run.pass rfl ?_
        refine Run.pass rfl ?_
        refine Run.q (v := .bool false) rfl (OpQ.y (OpY.pure rfl)) ?_
        refine Run.q (v := .bool false) rfl (OpQ.y (OpY.pure rfl)) ?_
        refine Run.pass rfl ?_
        refine Run.pass rfl ?_
        refine Run.q (v := .bool false) rfl (OpQ.y (OpY.pure rfl)) ?_
        refine Run.q (v := .bool false) rfl (OpQ.y (OpY.pure rfl)) ?_
        refine Run.done ?_
        refine Run.ret ?_
        refine ⟨.bool false, [], Out.one rfl rfl, (Some'.weak (.nil _)), ?_⟩
        show Value.bool _ = Value.bool _
        unfold smB
        cases hf : fitOk N es m Q xs n with
        | false => simp_all
        | true => simp_all <;> (intros; omega)

set_option maxHeartbeats 1000000 in
set_option maxRecDepth 20000 in
theorem swapsIn_spec {vb va : Value} {n : Nat} {xs : List Int} {w : World} (ha : Sl w va 3 n (ints xs)) : Calls Try.prog 31 #[.agg #[vb, va]] w (Post No w fun v _ => v = .int .i64 ((swN xs n : Nat) : Int)) := by
  have hxl := ha.len
  have hn := ha.le
  obtain ⟨A, c, rfl, _, _⟩ := ha.form0
  refine enter (n := 21) (args := [.agg #[vb, .slice A n c]]) Try.func31 rfl rfl (St.empty _ _) ?_
  refine Run.seq ?_
  refine Run.region ?_
  refine Run.step rfl (OpStep.box (us := [vb, .slice A n c]) rfl fun b1 => ?_)
  refine Run.q (v := .int .i64 0) rfl (OpQ.y (OpY.pure rfl)) ?_
  refine Run.done ?_
  refine Run.seq ?_
  refine Run.region ?_
  refine Run.q (v := .int .i64 0) rfl (OpQ.y (OpY.pure rfl)) ?_
  refine Run.done ?_
  refine Run.seq ?_
  refine Run.seq ?_
  refine Run.region ?_
  refine Run.q (v := .pointer (some ⟨b1, 1, none⟩)) rfl (OpQ.y (OpY.fieldAddr Tfo_48_1 rfl rfl)) ?_
  refine Run.q (v := .slice A n c) rfl (OpQ.y (OpY.load1 Tone_46 rfl (Cells.blk (.head _) ⟨rfl, trivial⟩))) ?_
  refine Run.q (v := .int .i64 (((n : Nat) : Int))) rfl (OpQ.y (OpY.len Tsl_46 rfl)) ?_
  refine Run.q (v := .int .i64 0) rfl (OpQ.y (OpY.pure rfl)) ?_
  refine Run.done ?_
  refine Run.block ?_
  refine Run.loop (ι := Nat) [3, 5, 9, 10, 11, 12, 13, 14, 15, 16, 17, 18, 19] (fun k => [(3, .int .i64 (((swN xs k : Nat) : Int))), (9, .int .i64 (((k : Nat) : Int)))]) (fun k => [.blk b1 48 [vb, .slice A n c]]) (fun k => k ≤ n ∧ (True)) (fun k => n - k) 0 ?_ ?_ ?_ ?_
  · exact ⟨Nat.zero_le _, by first | trivial | (intro i hi; omega)⟩
  · exact ⟨rfl, rfl, trivial⟩
  · exact (Some'.weak (.take (.nil _)))
  · rintro k fr hinv
    show Run _ _ (over _ _ [(3, .int .i64 (((swN xs k : Nat) : Int))), (9, .int .i64 (((k : Nat) : Int)))] fr) [.blk b1 48 [vb, .slice A n c]]
    try dsimp only at hinv
    refine Run.seq ?_
    refine Run.region ?_
    refine Run.q (v := .bool (decide ((((k : Nat) : Int)) < (((n : Nat) : Int))))) rfl (OpQ.y (OpY.pure rfl)) ?_
    refine Run.done ?_
    refine Run.seq ?_
    refine Run.cond (b := decide ((((k : Nat) : Int)) < (((n : Nat) : Int)))) rfl (fun h10 => ?_) (fun h10 => ?_)
    · have p10 := h10; try simp only [bs] at p10
      have hltk : k < n := by omega
      obtain ⟨b, o, rfl⟩ := ha.opn (by omega)
      have hcl := swN_le xs k
      refine Run.skip ?_
      refine Run.seq ?_
      refine Run.block ?_
      refine Run.seq ?_
      refine Run.region ?_
      refine Run.q (v := .pointer (some ⟨b, o + k * 3, none⟩)) rfl (OpQ.y (OpY.index (kk := k) Tsl_46 rfl rfl (by omega) (by omega) (by first | rfl | omega))) ?_
      refine Run.q (v := .agg #[.int .i64 (ix xs (k * 3)), .int .i64 (ix xs (k * 3 + 1)), .int .i64 (ix xs (k * 3 + 2))]) rfl (OpQ.y (OpY.loadN (cs := [.int .i64 (ix xs (k * 3)), .int .i64 (ix xs (k * 3 + 1)), .int .i64 (ix xs (k * 3 + 2))]) Tagg_101 rfl (Cells.arg (k := k * 3) ha rfl (by omega) (pre3 (by omega))))) ?_
      refine Run.step rfl (OpStep.alloc (zs := [.int .i64 0, .int .i64 0, .int .i64 0]) Tzero_101 fun b2 => ?_)
      refine Run.step rfl (OpStep.storeAll (us := [.int .i64 (ix xs (k * 3)), .int .i64 (ix xs (k * 3 + 1)), .int .i64 (ix xs (k * 3 + 2))]) Tsize_101 rfl rfl rfl (.here _) rfl ?_)
      refine Run.done ?_
      refine Run.region ?_
      refine Run.q (v := .int .i64 (((swN xs k : Nat) : Int))) rfl (OpQ.y (OpY.pure rfl)) ?_
      refine Run.q (v := .pointer (some ⟨b2, 0, none⟩)) rfl (OpQ.y (OpY.fieldAddr Tfo_101_0 rfl rfl)) ?_
      refine Run.q (v := .int .i64 (ix xs (k * 3))) rfl (OpQ.y (OpY.load1 Tone_3 rfl (Cells.blk (.head _) ⟨rfl, trivial⟩))) ?_
      refine Run.q (v := .bool ((ix xs (k * 3)) == (-1))) rfl (OpQ.y (OpY.pure rfl)) ?_
      refine Run.q (v := .int .i64 (if (ix xs (k * 3)) == (-1) then 1 else 0)) rfl (OpQ.call (vs := [.bool ((ix xs (k * 3)) == (-1))]) (caps := []) Tcall_56 rfl rfl (fun w hs => small_spec _ w)) ?_
      refine Run.q (v := .int .i64 ((((swN xs k : Nat) : Int)) + (if (ix xs (k * 3)) == (-1) then 1 else 0))) rfl (OpQ.y (OpY.add rfl rfl rfl (by omega) (by omega))) ?_
      refine Run.q (v := .int .i64 ((((swN xs k : Nat) : Int)) + (if (ix xs (k * 3)) == (-1) then 1 else 0))) rfl (OpQ.y (OpY.pure rfl)) ?_
      refine Run.done ?_
      refine Run.blockEnd ?_
      refine Run.region ?_
      refine Run.q (v := .int .i64 ((((k : Nat) : Int)) + 1)) rfl (OpQ.y (OpY.add rfl rfl rfl (by omega) (by omega))) ?_
      refine Run.q (v := .int .i64 ((((k : Nat) : Int)) + 1)) rfl (OpQ.y (OpY.pure rfl)) ?_
      refine Run.done ?_
      refine Run.goal ⟨(by repeat (first | exact Same.refl _ _ | refine Same.put rfl ?_ | refine Same.over rfl rfl ?_)), k + 1, ?_, ?_, ?_, ?_⟩
      · refine ⟨by omega, ?_⟩
        trivial
      · omega
      · exact ⟨(by show Value.int _ _ = Value.int _ _; rw [swN]; split <;> first | (simp_all; done) | (simp_all; congr 1)), (by first | rfl | (congr 1; omega) | simp), trivial⟩
      · exact (Some'.weak (.skip (.takeEq (by first | rfl | simp) (.nil _))))
    · have p10 := h10; try simp only [bs] at p10
      have hknk : k = n := by omega
      refine Run.exit rfl ?_
      refine Run.seq ?_
      refine Run.region ?_
      refine Run.q (v := .int .i64 (((swN xs k : Nat) : Int))) rfl (OpQ.y (OpY.pure rfl)) ?_
      refine Run.q (v := .int .i64 (((swN xs k : Nat) : Int))) rfl (OpQ.y (OpY.pure rfl)) ?_
      refine Run.done ?_
      refine Run.ret ?_
      refine ⟨.int .i64 (((swN xs k : Nat) : Int)), [], Out.one rfl rfl, (Some'.weak (.nil _)), ?_⟩
      show _ = _; rw [hknk]

end Go.Proofs.Ytekikmdjldincaa
