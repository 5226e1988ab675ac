/- Walks: lists of numbers in circuit texts; strings cut into pieces. -/
import Derived.Test.YtgpkpopbajkklaaGreatDoorV3
import Derived.Test.YtgpkpopbajkklaaGreatDoorProg
set_option linter.unusedSimpArgs false
set_option linter.unusedVariables false
namespace Go.Proofs.YtgpkpopbajkklaaGreatDoor
open Go Go.RowKit
namespace TxcT
theorem Tcall_119 : callable Tryz.prog 119 = true := by kernel_rfl
theorem Tcall_62 : callable Tryz.prog 62 = true := by kernel_rfl
theorem Tcall_68 : callable Tryz.prog 68 = true := by kernel_rfl
theorem Tint_3 : Tryz.prog.underlying 3 = some (.int .i64) := by kernel_rfl
theorem Tone_9 : oneOf Tryz.prog 9 = true := by kernel_rfl
theorem Tsl_40 : sliceOf Tryz.prog 40 = some (9, 1, 16, [sv ([])]) := by kernel_rfl
theorem Tsl_75 : sliceOf Tryz.prog 75 = some (3, 1, 8, [.int .i64 0]) := by kernel_rfl
theorem Tsome_5 : (Tryz.prog.underlying 5).isSome = true := by kernel_rfl
theorem Tstr_9 : strT Tryz.prog 9 = true := by kernel_rfl
end TxcT
open TxcT
/-- All are numbers of one or two digits. -/
def allNum (L : List Bs) : Bool := allI (fun i => decide (0 ≤ num2 (stx L i))) L.length
/-- The numbers, if all are. -/
def nums (L : List Bs) : List Int := if allNum L then L.map num2 else []
theorem nums_snoc {L : List Bs} {k : Nat} (hk : k < L.length) : (L.take k).map num2 ++ [num2 (stx L k)] = (L.take (k + 1)).map num2 := by
  have e : L.take (k + 1) = L.take k ++ [L[k]] := (List.take_append_getElem hk).symm
  rw [e, List.map_append]
  simp [stx, List.getD, hk]
theorem within_neg {x lo hi : Int} (h : ¬ 0 ≤ x) (hlo : 0 ≤ lo) : within x lo hi = false := by
  unfold within; rw [Bool.and_eq_false_iff, decide_eq_false_iff_not]; omega
theorem stx_len {L : List Bs} {m : Nat} (h : ∀ s ∈ L, s.length ≤ m) (i : Nat) : (stx L i).length ≤ m := by
  by_cases hi : i < L.length
  · have : stx L i = L[i] := by simp [stx, List.getD, hi]
    rw [this]; exact h _ (List.getElem_mem hi)
  · simp [stx, List.getD, List.getElem?_eq_none (Nat.not_lt.1 hi)]
theorem Sl.lenS {w : World} {v : Value} {n : Nat} {L : List Bs} (h : Sl w v 1 n (strs L)) : L.length = n := by simpa using h.1

set_option maxHeartbeats 1000000 in
set_option maxRecDepth 20000 in
theorem numberIn_spec {l : Bs} {lo hi : Int} {w : World} (hg : Gl w) (hl : l.length ≤ 281474976710656) (hlo : 0 ≤ lo) : Calls Tryz.prog 104 #[sv l, .int .i64 lo, .int .i64 hi] w (Post No w fun v H => ∃ n, v = .tuple #[.int .i64 n, .bool (within (num2 l) lo hi)] ∧ (within (num2 l) lo hi = true → n = num2 l) ∧ H = []) := by
 refine enter (n := 23) (args := [sv l, .int .i64 lo, .int .i64 hi]) Tryz.func104 rfl rfl (St.empty _ _) ?_
 refine .sr ?_
 iterate 2 refine .m ?_
 refine .dsr ?_
 refine .w (sv l) ?_
 refine .step rfl (.c [sv l] Tcall_119 (fun w hs => textNumber_spec (hg.go hs) hl) ?_)
 rintro _ _ ⟨n1, rfl, hn1, rfl⟩
 show Run _ _ (putF _ _ _ (.tuple #[.int .i64 n1, .bool (decide (0 ≤ num2 l))])) []
 refine .w (.tuple #[.int .i64 n1, .bool (decide (0 ≤ num2 l))]) ?_
 refine .w (.int .i64 n1) ?_
 refine .w (.bool (decide (0 ≤ num2 l))) ?_
 iterate 2 refine .m ?_
 refine .dsr ?_
 iterate 2 refine .m ?_
 rcases Bool.eq_false_or_eq_true (decide (0 ≤ num2 l)) with h17 | h17
 ·refine .mb h17 ?_
  have p17 := h17; try simp only [bs] at p17
  iterate 3 refine .m ?_
  refine .c (.bool (within n1 lo hi)) [.int .i64 n1, .int .i64 lo, .int .i64 hi] Tcall_62 (fun w hs => within_spec _ _ _ w) ?_
  refine .w (.bool (within n1 lo hi)) ?_
  iterate 2 refine .m ?_
  refine .done ?_
  refine .ret ?_
  refine ⟨.tuple #[.int .i64 n1, .bool (within n1 lo hi)], [], Out.two rfl rfl rfl, (Some'.weak (.nil _)), ?_⟩
  refine ⟨n1, ?_, ?_, rfl⟩
  ·show _ = _
   first | rw [hn1 (of_decide_eq_true h17)] | rw [within_neg (of_decide_eq_false h17) hlo]
  ·intro h; rw [within_iff] at h; exact hn1 (by omega)
 refine .mb h17 ?_
 have p17 := h17; try simp only [bs] at p17
 iterate 4 refine .pass rfl ?_
 refine .w (.bool false) ?_
 iterate 2 refine .m ?_
 refine .done ?_
 refine .ret ?_
 refine ⟨.tuple #[.int .i64 n1, .bool false], [], Out.two rfl rfl rfl, (Some'.weak (.nil _)), ?_⟩
 refine ⟨n1, ?_, ?_, rfl⟩
 ·show _ = _
  first | rw [hn1 (of_decide_eq_true h17)] | rw [within_neg (of_decide_eq_false h17) hlo]
 ·intro h; rw [within_iff] at h; exact hn1 (by omega)

set_option maxHeartbeats 1000000 in
set_option maxRecDepth 20000 in
theorem textNumbers_spec {va : Value} {n : Nat} {L : List Bs} {w : World} (hg : Gl w) (ha : Sl w va 1 n (strs L)) (hL : ∀ s ∈ L, s.length ≤ 281474976710656) (hn16 : n ≤ 16777216) : Calls Tryz.prog 106 #[va] w (Post No w fun v H => ∃ v1, v = .tuple #[v1, .bool (allNum L)] ∧ H = [.own v1 3 1 (nums L).length (ints (nums L))]) := by
 have hLn := ha.lenS
 have hn := ha.le
 obtain ⟨A, c, rfl, _, _⟩ := ha.form0
 refine enter (n := 29) (args := [.slice A n c]) Tryz.func106 rfl rfl (St.empty _ _) ?_
 refine .sr ?_
 iterate 2 refine .m ?_
 refine .dsr ?_
 refine .step rfl (.buildSlice (us := []) Tsl_75 (by decide) (by decide) rfl rfl fun b1 => ?_)
 refine .m ?_
 refine .done ?_
 refine .seq ?_
 refine .sr ?_
 refine .m ?_
 refine .u (.int .i64 (((n : Nat) : Int))) (.len Tsl_40 rfl) ?_
 refine .m ?_
 refine .done ?_
 refine .block ?_
 refine Run.loop (ι := Nat × Value) [2, 3, 4, 6, 7, 8, 12, 13, 14, 15, 16, 17, 18, 19, 20, 21, 22, 23, 24, 25, 26, 27] (fun ⟨k, vo⟩ => [(4, vo), (12, .int .i64 (((k : Nat) : Int)))]) (fun ⟨k, vo⟩ => [.own vo 3 1 k (ints ((L.take k).map num2))]) (fun ⟨k, vo⟩ => k ≤ n ∧ ∀ i, i < k → decide (0 ≤ num2 (stx L i)) = true) (fun ⟨k, vo⟩ => n - k) (0, .slice (some ⟨b1, 0, none⟩) 0 0) ?_ ?_ ?_ ?_
 ·exact ⟨Nat.zero_le _, fun i hi => by omega⟩
 ·exact ⟨rfl, rfl, trivial⟩
 ·exact (Some'.weak (.takeEq (by first | rfl | simp [ints]) (.nil _)))
 rintro ⟨k, vo⟩ fr hinv
 show Run _ _ (over _ _ [(4, vo), (12, .int .i64 (((k : Nat) : Int)))] fr) [.own vo 3 1 k (ints ((L.take k).map num2))]
 try dsimp only at hinv
 refine .sr ?_
 refine .w (.bool (decide ((((k : Nat) : Int)) < (((n : Nat) : Int))))) ?_
 refine .done ?_
 refine .seq ?_
 refine .cond (b := decide ((((k : Nat) : Int)) < (((n : Nat) : Int)))) rfl (fun h13 => ?_) (fun h13 => ?_)
 ·have p13 := h13; try simp only [bs] at p13
  have hltk : k < n := by omega
  obtain ⟨b, o, rfl⟩ := ha.opn (by omega)
  refine .skip ?_
  refine .seq ?_
  refine .block ?_
  refine .sr ?_
  refine .u (.pointer (some ⟨b, o + k, none⟩)) (.ix k Tsl_40) ?_
  refine .u (sv (stx L k)) (.load1 Tone_9 rfl (Cells.arg (k := k) ha rfl (by omega) (preS (by omega)))) ?_
  refine .w (sv (stx L k)) ?_
  refine .dsr ?_
  refine .w (sv (stx L k)) ?_
  refine .step rfl (.c [sv (stx L k)] Tcall_119 (fun w hs => textNumber_spec (hg.go hs) (stx_len hL _)) ?_)
  rintro _ _ ⟨n1, rfl, hn1, rfl⟩
  show Run _ _ (putF _ _ _ (.tuple #[.int .i64 n1, .bool (decide (0 ≤ num2 (stx L k)))])) [.own vo 3 1 k (ints ((L.take k).map num2))]
  refine .w (.tuple #[.int .i64 n1, .bool (decide (0 ≤ num2 (stx L k)))]) ?_
  refine .w (.int .i64 n1) ?_
  refine .w (.bool (decide (0 ≤ num2 (stx L k)))) ?_
  iterate 2 refine .m ?_
  refine .done ?_
  refine .seq ?_
  refine .sr ?_
  refine .m ?_
  refine .w (.bool (!(decide (0 ≤ num2 (stx L k))))) ?_
  refine .done ?_
  refine .cond (b := !(decide (0 ≤ num2 (stx L k)))) rfl (fun h22 => ?_) (fun h22 => ?_)
  ·have p22 := h22; try simp only [bs] at p22
   refine .seq ?_
   have hall : allNum L = false := allI_false (i := k) (by omega) (by rw [decide_eq_false_iff_not]; omega)
   have hnums : nums L = [] := by rw [nums, if_neg (by rw [hall]; decide)]
   refine .region ?_
   iterate 2 refine .m ?_
   refine .done ?_
   refine .ret ?_
   refine ⟨.tuple #[.slice none 0 0, .bool false], [.own (.slice none 0 0) 3 1 ((nums L).length) (ints (nums L))], Out.two rfl rfl rfl, ((Weak.nilOwn 3 1).trans (Some'.weak (.takeEq (by first | (rw [hnums]; done) | (rw [hnums]; rfl) | (rw [hnums]; simp; omega)) (.nil _)))), ?_⟩
   exact ⟨_, by rw [hall], rfl⟩
  have p22 := h22; try simp only [bs] at p22
  refine .skip ?_
  have hgood : decide (0 ≤ num2 (stx L k)) = true := by rw [decide_eq_true_iff]; omega
  refine .region ?_
  refine .w vo ?_
  refine .m ?_
  refine .step rfl (.buildSlice (us := [.int .i64 n1]) Tsl_75 (by decide) (by decide) ⟨rfl, [.int .i64 n1], _, rfl, rfl, rfl, rfl⟩ rfl fun b2 => ?_)
  refine .step rfl (.append (H1 := [.own (.slice (some ⟨b2, 0, none⟩) 1 1) 3 1 1 ([.int .i64 n1])]) (H2 := []) (v := vo) (u := .slice (some ⟨b2, 0, none⟩) 1 1) (n := k) (m := 1) (xs := ints ((L.take k).map num2)) (ys := [.int .i64 n1]) Tsl_75 (by decide) rfl rfl rfl rfl (fun w hs => hs.slOwn (.head _)) (by simp [Value.oneCell']) (by omega) (by simp only [maxLen]; omega) fun av1 hnav1 => ?_)
  refine Run.weak (H' := [.own (.slice (some ⟨b2, 0, none⟩) 1 1) 3 1 1 ([.int .i64 n1]), .own av1 3 1 (k + 1) (ints ((L.take (k + 1)).map num2))]) (Some'.weak (.take (.takeEq (by first | rfl | (rw [← nums_snoc (show k < L.length by omega), ints_append]; rfl) | (rw [← nums_snoc (show k < L.length by omega), ints_append, ← hn1 p22]; rfl)) (.nil _)))) ?_ ⟨_, _, rfl, fun _ => nofun, fun _ => nofun⟩
  refine .w av1 ?_
  refine .done ?_
  refine .blockEnd ?_
  refine .region ?_
  refine .u (.int .i64 ((((k : Nat) : Int)) + 1)) (.add rfl rfl rfl (by omega) (by omega)) ?_
  refine .m ?_
  refine .done ?_
  refine .goal ⟨(by repeat (first | exact Same.refl _ _ | refine Same.put rfl ?_ | refine Same.over rfl rfl ?_)), (k + 1, av1), ?_, ?_, ?_, ?_⟩
  ·refine ⟨by omega, ?_⟩
   intro i hi
   rcases Nat.lt_succ_iff_lt_or_eq.1 hi with h | h
   ·exact hinv.2 i h
   ·rw [h]; exact hgood
  ·show n - (k + 1) < n - k; omega
  ·exact ⟨(by first | rfl | (congr 1; omega) | simp), (by first | rfl | (congr 1; omega) | simp), trivial⟩
  ·exact (Some'.weak (.skip (.takeEq (by first | rfl | simp [ints]) (.nil _))))
 have p13 := h13; try simp only [bs] at p13
 have hkn : k = n := by omega
 have hall : allNum L = true := by rw [allNum, hLn, ← hkn]; exact allI_iff.2 hinv.2
 have hnums : nums L = (L.take k).map num2 := by rw [nums, if_pos hall, hkn, ← hLn, List.take_length]
 refine .exit rfl ?_
 refine .sr ?_
 refine .w vo ?_
 refine .w vo ?_
 refine .m ?_
 refine .done ?_
 refine .ret ?_
 refine ⟨.tuple #[vo, .bool true], [.own vo 3 1 ((nums L).length) (ints (nums L))], Out.two rfl rfl rfl, (Some'.weak (.takeEq (by first | (rw [hnums]; done) | (rw [hnums]; rfl) | (rw [hnums]; simp; omega)) (.nil _))), ?_⟩
 exact ⟨_, by rw [hall], rfl⟩

set_option maxHeartbeats 1000000 in
set_option maxRecDepth 20000 in
theorem l1Read0_spec {a b : UInt8} {w : World} : Calls Tryz.prog 100 #[sv ([] : Bs)] w (Post No w fun v _ => v = .int .i64 (num2 ([] : Bs))) := by
 have ra := byx_range ([] : Bs) 0
 have rb := byx_range ([] : Bs) 1
 refine enter (n := 44) (args := [sv (([] : Bs))]) Tryz.func100 rfl rfl (St.empty _ _) ?_
 refine .sr ?_
 refine .m ?_
 refine .done ?_
 refine .seq ?_
 refine .sr ?_
 refine .w (sv (([] : Bs))) ?_
 refine .u (.int .i64 0) (.lenSN Tstr_9 rfl (by first | rfl | decide)) ?_
 refine .c (.bool false) [.int .i64 0, .int .i64 1, .int .i64 6] Tcall_68 (fun w hs => l1In_spec _ _ _ w) ?_
 refine .w (.bool true) ?_
 refine .m ?_
 iterate 8 refine .pass rfl ?_
 refine .w (.bool true) ?_
 refine .done ?_
 refine .cond (b := true) rfl (fun _ => ?_) (fun h => nomatch h)
 refine .sr ?_
 refine .m ?_
 refine .done ?_
 refine .ret ?_
 refine ⟨.int .i64 (-1), [], Out.one rfl rfl, (Some'.weak (.nil _)), ?_⟩
 show _ = _
 first | rfl | (simp only [num2]; congr 1; rw [eq_comm]; first | (rw [if_neg (by simp [digB]; omega)]; done) | (rw [if_pos (by simp [digB]; omega)]; omega))

set_option maxHeartbeats 1000000 in
set_option maxRecDepth 20000 in
theorem l1Read1_spec {a b : UInt8} {w : World} : Calls Tryz.prog 100 #[sv [a]] w (Post No w fun v _ => v = .int .i64 (num2 [a])) := by
 have ra := byx_range [a] 0
 have rb := byx_range [a] 1
 refine enter (n := 44) (args := [sv ([a])]) Tryz.func100 rfl rfl (St.empty _ _) ?_
 refine .sr ?_
 refine .m ?_
 refine .done ?_
 refine .seq ?_
 refine .sr ?_
 refine .w (sv ([a])) ?_
 refine .u (.int .i64 1) (.lenSN Tstr_9 rfl (by first | rfl | decide)) ?_
 refine .c (.bool true) [.int .i64 1, .int .i64 1, .int .i64 6] Tcall_68 (fun w hs => l1In_spec _ _ _ w) ?_
 refine .w (.bool false) ?_
 refine .m ?_
 refine .w (sv ([a])) ?_
 refine .u (.int .u8 (byx ([a]) 0)) (.indexS (j := 0) Tstr_9 rfl rfl (by first | rfl | omega) (by first | decide | simp | omega)) ?_
 refine .w (.bool ((byx ([a]) 0) == 48)) ?_
 rcases Bool.eq_false_or_eq_true ((byx ([a]) 0) == 48) with h13 | h13
 ·refine .mb h13 ?_
  have p13 := h13; try simp only [bs] at p13
  refine .w (sv ([a])) ?_
  refine .u (.int .i64 1) (.lenSN Tstr_9 rfl (by first | rfl | decide)) ?_
  refine .w (.bool false) ?_
  refine .w (.bool false) ?_
  refine .w (.bool false) ?_
  refine .done ?_
  refine .cond (b := false) rfl (fun h => nomatch h) (fun _ => ?_)
  refine .skip ?_
  refine .sr ?_
  refine .m ?_
  refine .done ?_
  refine .seq ?_
  refine .sr ?_
  refine .m ?_
  refine .done ?_
  refine .block ?_
  refine Run.unroll 3 ?_
  refine .again ?_
  refine .seq ?_
  refine .sr ?_
  refine .m ?_
  refine .w (sv ([a])) ?_
  refine .u (.int .i64 1) (.lenSN Tstr_9 rfl (by first | rfl | decide)) ?_
  refine .w (.bool true) ?_
  refine .done ?_
  refine .cond (b := true) rfl (fun _ => ?_) (fun h => nomatch h)
  refine .skip ?_
  refine .seq ?_
  refine .block ?_
  refine .seq ?_
  refine .sr ?_
  refine .w (sv ([a])) ?_
  refine .m ?_
  refine .u (.int .u8 (byx ([a]) 0)) (.indexS (j := 0) Tstr_9 rfl rfl (by first | rfl | omega) (by first | decide | simp | omega)) ?_
  refine .w (.bool (decide ((byx ([a]) 0) < 48))) ?_
  rcases Bool.eq_false_or_eq_true (decide ((byx ([a]) 0) < 48)) with h29 | h29
  ·refine .mb h29 ?_
   have p29 := h29; try simp only [bs] at p29
   iterate 4 refine .pass rfl ?_
   refine .w (.bool true) ?_
   refine .done ?_
   refine .cond (b := true) rfl (fun _ => ?_) (fun h => nomatch h)
   refine .sr ?_
   refine .m ?_
   refine .done ?_
   refine .ret ?_
   refine ⟨.int .i64 (-1), [], Out.one rfl rfl, (Some'.weak (.nil _)), ?_⟩
   show _ = _
   first | rfl | (simp only [num2]; congr 1; rw [eq_comm]; first | (rw [if_neg (by simp [digB]; omega)]; done) | (rw [if_pos (by simp [digB]; omega)]; omega))
  refine .mb h29 ?_
  have p29 := h29; try simp only [bs] at p29
  refine .w (sv ([a])) ?_
  refine .m ?_
  refine .u (.int .u8 (byx ([a]) 0)) (.indexS (j := 0) Tstr_9 rfl rfl (by first | rfl | omega) (by first | decide | simp | omega)) ?_
  refine .w (.bool (decide ((byx ([a]) 0) > 57))) ?_
  refine .w (.bool (decide ((byx ([a]) 0) > 57))) ?_
  refine .done ?_
  refine .cond (b := decide ((byx ([a]) 0) > 57)) rfl (fun h34 => ?_) (fun h34 => ?_)
  ·have p34 := h34; try simp only [bs] at p34
   refine .sr ?_
   refine .m ?_
   refine .done ?_
   refine .ret ?_
   refine ⟨.int .i64 (-1), [], Out.one rfl rfl, (Some'.weak (.nil _)), ?_⟩
   show _ = _
   first | rfl | (simp only [num2]; congr 1; rw [eq_comm]; first | (rw [if_neg (by simp [digB]; omega)]; done) | (rw [if_pos (by simp [digB]; omega)]; omega))
  have p34 := h34; try simp only [bs] at p34
  refine .skip ?_
  refine .region ?_
  refine .m ?_
  refine .u (.int .i64 (10 * 0)) (.mul rfl rfl (by first | rfl | grind) (by omega) (by omega)) ?_
  refine .w (sv ([a])) ?_
  refine .m ?_
  refine .u (.int .u8 (byx ([a]) 0)) (.indexS (j := 0) Tstr_9 rfl rfl (by first | rfl | omega) (by first | decide | simp | omega)) ?_
  refine .u (.int .u8 ((byx ([a]) 0) - 48)) (.subU8 rfl rfl (wrapU8 (by omega) (by omega))) ?_
  refine .u (.int .i64 ((byx ([a]) 0) - 48)) (.convIntEq Tsome_5 Tint_3 rfl (by rw [IntKind.wrap_i64]; omega)) ?_
  refine .u (.int .i64 ((10 * 0) + ((byx ([a]) 0) - 48))) (.add rfl rfl rfl (by omega) (by omega)) ?_
  refine .m ?_
  refine .done ?_
  refine .blockEnd ?_
  refine .region ?_
  refine .m ?_
  refine .w (.int .i64 1) ?_
  refine .m ?_
  refine .done ?_
  refine .again ?_
  refine .seq ?_
  refine .sr ?_
  refine .m ?_
  refine .w (sv ([a])) ?_
  refine .u (.int .i64 1) (.lenSN Tstr_9 rfl (by first | rfl | decide)) ?_
  refine .w (.bool false) ?_
  refine .done ?_
  refine .cond (b := false) rfl (fun h => nomatch h) (fun _ => ?_)
  refine .exit rfl ?_
  refine .sr ?_
  iterate 2 refine .m ?_
  refine .done ?_
  refine .ret ?_
  refine ⟨.int .i64 ((10 * 0) + ((byx ([a]) 0) - 48)), [], Out.one rfl rfl, (Some'.weak (.nil _)), ?_⟩
  show _ = _
  first | rfl | (simp only [num2]; congr 1; rw [eq_comm]; first | (rw [if_neg (by simp [digB]; omega)]; done) | (rw [if_pos (by simp [digB]; omega)]; omega))
 refine .mb h13 ?_
 have p13 := h13; try simp only [bs] at p13
 iterate 3 refine .pass rfl ?_
 refine .w (.bool false) ?_
 refine .w (.bool false) ?_
 refine .done ?_
 refine .cond (b := false) rfl (fun h => nomatch h) (fun _ => ?_)
 refine .skip ?_
 refine .sr ?_
 refine .m ?_
 refine .done ?_
 refine .seq ?_
 refine .sr ?_
 refine .m ?_
 refine .done ?_
 refine .block ?_
 refine Run.unroll 3 ?_
 refine .again ?_
 refine .seq ?_
 refine .sr ?_
 refine .m ?_
 refine .w (sv ([a])) ?_
 refine .u (.int .i64 1) (.lenSN Tstr_9 rfl (by first | rfl | decide)) ?_
 refine .w (.bool true) ?_
 refine .done ?_
 refine .cond (b := true) rfl (fun _ => ?_) (fun h => nomatch h)
 refine .skip ?_
 refine .seq ?_
 refine .block ?_
 refine .seq ?_
 refine .sr ?_
 refine .w (sv ([a])) ?_
 refine .m ?_
 refine .u (.int .u8 (byx ([a]) 0)) (.indexS (j := 0) Tstr_9 rfl rfl (by first | rfl | omega) (by first | decide | simp | omega)) ?_
 refine .w (.bool (decide ((byx ([a]) 0) < 48))) ?_
 rcases Bool.eq_false_or_eq_true (decide ((byx ([a]) 0) < 48)) with h29 | h29
 ·refine .mb h29 ?_
  have p29 := h29; try simp only [bs] at p29
  iterate 4 refine .pass rfl ?_
  refine .w (.bool true) ?_
  refine .done ?_
  refine .cond (b := true) rfl (fun _ => ?_) (fun h => nomatch h)
  refine .sr ?_
  refine .m ?_
  refine .done ?_
  refine .ret ?_
  refine ⟨.int .i64 (-1), [], Out.one rfl rfl, (Some'.weak (.nil _)), ?_⟩
  show _ = _
  first | rfl | (simp only [num2]; congr 1; rw [eq_comm]; first | (rw [if_neg (by simp [digB]; omega)]; done) | (rw [if_pos (by simp [digB]; omega)]; omega))
 refine .mb h29 ?_
 have p29 := h29; try simp only [bs] at p29
 refine .w (sv ([a])) ?_
 refine .m ?_
 refine .u (.int .u8 (byx ([a]) 0)) (.indexS (j := 0) Tstr_9 rfl rfl (by first | rfl | omega) (by first | decide | simp | omega)) ?_
 refine .w (.bool (decide ((byx ([a]) 0) > 57))) ?_
 refine .w (.bool (decide ((byx ([a]) 0) > 57))) ?_
 refine .done ?_
 refine .cond (b := decide ((byx ([a]) 0) > 57)) rfl (fun h34 => ?_) (fun h34 => ?_)
 ·have p34 := h34; try simp only [bs] at p34
  refine .sr ?_
  refine .m ?_
  refine .done ?_
  refine .ret ?_
  refine ⟨.int .i64 (-1), [], Out.one rfl rfl, (Some'.weak (.nil _)), ?_⟩
  show _ = _
  first | rfl | (simp only [num2]; congr 1; rw [eq_comm]; first | (rw [if_neg (by simp [digB]; omega)]; done) | (rw [if_pos (by simp [digB]; omega)]; omega))
 have p34 := h34; try simp only [bs] at p34
 refine .skip ?_
 refine .region ?_
 refine .m ?_
 refine .u (.int .i64 (10 * 0)) (.mul rfl rfl (by first | rfl | grind) (by omega) (by omega)) ?_
 refine .w (sv ([a])) ?_
 refine .m ?_
 refine .u (.int .u8 (byx ([a]) 0)) (.indexS (j := 0) Tstr_9 rfl rfl (by first | rfl | omega) (by first | decide | simp | omega)) ?_
 refine .u (.int .u8 ((byx ([a]) 0) - 48)) (.subU8 rfl rfl (wrapU8 (by omega) (by omega))) ?_
 refine .u (.int .i64 ((byx ([a]) 0) - 48)) (.convIntEq Tsome_5 Tint_3 rfl (by rw [IntKind.wrap_i64]; omega)) ?_
 refine .u (.int .i64 ((10 * 0) + ((byx ([a]) 0) - 48))) (.add rfl rfl rfl (by omega) (by omega)) ?_
 refine .m ?_
 refine .done ?_
 refine .blockEnd ?_
 refine .region ?_
 refine .m ?_
 refine .w (.int .i64 1) ?_
 refine .m ?_
 refine .done ?_
 refine .again ?_
 refine .seq ?_
 refine .sr ?_
 refine .m ?_
 refine .w (sv ([a])) ?_
 refine .u (.int .i64 1) (.lenSN Tstr_9 rfl (by first | rfl | decide)) ?_
 refine .w (.bool false) ?_
 refine .done ?_
 refine .cond (b := false) rfl (fun h => nomatch h) (fun _ => ?_)
 refine .exit rfl ?_
 refine .sr ?_
 iterate 2 refine .m ?_
 refine .done ?_
 refine .ret ?_
 refine ⟨.int .i64 ((10 * 0) + ((byx ([a]) 0) - 48)), [], Out.one rfl rfl, (Some'.weak (.nil _)), ?_⟩
 show _ = _
 first | rfl | (simp only [num2]; congr 1; rw [eq_comm]; first | (rw [if_neg (by simp [digB]; omega)]; done) | (rw [if_pos (by simp [digB]; omega)]; omega))

set_option maxHeartbeats 1000000 in
set_option maxRecDepth 20000 in
theorem l1Read2_spec {a b : UInt8} {w : World} : Calls Tryz.prog 100 #[sv [a, b]] w (Post No w fun v _ => v = .int .i64 (num2 [a, b])) := by
 have ra := byx_range [a, b] 0
 have rb := byx_range [a, b] 1
 refine enter (n := 44) (args := [sv ([a, b])]) Tryz.func100 rfl rfl (St.empty _ _) ?_
 refine .sr ?_
 refine .m ?_
 refine .done ?_
 refine .seq ?_
 refine .sr ?_
 refine .w (sv ([a, b])) ?_
 refine .u (.int .i64 2) (.lenSN Tstr_9 rfl (by first | rfl | decide)) ?_
 refine .c (.bool true) [.int .i64 2, .int .i64 1, .int .i64 6] Tcall_68 (fun w hs => l1In_spec _ _ _ w) ?_
 refine .w (.bool false) ?_
 refine .m ?_
 refine .w (sv ([a, b])) ?_
 refine .u (.int .u8 (byx ([a, b]) 0)) (.indexS (j := 0) Tstr_9 rfl rfl (by first | rfl | omega) (by first | decide | simp | omega)) ?_
 refine .w (.bool ((byx ([a, b]) 0) == 48)) ?_
 rcases Bool.eq_false_or_eq_true ((byx ([a, b]) 0) == 48) with h13 | h13
 ·refine .mb h13 ?_
  have p13 := h13; try simp only [bs] at p13
  refine .w (sv ([a, b])) ?_
  refine .u (.int .i64 2) (.lenSN Tstr_9 rfl (by first | rfl | decide)) ?_
  refine .w (.bool true) ?_
  refine .w (.bool true) ?_
  refine .w (.bool true) ?_
  refine .done ?_
  refine .cond (b := true) rfl (fun _ => ?_) (fun h => nomatch h)
  refine .sr ?_
  refine .m ?_
  refine .done ?_
  refine .ret ?_
  refine ⟨.int .i64 (-1), [], Out.one rfl rfl, (Some'.weak (.nil _)), ?_⟩
  show _ = _
  first | rfl | (simp only [num2]; congr 1; rw [eq_comm]; first | (rw [if_neg (by simp [digB]; omega)]; done) | (rw [if_pos (by simp [digB]; omega)]; omega))
 refine .mb h13 ?_
 have p13 := h13; try simp only [bs] at p13
 iterate 3 refine .pass rfl ?_
 refine .w (.bool false) ?_
 refine .w (.bool false) ?_
 refine .done ?_
 refine .cond (b := false) rfl (fun h => nomatch h) (fun _ => ?_)
 refine .skip ?_
 refine .sr ?_
 refine .m ?_
 refine .done ?_
 refine .seq ?_
 refine .sr ?_
 refine .m ?_
 refine .done ?_
 refine .block ?_
 refine Run.unroll 3 ?_
 refine .again ?_
 refine .seq ?_
 refine .sr ?_
 refine .m ?_
 refine .w (sv ([a, b])) ?_
 refine .u (.int .i64 2) (.lenSN Tstr_9 rfl (by first | rfl | decide)) ?_
 refine .w (.bool true) ?_
 refine .done ?_
 refine .cond (b := true) rfl (fun _ => ?_) (fun h => nomatch h)
 refine .skip ?_
 refine .seq ?_
 refine .block ?_
 refine .seq ?_
 refine .sr ?_
 refine .w (sv ([a, b])) ?_
 refine .m ?_
 refine .u (.int .u8 (byx ([a, b]) 0)) (.indexS (j := 0) Tstr_9 rfl rfl (by first | rfl | omega) (by first | decide | simp | omega)) ?_
 refine .w (.bool (decide ((byx ([a, b]) 0) < 48))) ?_
 rcases Bool.eq_false_or_eq_true (decide ((byx ([a, b]) 0) < 48)) with h29 | h29
 ·refine .mb h29 ?_
  have p29 := h29; try simp only [bs] at p29
  iterate 4 refine .pass rfl ?_
  refine .w (.bool true) ?_
  refine .done ?_
  refine .cond (b := true) rfl (fun _ => ?_) (fun h => nomatch h)
  refine .sr ?_
  refine .m ?_
  refine .done ?_
  refine .ret ?_
  refine ⟨.int .i64 (-1), [], Out.one rfl rfl, (Some'.weak (.nil _)), ?_⟩
  show _ = _
  first | rfl | (simp only [num2]; congr 1; rw [eq_comm]; first | (rw [if_neg (by simp [digB]; omega)]; done) | (rw [if_pos (by simp [digB]; omega)]; omega))
 refine .mb h29 ?_
 have p29 := h29; try simp only [bs] at p29
 refine .w (sv ([a, b])) ?_
 refine .m ?_
 refine .u (.int .u8 (byx ([a, b]) 0)) (.indexS (j := 0) Tstr_9 rfl rfl (by first | rfl | omega) (by first | decide | simp | omega)) ?_
 refine .w (.bool (decide ((byx ([a, b]) 0) > 57))) ?_
 refine .w (.bool (decide ((byx ([a, b]) 0) > 57))) ?_
 refine .done ?_
 refine .cond (b := decide ((byx ([a, b]) 0) > 57)) rfl (fun h34 => ?_) (fun h34 => ?_)
 ·have p34 := h34; try simp only [bs] at p34
  refine .sr ?_
  refine .m ?_
  refine .done ?_
  refine .ret ?_
  refine ⟨.int .i64 (-1), [], Out.one rfl rfl, (Some'.weak (.nil _)), ?_⟩
  show _ = _
  first | rfl | (simp only [num2]; congr 1; rw [eq_comm]; first | (rw [if_neg (by simp [digB]; omega)]; done) | (rw [if_pos (by simp [digB]; omega)]; omega))
 have p34 := h34; try simp only [bs] at p34
 refine .skip ?_
 refine .region ?_
 refine .m ?_
 refine .u (.int .i64 (10 * 0)) (.mul rfl rfl (by first | rfl | grind) (by omega) (by omega)) ?_
 refine .w (sv ([a, b])) ?_
 refine .m ?_
 refine .u (.int .u8 (byx ([a, b]) 0)) (.indexS (j := 0) Tstr_9 rfl rfl (by first | rfl | omega) (by first | decide | simp | omega)) ?_
 refine .u (.int .u8 ((byx ([a, b]) 0) - 48)) (.subU8 rfl rfl (wrapU8 (by omega) (by omega))) ?_
 refine .u (.int .i64 ((byx ([a, b]) 0) - 48)) (.convIntEq Tsome_5 Tint_3 rfl (by rw [IntKind.wrap_i64]; omega)) ?_
 refine .u (.int .i64 ((10 * 0) + ((byx ([a, b]) 0) - 48))) (.add rfl rfl rfl (by omega) (by omega)) ?_
 refine .m ?_
 refine .done ?_
 refine .blockEnd ?_
 refine .region ?_
 refine .m ?_
 refine .w (.int .i64 1) ?_
 refine .m ?_
 refine .done ?_
 refine .again ?_
 refine .seq ?_
 refine .sr ?_
 refine .m ?_
 refine .w (sv ([a, b])) ?_
 refine .u (.int .i64 2) (.lenSN Tstr_9 rfl (by first | rfl | decide)) ?_
 refine .w (.bool true) ?_
 refine .done ?_
 refine .cond (b := true) rfl (fun _ => ?_) (fun h => nomatch h)
 refine .skip ?_
 refine .seq ?_
 refine .block ?_
 refine .seq ?_
 refine .sr ?_
 refine .w (sv ([a, b])) ?_
 refine .m ?_
 refine .u (.int .u8 (byx ([a, b]) 1)) (.indexS (j := 1) Tstr_9 rfl rfl (by first | rfl | omega) (by first | decide | simp | omega)) ?_
 refine .w (.bool (decide ((byx ([a, b]) 1) < 48))) ?_
 rcases Bool.eq_false_or_eq_true (decide ((byx ([a, b]) 1) < 48)) with h29 | h29
 ·refine .mb h29 ?_
  have p29 := h29; try simp only [bs] at p29
  iterate 4 refine .pass rfl ?_
  refine .w (.bool true) ?_
  refine .done ?_
  refine .cond (b := true) rfl (fun _ => ?_) (fun h => nomatch h)
  refine .sr ?_
  refine .m ?_
  refine .done ?_
  refine .ret ?_
  refine ⟨.int .i64 (-1), [], Out.one rfl rfl, (Some'.weak (.nil _)), ?_⟩
  show _ = _
  first | rfl | (simp only [num2]; congr 1; rw [eq_comm]; first | (rw [if_neg (by simp [digB]; omega)]; done) | (rw [if_pos (by simp [digB]; omega)]; omega))
 refine .mb h29 ?_
 have p29 := h29; try simp only [bs] at p29
 refine .w (sv ([a, b])) ?_
 refine .m ?_
 refine .u (.int .u8 (byx ([a, b]) 1)) (.indexS (j := 1) Tstr_9 rfl rfl (by first | rfl | omega) (by first | decide | simp | omega)) ?_
 refine .w (.bool (decide ((byx ([a, b]) 1) > 57))) ?_
 refine .w (.bool (decide ((byx ([a, b]) 1) > 57))) ?_
 refine .done ?_
 refine .cond (b := decide ((byx ([a, b]) 1) > 57)) rfl (fun h34 => ?_) (fun h34 => ?_)
 ·have p34 := h34; try simp only [bs] at p34
  refine .sr ?_
  refine .m ?_
  refine .done ?_
  refine .ret ?_
  refine ⟨.int .i64 (-1), [], Out.one rfl rfl, (Some'.weak (.nil _)), ?_⟩
  show _ = _
  first | rfl | (simp only [num2]; congr 1; rw [eq_comm]; first | (rw [if_neg (by simp [digB]; omega)]; done) | (rw [if_pos (by simp [digB]; omega)]; omega))
 have p34 := h34; try simp only [bs] at p34
 refine .skip ?_
 refine .region ?_
 refine .m ?_
 refine .u (.int .i64 (10 * ((10 * 0) + ((byx ([a, b]) 0) - 48)))) (.mul rfl rfl (by first | rfl | grind) (by omega) (by omega)) ?_
 refine .w (sv ([a, b])) ?_
 refine .m ?_
 refine .u (.int .u8 (byx ([a, b]) 1)) (.indexS (j := 1) Tstr_9 rfl rfl (by first | rfl | omega) (by first | decide | simp | omega)) ?_
 refine .u (.int .u8 ((byx ([a, b]) 1) - 48)) (.subU8 rfl rfl (wrapU8 (by omega) (by omega))) ?_
 refine .u (.int .i64 ((byx ([a, b]) 1) - 48)) (.convIntEq Tsome_5 Tint_3 rfl (by rw [IntKind.wrap_i64]; omega)) ?_
 refine .u (.int .i64 ((10 * ((10 * 0) + ((byx ([a, b]) 0) - 48))) + ((byx ([a, b]) 1) - 48))) (.add rfl rfl rfl (by omega) (by omega)) ?_
 refine .m ?_
 refine .done ?_
 refine .blockEnd ?_
 refine .region ?_
 refine .m ?_
 refine .w (.int .i64 2) ?_
 refine .m ?_
 refine .done ?_
 refine .again ?_
 refine .seq ?_
 refine .sr ?_
 refine .m ?_
 refine .w (sv ([a, b])) ?_
 refine .u (.int .i64 2) (.lenSN Tstr_9 rfl (by first | rfl | decide)) ?_
 refine .w (.bool false) ?_
 refine .done ?_
 refine .cond (b := false) rfl (fun h => nomatch h) (fun _ => ?_)
 refine .exit rfl ?_
 refine .sr ?_
 iterate 2 refine .m ?_
 refine .done ?_
 refine .ret ?_
 refine ⟨.int .i64 ((10 * ((10 * 0) + ((byx ([a, b]) 0) - 48))) + ((byx ([a, b]) 1) - 48)), [], Out.one rfl rfl, (Some'.weak (.nil _)), ?_⟩
 show _ = _
 first | rfl | (simp only [num2]; congr 1; rw [eq_comm]; first | (rw [if_neg (by simp [digB]; omega)]; done) | (rw [if_pos (by simp [digB]; omega)]; omega))

end Go.Proofs.YtgpkpopbajkklaaGreatDoor
/- Walks: the reference's numbers, and its strings cut into pieces. -/
set_option linter.unusedSimpArgs false
set_option linter.unusedVariables false
namespace Go.Proofs.YtgpkpopbajkklaaGreatDoor
open Go Go.RowKit
namespace TxdT
theorem Tcall_100 : callable Tryz.prog 100 = true := by kernel_rfl
theorem Tcall_80 : callable Tryz.prog 80 = true := by kernel_rfl
theorem Tone_9 : oneOf Tryz.prog 9 = true := by kernel_rfl
theorem Tsl_40 : sliceOf Tryz.prog 40 = some (9, 1, 16, [sv ([])]) := by kernel_rfl
theorem Tsl_75 : sliceOf Tryz.prog 75 = some (3, 1, 8, [.int .i64 0]) := by kernel_rfl
theorem Tstr_9 : strT Tryz.prog 9 = true := by kernel_rfl
end TxdT
open TxdT
theorem l1Read_spec {l : Bs} (h : l.length ≤ 2) {w : World} : Calls Tryz.prog 100 #[sv l] w (Post No w fun v _ => v = .int .i64 (num2 l)) := by
  match l, h with
  | [], _ => exact l1Read0_spec (a := 0) (b := 0)
  | [a], _ => exact l1Read1_spec (b := 0)
  | [a, b], _ => exact l1Read2_spec
theorem splitC_snoc {c b : UInt8} : ∀ {a : Bs} {L : List Bs} {s : Bs}, splitC c a = L ++ [s] → splitC c (a ++ [b]) = if b = c then L ++ [s, []] else L ++ [s ++ [b]]
  | [], L, s, h => by
    have : L = [] ∧ s = [] := by
      simp only [splitC] at h
      cases L with
      | nil => simp at h; exact ⟨rfl, h⟩
      | cons x L => cases L <;> simp at h
    obtain ⟨rfl, rfl⟩ := this
    simp only [List.nil_append, splitC]
  | x :: a, L, s, h => by
    rw [List.cons_append]
    rw [splitC] at h ⊢
    by_cases hx : x = c
    · rw [if_pos hx] at h ⊢
      cases L with
      | nil => simp only [List.nil_append, List.cons.injEq] at h; exact absurd h.2 (splitC_ne c a)
      | cons y L =>
        simp only [List.cons_append, List.cons.injEq] at h
        rw [splitC_snoc h.2]
        obtain ⟨rfl, _⟩ := h
        split <;> simp
    · rw [if_neg hx] at h ⊢
      cases hs : splitC c a with
      | nil => exact absurd hs (splitC_ne c a)
      | cons y M =>
        rw [hs] at h
        cases L with
        | nil =>
          simp only [List.nil_append, List.cons.injEq] at h
          obtain ⟨rfl, rfl⟩ := h
          rw [splitC_snoc (L := []) (s := y) hs]
          by_cases hb : b = c
          · rw [if_pos hb, if_pos hb]; rfl
          · rw [if_neg hb, if_neg hb]; rfl
        | cons z L =>
          simp only [List.cons_append, List.cons.injEq] at h
          obtain ⟨rfl, rfl⟩ := h
          rw [splitC_snoc (L := y :: L) (s := s) (by rw [hs]; rfl)]
          by_cases hb : b = c
          · rw [if_pos hb, if_pos hb]; rfl
          · rw [if_neg hb, if_neg hb]; rfl
theorem take_snoc {l : Bs} {k : Nat} (h : k < l.length) : l.take (k + 1) = l.take k ++ [l.getD k 0] := by
  rw [← List.take_append_getElem h]; simp [List.getD, h]
theorem ssub_snoc {l : Bs} {i k : Nat} (hi : i ≤ k) (h : k < l.length) : ssub l i (k + 1) = ssub l i k ++ [l.getD k 0] := by
  rw [ssub, take_snoc h, List.drop_append_of_le_length (by simp; omega)]; rfl
theorem ssub_self {l : Bs} (k : Nat) : ssub l k k = [] := by
  rw [ssub, List.drop_eq_nil_iff]; simp; omega
theorem byx_eq {l : Bs} {k : Nat} {c : UInt8} : (byx l k = (c.toNat : Int)) ↔ l.getD k 0 = c := by
  unfold byx
  constructor
  · intro h; apply UInt8.toNat_inj.1; omega
  · rintro rfl; rfl
/-- A string is cut: the pieces behind which a c stands, and where the next one begins. -/
def Cut1 (c : UInt8) (l : Bs) (k i : Nat) (L : List Bs) : Prop := i ≤ k ∧ splitC c (l.take k) = L ++ [ssub l i k]
theorem Cut1.zero (c : UInt8) (l : Bs) : Cut1 c l 0 0 [] := ⟨Nat.le_refl _, by simp [splitC, ssub]⟩
theorem Cut1.hit {c : UInt8} {l : Bs} {k i : Nat} {L : List Bs} (h : Cut1 c l k i L) (hk : k < l.length) (hc : byx l k = (c.toNat : Int)) : Cut1 c l (k + 1) (k + 1) (L ++ [ssub l i k]) := by
  refine ⟨Nat.le_refl _, ?_⟩
  rw [take_snoc hk, splitC_snoc h.2, if_pos (byx_eq.1 hc), ssub_self]; simp
theorem Cut1.miss {c : UInt8} {l : Bs} {k i : Nat} {L : List Bs} (h : Cut1 c l k i L) (hk : k < l.length) (hc : ¬ byx l k = (c.toNat : Int)) : Cut1 c l (k + 1) i L := by
  refine ⟨Nat.le_succ_of_le h.1, ?_⟩
  rw [take_snoc hk, splitC_snoc h.2, if_neg (fun e => hc (byx_eq.2 e)), ssub_snoc h.1 hk]
theorem Cut1.fin {c : UInt8} {l : Bs} {k i : Nat} {L : List Bs} (h : Cut1 c l k i L) (hk : k = l.length) : splitC c l = L ++ [ssub l i l.length] := by
  have := h.2; rw [hk, List.take_length] at this; rwa [hk] at *
theorem Cut1.len {c : UInt8} {l : Bs} {k i : Nat} {L : List Bs} (h : Cut1 c l k i L) : L.length ≤ k := by
  have h1 := congrArg List.length h.2
  have h2 := splitC_length c (l.take k)
  rw [List.length_append, List.length_take] at *
  simp at h1; omega

set_option maxHeartbeats 1000000 in
set_option maxRecDepth 20000 in
theorem l5Number_spec {l : Bs} {w : World} : Calls Tryz.prog 80 #[sv l] w (Post No w fun v _ => v = .int .i64 (num2 l)) := by
 refine enter (n := 8) (args := [sv l]) Tryz.func80 rfl rfl (St.empty _ _) ?_
 refine .sr ?_
 refine .m ?_
 refine .done ?_
 refine .seq ?_
 refine .sr ?_
 refine .w (sv l) ?_
 refine .u (.int .i64 (((l.length : Nat) : Int))) (.lenS Tstr_9 rfl) ?_
 refine .w (.bool (decide ((((l.length : Nat) : Int)) > 2))) ?_
 refine .done ?_
 refine .cond (b := decide ((((l.length : Nat) : Int)) > 2)) rfl (fun h5 => ?_) (fun h5 => ?_)
 ·have p5 := h5; try simp only [bs] at p5
  refine .sr ?_
  refine .m ?_
  refine .done ?_
  refine .ret ?_
  refine ⟨.int .i64 (-1), [], Out.one rfl rfl, (Some'.weak (.nil _)), ?_⟩
  show _ = _; first | rfl | rw [num2_long (by omega)]
 have p5 := h5; try simp only [bs] at p5
 refine .skip ?_
 refine .sr ?_
 refine .w (sv l) ?_
 refine .c (.int .i64 (num2 l)) [sv l] Tcall_100 (fun w hs => l1Read_spec (by omega)) ?_
 refine .m ?_
 refine .done ?_
 refine .ret ?_
 refine ⟨.int .i64 (num2 l), [], Out.one rfl rfl, (Some'.weak (.nil _)), ?_⟩
 show _ = _; first | rfl | rw [num2_long (by omega)]

set_option maxHeartbeats 1000000 in
set_option maxRecDepth 20000 in
theorem l5Args_spec {va : Value} {n : Nat} {L : List Bs} {w : World} (ha : Sl w va 1 n (strs L)) (hL : ∀ s ∈ L, s.length ≤ 281474976710656) (hn16 : n ≤ 16777216) : Calls Tryz.prog 82 #[va] w (Post No w fun v H => ∃ v1, v = .tuple #[v1, .bool (allNum L)] ∧ H = [.own v1 3 1 (nums L).length (ints (nums L))]) := by
 have hLn := ha.lenS
 have hn := ha.le
 obtain ⟨A, c, rfl, _, _⟩ := ha.form0
 refine enter (n := 24) (args := [.slice A n c]) Tryz.func82 rfl rfl (St.empty _ _) ?_
 refine .sr ?_
 iterate 2 refine .m ?_
 refine .dsr ?_
 refine .m ?_
 refine .done ?_
 refine Run.weak (H' := [.own (.slice none 0 0) 3 1 0 ([])]) (Weak.nilOwn _ _) ?_ ⟨_, _, rfl, fun _ => nofun, fun _ => nofun⟩
 refine .seq ?_
 refine .sr ?_
 refine .m ?_
 refine .u (.int .i64 (((n : Nat) : Int))) (.len Tsl_40 rfl) ?_
 refine .m ?_
 refine .done ?_
 refine .block ?_
 refine Run.loop (ι := Nat × Value) [2, 3, 4, 6, 7, 10, 11, 12, 13, 14, 15, 16, 17, 18, 19, 20, 21, 22] (fun ⟨k, vo⟩ => [(4, vo), (10, .int .i64 (((k : Nat) : Int)))]) (fun ⟨k, vo⟩ => [.own vo 3 1 k (ints ((L.take k).map num2))]) (fun ⟨k, vo⟩ => k ≤ n ∧ ∀ i, i < k → decide (0 ≤ num2 (stx L i)) = true) (fun ⟨k, vo⟩ => n - k) (0, .slice none 0 0) ?_ ?_ ?_ ?_
 ·exact ⟨Nat.zero_le _, fun i hi => by omega⟩
 ·exact ⟨rfl, rfl, trivial⟩
 ·exact (Some'.weak (.takeEq (by first | rfl | simp [ints]) (.nil _)))
 rintro ⟨k, vo⟩ fr hinv
 show Run _ _ (over _ _ [(4, vo), (10, .int .i64 (((k : Nat) : Int)))] fr) [.own vo 3 1 k (ints ((L.take k).map num2))]
 try dsimp only at hinv
 refine .sr ?_
 refine .w (.bool (decide ((((k : Nat) : Int)) < (((n : Nat) : Int))))) ?_
 refine .done ?_
 refine .seq ?_
 refine .cond (b := decide ((((k : Nat) : Int)) < (((n : Nat) : Int)))) rfl (fun h11 => ?_) (fun h11 => ?_)
 ·have p11 := h11; try simp only [bs] at p11
  have hltk : k < n := by omega
  obtain ⟨b, o, rfl⟩ := ha.opn (by omega)
  refine .skip ?_
  refine .seq ?_
  refine .block ?_
  refine .sr ?_
  refine .u (.pointer (some ⟨b, o + k, none⟩)) (.ix k Tsl_40) ?_
  refine .u (sv (stx L k)) (.load1 Tone_9 rfl (Cells.arg (k := k) ha rfl (by omega) (preS (by omega)))) ?_
  refine .w (sv (stx L k)) ?_
  refine .dsr ?_
  refine .w (sv (stx L k)) ?_
  refine .c (.int .i64 (num2 (stx L k))) [sv (stx L k)] Tcall_80 (fun w hs => l5Number_spec) ?_
  refine .m ?_
  refine .done ?_
  refine .seq ?_
  refine .sr ?_
  refine .m ?_
  refine .w (.bool (decide ((num2 (stx L k)) < 0))) ?_
  refine .done ?_
  refine .cond (b := decide ((num2 (stx L k)) < 0)) rfl (fun h17 => ?_) (fun h17 => ?_)
  ·have p17 := h17; try simp only [bs] at p17
   refine .seq ?_
   have hall : allNum L = false := allI_false (i := k) (by omega) (by rw [decide_eq_false_iff_not]; omega)
   have hnums : nums L = [] := by rw [nums, if_neg (by rw [hall]; decide)]
   refine .region ?_
   iterate 2 refine .m ?_
   refine .done ?_
   refine .ret ?_
   refine ⟨.tuple #[.slice none 0 0, .bool false], [.own (.slice none 0 0) 3 1 ((nums L).length) (ints (nums L))], Out.two rfl rfl rfl, ((Weak.nilOwn 3 1).trans (Some'.weak (.takeEq (by first | (rw [hnums]; done) | (rw [hnums]; rfl) | (rw [hnums]; simp; omega)) (.nil _)))), ?_⟩
   exact ⟨_, by rw [hall], rfl⟩
  have p17 := h17; try simp only [bs] at p17
  refine .skip ?_
  have hgood : decide (0 ≤ num2 (stx L k)) = true := by rw [decide_eq_true_iff]; omega
  refine .region ?_
  refine .w vo ?_
  refine .m ?_
  refine .step rfl (.buildSlice (us := [.int .i64 (num2 (stx L k))]) Tsl_75 (by decide) (by decide) ⟨rfl, [.int .i64 (num2 (stx L k))], _, rfl, rfl, rfl, rfl⟩ rfl fun b1 => ?_)
  refine .step rfl (.append (H1 := [.own (.slice (some ⟨b1, 0, none⟩) 1 1) 3 1 1 ([.int .i64 (num2 (stx L k))])]) (H2 := []) (v := vo) (u := .slice (some ⟨b1, 0, none⟩) 1 1) (n := k) (m := 1) (xs := ints ((L.take k).map num2)) (ys := [.int .i64 (num2 (stx L k))]) Tsl_75 (by decide) rfl rfl rfl rfl (fun w hs => hs.slOwn (.head _)) (by simp [Value.oneCell']) (by omega) (by simp only [maxLen]; omega) fun av1 hnav1 => ?_)
  refine Run.weak (H' := [.own (.slice (some ⟨b1, 0, none⟩) 1 1) 3 1 1 ([.int .i64 (num2 (stx L k))]), .own av1 3 1 (k + 1) (ints ((L.take (k + 1)).map num2))]) (Some'.weak (.take (.takeEq (by rw [← nums_snoc (show k < L.length by omega), ints_append]; rfl) (.nil _)))) ?_ ⟨_, _, rfl, fun _ => nofun, fun _ => nofun⟩
  refine .w av1 ?_
  refine .done ?_
  refine .blockEnd ?_
  refine .region ?_
  refine .u (.int .i64 ((((k : Nat) : Int)) + 1)) (.add rfl rfl rfl (by omega) (by omega)) ?_
  refine .m ?_
  refine .done ?_
  refine .goal ⟨(by repeat (first | exact Same.refl _ _ | refine Same.put rfl ?_ | refine Same.over rfl rfl ?_)), (k + 1, av1), ?_, ?_, ?_, ?_⟩
  ·refine ⟨by omega, ?_⟩
   intro i hi
   rcases Nat.lt_succ_iff_lt_or_eq.1 hi with h | h
   ·exact hinv.2 i h
   ·rw [h]; exact hgood
  ·show n - (k + 1) < n - k; omega
  ·exact ⟨(by first | rfl | (congr 1; omega) | simp), (by first | rfl | (congr 1; omega) | simp), trivial⟩
  ·exact (Some'.weak (.skip (.takeEq (by first | rfl | simp [ints]) (.nil _))))
 have p11 := h11; try simp only [bs] at p11
 have hkn : k = n := by omega
 have hall : allNum L = true := by rw [allNum, hLn, ← hkn]; exact allI_iff.2 hinv.2
 have hnums : nums L = (L.take k).map num2 := by rw [nums, if_pos hall, hkn, ← hLn, List.take_length]
 refine .exit rfl ?_
 refine .sr ?_
 refine .w vo ?_
 refine .w vo ?_
 refine .m ?_
 refine .done ?_
 refine .ret ?_
 refine ⟨.tuple #[vo, .bool true], [.own vo 3 1 ((nums L).length) (ints (nums L))], Out.two rfl rfl rfl, (Some'.weak (.takeEq (by first | (rw [hnums]; done) | (rw [hnums]; rfl) | (rw [hnums]; simp; omega)) (.nil _))), ?_⟩
 exact ⟨_, by rw [hall], rfl⟩

set_option maxHeartbeats 1000000 in
set_option maxRecDepth 20000 in
theorem l1Split_spec {l : Bs} {c : UInt8} {w : World} (hl : l.length ≤ 16777216) : Calls Tryz.prog 79 #[sv l, .int .u8 (c.toNat : Int)] w (Post No w fun v H => H = [.own v 9 1 (splitC c l).length (strs (splitC c l))]) := by
 refine enter (n := 34) (args := [sv l, .int .u8 (((c.toNat : Nat) : Int))]) Tryz.func79 rfl rfl (St.empty _ _) ?_
 refine .sr ?_
 refine .m ?_
 refine .dsr ?_
 refine .m ?_
 refine .done ?_
 refine Run.weak (H' := [.own (.slice none 0 0) 9 1 0 (strs [])]) (Weak.nilOwn _ _) ?_ ⟨_, _, rfl, fun _ => nofun, fun _ => nofun⟩
 refine .sr ?_
 refine .m ?_
 refine .done ?_
 refine .seq ?_
 refine .sr ?_
 refine .m ?_
 refine .done ?_
 refine .block ?_
 refine Run.loop (ι := Nat × Nat × List Bs × Value) [5, 6, 7, 8, 9, 10, 11, 12, 13, 14, 15, 16, 17, 18, 19, 20, 21, 22, 23, 24, 25, 26, 27] (fun ⟨k, i, L, vo⟩ => [(5, vo), (6, .int .i64 (((i : Nat) : Int))), (7, .int .i64 (((k : Nat) : Int)))]) (fun ⟨k, i, L, vo⟩ => [.own vo 9 1 (L.length) (strs L)]) (fun ⟨k, i, L, vo⟩ => k ≤ l.length ∧ Cut1 c l k i L) (fun ⟨k, i, L, vo⟩ => l.length - k) (0, 0, [], .slice none 0 0) ?_ ?_ ?_ ?_
 ·exact ⟨Nat.zero_le _, Cut1.zero c l⟩
 ·exact ⟨rfl, rfl, rfl, trivial⟩
 ·exact (Some'.weak (.takeEq (by first | rfl | simp) (.nil _)))
 rintro ⟨k, i, L, vo⟩ fr hinv
 show Run _ _ (over _ _ [(5, vo), (6, .int .i64 (((i : Nat) : Int))), (7, .int .i64 (((k : Nat) : Int)))] fr) [.own vo 9 1 (L.length) (strs L)]
 try dsimp only at hinv
 refine .seq ?_
 refine .sr ?_
 refine .m ?_
 refine .w (sv l) ?_
 refine .u (.int .i64 (((l.length : Nat) : Int))) (.lenS Tstr_9 rfl) ?_
 refine .w (.bool (decide ((((k : Nat) : Int)) < (((l.length : Nat) : Int))))) ?_
 refine .done ?_
 refine .cond (b := decide ((((k : Nat) : Int)) < (((l.length : Nat) : Int)))) rfl (fun h11 => ?_) (fun h11 => ?_)
 ·have p11 := h11; try simp only [bs] at p11
  have hltk : k < l.length := by omega
  have hLk := hinv.2.len
  have hik := hinv.2.1
  refine .skip ?_
  refine .seq ?_
  refine .block ?_
  refine .sr ?_
  refine .w (sv l) ?_
  refine .m ?_
  refine .u (.int .u8 (byx l k)) (.indexS (j := k) Tstr_9 rfl rfl (by first | rfl | omega) (by omega)) ?_
  refine .m ?_
  refine .w (.bool ((byx l k) == (((c.toNat : Nat) : Int)))) ?_
  refine .done ?_
  refine .cond (b := (byx l k) == (((c.toNat : Nat) : Int))) rfl (fun h18 => ?_) (fun h18 => ?_)
  ·have p18 := h18; try simp only [bs] at p18
   refine .sr ?_
   refine .w vo ?_
   refine .w (sv l) ?_
   iterate 2 refine .m ?_
   refine .u (sv (ssub l i k)) (.sliceSLH (a := i) (b := k) Tstr_9 rfl rfl rfl (by first | rfl | omega) (by first | rfl | omega) (by omega) (by omega)) ?_
   refine .step rfl (.buildSlice (us := [sv (ssub l i k)]) Tsl_40 (by decide) (by decide) ⟨rfl, [sv (ssub l i k)], _, rfl, rfl, rfl, rfl⟩ rfl fun b1 => ?_)
   refine .step rfl (.append (H1 := [.own (.slice (some ⟨b1, 0, none⟩) 1 1) 9 1 1 ([sv (ssub l i k)])]) (H2 := []) (v := vo) (u := .slice (some ⟨b1, 0, none⟩) 1 1) (n := L.length) (m := 1) (xs := strs L) (ys := [sv (ssub l i k)]) Tsl_40 (by decide) rfl rfl rfl rfl (fun w hs => hs.slOwn (.head _)) (by simp [Value.oneCell']) (by omega) (by simp only [maxLen]; omega) fun av1 hnav1 => ?_)
   refine Run.weak (H' := [.own (.slice (some ⟨b1, 0, none⟩) 1 1) 9 1 1 ([sv (ssub l i k)]), .own av1 9 1 ((L ++ [ssub l i k]).length) (strs (L ++ [ssub l i k]))]) (Some'.weak (.take (.takeEq (by simp [strs]) (.nil _)))) ?_ ⟨_, _, rfl, fun _ => nofun, fun _ => nofun⟩
   refine .w av1 ?_
   refine .dr ?_
   refine .m ?_
   refine .u (.int .i64 ((((k : Nat) : Int)) + 1)) (.add rfl rfl rfl (by omega) (by omega)) ?_
   refine .m ?_
   refine .done ?_
   refine .blockEnd ?_
   refine .region ?_
   refine .m ?_
   refine .u (.int .i64 ((((k : Nat) : Int)) + 1)) (.add rfl rfl rfl (by omega) (by omega)) ?_
   refine .m ?_
   refine .done ?_
   refine .goal ⟨(by repeat (first | exact Same.refl _ _ | refine Same.put rfl ?_ | refine Same.over rfl rfl ?_)), (k + 1, k + 1, (L ++ [ssub l i k]), av1), ?_, ?_, ?_, ?_⟩
   ·refine ⟨by omega, ?_⟩
    exact hinv.2.hit hltk p18
   ·show l.length - (k + 1) < l.length - k; omega
   ·exact ⟨(by first | rfl | (congr 1; omega) | simp), (by first | rfl | (congr 1; omega) | simp), (by first | rfl | (congr 1; omega) | simp), trivial⟩
   ·exact (Some'.weak (.skip (.takeEq (by first | rfl | simp) (.nil _))))
  have p18 := h18; try simp only [bs] at p18
  refine .skip ?_
  refine .blockEnd ?_
  refine .region ?_
  refine .m ?_
  refine .u (.int .i64 ((((k : Nat) : Int)) + 1)) (.add rfl rfl rfl (by omega) (by omega)) ?_
  refine .m ?_
  refine .done ?_
  refine .goal ⟨(by repeat (first | exact Same.refl _ _ | refine Same.put rfl ?_ | refine Same.over rfl rfl ?_)), (k + 1, i, L, vo), ?_, ?_, ?_, ?_⟩
  ·refine ⟨by omega, ?_⟩
   exact hinv.2.miss hltk p18
  ·show l.length - (k + 1) < l.length - k; omega
  ·exact ⟨(by first | rfl | (congr 1; omega) | simp), (by first | rfl | (congr 1; omega) | simp), (by first | rfl | (congr 1; omega) | simp), trivial⟩
  ·exact (Some'.weak (.takeEq (by first | rfl | simp) (.nil _)))
 have p11 := h11; try simp only [bs] at p11
 have hkn : k = l.length := by omega
 have hLk := hinv.2.len
 have hik := hinv.2.1
 have hfin := hinv.2.fin hkn
 have hfl : (splitC c l).length = L.length + 1 := by rw [hfin]; simp
 refine .exit rfl ?_
 refine .sr ?_
 refine .w vo ?_
 refine .w (sv l) ?_
 refine .m ?_
 refine .u (sv (ssub l i l.length)) (.sliceSL (a := i) Tstr_9 rfl rfl (by first | rfl | omega) (by omega)) ?_
 refine .step rfl (.buildSlice (us := [sv (ssub l i l.length)]) Tsl_40 (by decide) (by decide) ⟨rfl, [sv (ssub l i l.length)], _, rfl, rfl, rfl, rfl⟩ rfl fun b2 => ?_)
 refine .step rfl (.append (H1 := [.own (.slice (some ⟨b2, 0, none⟩) 1 1) 9 1 1 ([sv (ssub l i l.length)])]) (H2 := []) (v := vo) (u := .slice (some ⟨b2, 0, none⟩) 1 1) (n := L.length) (m := 1) (xs := strs L) (ys := [sv (ssub l i l.length)]) Tsl_40 (by decide) rfl rfl rfl rfl (fun w hs => hs.slOwn (.head _)) (by simp [Value.oneCell']) (by omega) (by simp only [maxLen]; omega) fun av2 hnav2 => ?_)
 refine Run.weak (H' := [.own (.slice (some ⟨b2, 0, none⟩) 1 1) 9 1 1 ([sv (ssub l i l.length)]), .own av2 9 1 ((splitC c l).length) (strs (splitC c l))]) (Some'.weak (.take (.takeEq (by rw [hfin]; simp [strs]) (.nil _)))) ?_ ⟨_, _, rfl, fun _ => nofun, fun _ => nofun⟩
 refine .w av2 ?_
 refine .done ?_
 refine .ret ?_
 refine ⟨av2, [.own av2 9 1 ((splitC c l).length) (strs (splitC c l))], Out.one rfl rfl, (Some'.weak (.skip (.take (.nil _)))), ?_⟩
 rfl

end Go.Proofs.YtgpkpopbajkklaaGreatDoor
/- Lines of circuit texts; walks: the program reads a line. -/
set_option linter.unusedSimpArgs false
set_option linter.unusedVariables false
namespace Go.Proofs.YtgpkpopbajkklaaGreatDoor
open Go Go.RowKit
namespace TxeT
theorem Tagg_95 : aggOf Tryz.prog 95 = some 5 := by kernel_rfl
theorem Tarr_125 : arrayOf Tryz.prog 125 = some (13, 1) := by kernel_rfl
theorem Tcall_106 : callable Tryz.prog 106 = true := by kernel_rfl
theorem Tcall_120 : callable Tryz.prog 120 = true := by kernel_rfl
theorem Tcall_95 : callable Tryz.prog 95 = true := by kernel_rfl
theorem Tone_9 : oneOf Tryz.prog 9 = true := by kernel_rfl
theorem Tsize_95 : (Tryz.prog.info? 95).map (·.size) = some 5 := by kernel_rfl
theorem Tsl_40 : sliceOf Tryz.prog 40 = some (9, 1, 16, [sv ([])]) := by kernel_rfl
theorem Tsl_75 : sliceOf Tryz.prog 75 = some (3, 1, 8, [.int .i64 0]) := by kernel_rfl
theorem Tzero_95 : zeroOf Tryz.prog 95 = some [sv ([]), .int .i64 0, sv ([]), .int .i64 0, .slice none 0 0] := by kernel_rfl
end TxeT
open TxeT
/-- A line of a circuit text. -/
inductive Li where
  | qb (n : Int)
  | rep (n : Int)
  | df (nm : Bs) (n : Int)
  | call (nm : Bs) (qs : List Int)
  | cl
  | gate (k : Int) (qs : List Int)
  deriving DecidableEq
instance : Inhabited Li := ⟨.cl⟩
def wQ : Bs := [113, 117, 98, 105, 116, 115]
def wR : Bs := [114, 101, 112, 101, 97, 116]
def wD : Bs := [100, 101, 102]
def wC : Bs := [99, 97, 108, 108]
def wE : Bs := [125]
def wG : Bs := [103, 97, 116, 101]
def wO : Bs := [123]
namespace Li
def word : Li → Bs
  | .qb _ => wQ
  | .rep _ => wR
  | .df _ _ => wD
  | .call _ _ => wC
  | .cl => wE
  | .gate _ _ => wG
def kind : Li → Int
  | .gate k _ => k
  | _ => 0
def nm : Li → Bs
  | .df s _ => s
  | .call s _ => s
  | _ => []
def num : Li → Int
  | .qb n => n
  | .rep n => n
  | .df _ n => n
  | _ => 0
def qs : Li → List Int
  | .call _ q => q
  | .gate _ q => q
  | _ => []
end Li
/-- How many qubits a kind of gates acts on. -/
def cntK (k : Int) : Int := if k = 12 then 0 else if 9 ≤ k ∧ k ≤ 11 then 2 else 1
/-- A gate of a line's words. -/
def gateW (W : List Bs) : Option Li :=
  if allNum (W.drop 1) && (decide (0 < kindB (stx W 0)) && decide (((nums (W.drop 1)).length : Int) = cntK (kindB (stx W 0)))) then some (.gate (kindB (stx W 0)) (nums (W.drop 1))) else none
theorem gateW_some {W : List Bs} : (gateW W).isSome = (allNum (W.drop 1) && (decide (0 < kindB (stx W 0)) && decide (((nums (W.drop 1)).length : Int) = cntK (kindB (stx W 0))))) := by
  unfold gateW
  cases (allNum (W.drop 1) && (decide (0 < kindB (stx W 0)) && decide (((nums (W.drop 1)).length : Int) = cntK (kindB (stx W 0))))) <;> rfl
/-- A line of its words. -/
def lineW (W : List Bs) : Option Li :=
  if stx W 0 = wQ then (if W.length = 2 ∧ within (num2 (stx W 1)) 1 5 = true then some (.qb (num2 (stx W 1))) else none)
  else if stx W 0 = wR then (if W.length = 3 ∧ stx W 2 = wO ∧ within (num2 (stx W 1)) 2 99 = true then some (.rep (num2 (stx W 1))) else none)
  else if stx W 0 = wD then (if W.length = 4 ∧ stx W 3 = wO ∧ nameB (stx W 1) = true ∧ within (num2 (stx W 2)) 1 5 = true then some (.df (stx W 1) (num2 (stx W 2))) else none)
  else if stx W 0 = wC then (if 3 ≤ W.length ∧ nameB (stx W 1) = true ∧ allNum (W.drop 2) = true then some (.call (stx W 1) (nums (W.drop 2))) else none)
  else if stx W 0 = wE then (if W.length = 1 then some .cl else none)
  else gateW W
def lineB (l : Bs) : Option Li := lineW (splitC 32 l)
theorem strs_drop (L : List Bs) (k : Nat) : (strs L).drop k = strs (L.drop k) := by simp [strs, List.map_drop]
theorem splitC_le {c : UInt8} : ∀ {l : Bs}, ∀ s ∈ splitC c l, s.length ≤ l.length
  | [], s, h => by simp [splitC] at h; simp [h]
  | b :: r, s, h => by
    rw [splitC] at h
    split at h
    · rcases List.mem_cons.1 h with rfl | h
      · simp
      · have := splitC_le s h; simp; omega
    · split at h
      · simp at h; simp [h]
      · rename_i hd tl he
        rcases List.mem_cons.1 h with rfl | h
        · have := splitC_le hd (by rw [he]; simp); simp; omega
        · have := splitC_le s (by rw [he]; simp [h]); simp; omega
theorem IndexNames_spec {l : Bs} {w : World} (hg : Gl w) : Calls Tryz.prog 120 #[.slice (some ⟨0, 1, none⟩) 12 12, sv l] w (Post No w fun v _ => v = .int .i64 (findI (fun i => stx gnames (i + 1) == l) 12)) := by
  let zs : List ByteArray := (gnames.drop 1).map fun s => ⟨s.toArray⟩
  have hc : ∀ j, j < zs.length → w.cell? ⟨0, 1 + j, none⟩ = some (.string (zs.getD j ByteArray.empty)) := by
    intro j hj
    have hj12 : j < 12 := hj
    obtain ⟨_, A, c, he, _, _, h3⟩ := hg.nm
    injection he with e1
    obtain ⟨b, o, e2, _, hr⟩ := h3 (by decide)
    rw [e2] at e1
    injection e1 with e1
    injection e1 with e3 e4
    subst e3; subst e4
    have h1 := (preS (L := gnames) (o := 1 + j) (show 1 + j < 13 by omega)).1
    have h2 := hr (1 + j) _ h1
    rw [Nat.zero_add] at h2
    rw [h2]
    congr 1
    have : ∀ j : Fin 12, sv (stx gnames (1 + j)) = .string (((gnames.drop 1).map fun s => (⟨s.toArray⟩ : ByteArray)).getD j ByteArray.empty) := by
      intro j; match j with
      | 0 => rfl | 1 => rfl | 2 => rfl | 3 => rfl | 4 => rfl | 5 => rfl | 6 => rfl | 7 => rfl | 8 => rfl | 9 => rfl | 10 => rfl | 11 => rfl
    exact this ⟨j, hj12⟩
  refine (Tryz.slices_Index_string 0 1 12 12 zs ⟨l.toArray⟩ w (by decide) (by decide) hc).mono ?_
  rintro e w' ⟨he, rfl⟩
  refine ⟨_, [], he, St.ofSame, ?_⟩
  have hz : ∀ j, j < 12 → (zs.getD j ByteArray.empty = ⟨l.toArray⟩ ↔ stx gnames (j + 1) = l) := by
    intro j hj
    have : ∀ j : Fin 12, zs.getD j ByteArray.empty = ⟨(stx gnames (j + 1)).toArray⟩ := by
      intro j; match j with
      | 0 => rfl | 1 => rfl | 2 => rfl | 3 => rfl | 4 => rfl | 5 => rfl | 6 => rfl | 7 => rfl | 8 => rfl | 9 => rfl | 10 => rfl | 11 => rfl
    rw [this ⟨j, hj⟩]
    constructor
    · intro h; exact sv_inj (congrArg Value.string h)
    · intro h; rw [← h]
  congr 1
  by_cases hex : ∃ j, j < 12 ∧ stx gnames (j + 1) = l
  · obtain ⟨k, ⟨hk1, hk2⟩, hk3⟩ := least_ex hex
    have hlow : ∀ i, i < k → (stx gnames (i + 1) == l) = false := by
      intro i hi
      rw [beq_eq_false_iff_ne]
      intro h
      have := hk3 i ⟨by omega, h⟩
      omega
    rw [findI_hit hlow (by rw [beq_iff_eq]; exact hk2) hk1]
    exact Lib.idxOfS_hit zs 12 k _ hk1 (by decide) ((hz k hk1).2 hk2) fun j hj h => by
      have h2 := hlow j hj
      rw [beq_eq_false_iff_ne] at h2
      exact h2 ((hz j (by omega)).1 h)
  · rw [findI_none fun i hi => by rw [beq_eq_false_iff_ne]; exact fun h => hex ⟨i, hi, h⟩]
    exact Lib.idxOfS_miss zs 12 _ fun j hj h => hex ⟨j, hj, (hz j hj).1 h⟩
theorem Sl.drop1 {w : World} {A : Option Addr} {n c l : Nat} {L : List Bs} (h : Sl w (.slice A n c) 1 n (strs L)) (hl : l ≤ n) : Sl w (sliced A l n c 1) 1 (n - l) (strs (L.drop l)) := by
  have := h.slicedL hl
  rwa [Nat.mul_one, strs_drop] at this

set_option maxHeartbeats 1000000 in
set_option maxRecDepth 20000 in
theorem readGate_spec {va : Value} {n : Nat} {W : List Bs} {w : World} (hg : Gl w) (ha : Sl w va 1 n (strs W)) (h1 : 1 ≤ n) (hW : ∀ s ∈ W, s.length ≤ 281474976710656) (hn16 : n ≤ 16777216) : Calls Tryz.prog 107 #[va] w (Post No w fun v H => ∃ v1, v = .tuple #[.agg #[sv wG, .int .i64 (kindB (stx W 0)), sv [], .int .i64 0, v1], .bool (gateW W).isSome] ∧ H = [.own v1 3 1 (nums (W.drop 1)).length (ints (nums (W.drop 1)))]) := by
 have hWn := ha.lenS
 have hn := ha.le
 have hkr := kindB_range (stx W 0)
 have hkd : kindB (stx W 0) = findI (fun i => stx gnames (i + 1) == stx W 0) 12 + 1 := rfl
 obtain ⟨A, c, rfl, hnc, _⟩ := ha.form0
 refine enter (n := 40) (args := [.slice A n c]) Tryz.func107 rfl rfl (St.empty _ _) ?_
 refine .sr ?_
 refine .step rfl (.alloc (zs := [sv ([]), .int .i64 0, sv ([]), .int .i64 0, .slice none 0 0]) Tzero_95 fun b1 => ?_)
 refine .m ?_
 refine .done ?_
 refine .seq ?_
 obtain ⟨b, o, rfl⟩ := ha.opn (by omega)
 refine .draws (by kernel_rfl) (by kernel_rfl) ?_
 refine .u (.slice (some ⟨0, 1, none⟩) 12 12) (.sliceArrL (l := 1) (n := 13) Tarr_125 rfl rfl rfl (by decide) rfl rfl) ?_
 refine .m ?_
 refine .u (.pointer (some ⟨b, o, none⟩)) (.ix 0 Tsl_40) ?_
 refine .u (sv (stx W 0)) (.load1 Tone_9 rfl (Cells.arg (k := 0) ha rfl (by omega) (preS (by omega)))) ?_
 refine Lex.q (v := .int .i64 (findI (fun i => stx gnames (i + 1) == stx W 0) 12)) rfl (OpQ.call (vs := [.slice (some ⟨0, 1, none⟩) 12 12, sv (stx W 0)]) (caps := []) Tcall_120 rfl rfl (fun w hs => IndexNames_spec (hg.go hs))) ?_
 refine .u (.int .i64 (kindB (stx W 0))) (.add rfl rfl (by omega) (by omega) (by omega)) ?_
 refine .m ?_
 refine .done ?_
 refine .sr ?_
 refine .m ?_
 refine .done ?_
 refine .seq ?_
 refine .block ?_
 refine .sr ?_
 refine .m ?_
 refine .w (.bool ((kindB (stx W 0)) == 12)) ?_
 refine .m ?_
 refine .done ?_
 refine Run.cut (ι := Int) [5, 17, 18, 19] (fun ct => [(5, .int .i64 ct)]) (fun ct => [.blk b1 95 [sv ([]), .int .i64 0, sv ([]), .int .i64 0, .slice none 0 0]]) (fun ct => ct = cntK (kindB (stx W 0))) ?_ ?_
 ·refine .cond (b := (kindB (stx W 0)) == 12) rfl (fun h14 => ?_) (fun h14 => ?_)
  ·have p14 := h14; try simp only [bs] at p14
   refine .region ?_
   refine .m ?_
   refine .done ?_
   refine .goal ⟨(by repeat (first | exact Same.refl _ _ | refine Same.put rfl ?_ | refine Same.over rfl rfl ?_)), 0, ?_, ?_, ?_⟩
   ·unfold cntK; split <;> (try split) <;> omega
   ·exact ⟨(by first | rfl | (congr 1; omega) | simp [*]), trivial⟩
   ·exact ((Weak.refl _).trans (Some'.weak (.take (.nil _))))
  have p14 := h14; try simp only [bs] at p14
  refine .sr ?_
  refine .m ?_
  refine .c (.bool (decide (9 ≤ kindB (stx W 0) ∧ kindB (stx W 0) ≤ 11))) [.int .i64 (kindB (stx W 0))] Tcall_95 (fun w hs => isTwo_spec _ w) ?_
  refine .m ?_
  refine .done ?_
  refine .cond (b := decide (9 ≤ kindB (stx W 0) ∧ kindB (stx W 0) ≤ 11)) rfl (fun h17 => ?_) (fun h17 => ?_)
  ·have p17 := h17; try simp only [bs] at p17
   refine .region ?_
   refine .m ?_
   refine .done ?_
   refine .goal ⟨(by repeat (first | exact Same.refl _ _ | refine Same.put rfl ?_ | refine Same.over rfl rfl ?_)), 2, ?_, ?_, ?_⟩
   ·unfold cntK; split <;> (try split) <;> omega
   ·exact ⟨(by first | rfl | (congr 1; omega) | simp [*]), trivial⟩
   ·exact ((Weak.refl _).trans (Some'.weak (.take (.nil _))))
  have p17 := h17; try simp only [bs] at p17
  refine .skip ?_
  refine .goal ⟨(by repeat (first | exact Same.refl _ _ | refine Same.put rfl ?_ | refine Same.over rfl rfl ?_)), 1, ?_, ?_, ?_⟩
  ·unfold cntK; split <;> (try split) <;> omega
  ·exact ⟨(by first | rfl | (congr 1; omega) | simp [*]), trivial⟩
  ·exact ((Weak.refl _).trans (Some'.weak (.take (.nil _))))
 rintro ct fr hcut
 show Run _ _ (over _ _ [(5, .int .i64 ct)] fr) [.blk b1 95 [sv ([]), .int .i64 0, sv ([]), .int .i64 0, .slice none 0 0]]
 have hct := hcut
 refine .blockEnd ?_
 refine .sr ?_
 refine .m ?_
 refine .u ((sliced (some ⟨b, o, none⟩) 1 n c 1)) (.sliceL (l := 1) Tsl_40 rfl rfl (by decide) (by omega)) ?_
 refine .step rfl (.c [(sliced (some ⟨b, o, none⟩) 1 n c 1)] Tcall_106 (fun w hs => textNumbers_spec (hg.go hs) ((hs.sl ha).drop1 (by omega)) (fun s hs => hW s (List.mem_of_mem_drop hs)) (by omega)) ?_)
 rintro _ _ ⟨v1, rfl, rfl⟩
 show Run _ _ (putF _ _ _ (.tuple #[v1, .bool (allNum (W.drop 1))])) [.own v1 3 1 ((nums (W.drop 1)).length) (ints (nums (W.drop 1))), .blk b1 95 [sv ([]), .int .i64 0, sv ([]), .int .i64 0, .slice none 0 0]]
 refine .w (.tuple #[v1, .bool (allNum (W.drop 1))]) ?_
 refine .w v1 ?_
 refine .w (.bool (allNum (W.drop 1))) ?_
 refine .w v1 ?_
 refine .m ?_
 refine .dsr ?_
 refine .m ?_
 refine .w v1 ?_
 refine Run.formOwn (.head _) (fun A_v11 c_v11 hv hcapc_v11 hmaxc_v11 => ?_) (fun _ _ _ => ⟨nofun, nofun, nofun⟩)
 subst hv
 refine .u (.agg #[sv ([103, 97, 116, 101]), .int .i64 (kindB (stx W 0)), sv ([]), .int .i64 0, .slice A_v11 ((nums (W.drop 1)).length) c_v11]) (.build (cs := [sv ([103, 97, 116, 101]), .int .i64 (kindB (stx W 0)), sv ([]), .int .i64 0, .slice A_v11 ((nums (W.drop 1)).length) c_v11]) (by kernel_rfl)) ?_
 refine .m ?_
 rcases Bool.eq_false_or_eq_true (allNum (W.drop 1)) with h30 | h30
 ·refine .mb h30 ?_
  have p30 := h30; try simp only [bs] at p30
  refine .m ?_
  refine .w (.bool (decide ((kindB (stx W 0)) > 0))) ?_
  refine .w (.bool (decide ((kindB (stx W 0)) > 0))) ?_
  rcases Bool.eq_false_or_eq_true (decide ((kindB (stx W 0)) > 0)) with h34 | h34
  ·refine .mb h34 ?_
   have p34 := h34; try simp only [bs] at p34
   refine .m ?_
   refine .u (.int .i64 ((((nums (W.drop 1)).length : Nat) : Int))) (.len Tsl_75 rfl) ?_
   refine .m ?_
   refine .w (.bool (((((nums (W.drop 1)).length : Nat) : Int)) == ct)) ?_
   refine .w (.bool (((((nums (W.drop 1)).length : Nat) : Int)) == ct)) ?_
   refine .step rfl (.storeAll (us := [sv ([103, 97, 116, 101]), .int .i64 (kindB (stx W 0)), sv ([]), .int .i64 0, .slice A_v11 ((nums (W.drop 1)).length) c_v11]) Tsize_95 rfl rfl rfl (.there _ (.here _)) rfl ?_)
   refine .m ?_
   refine .done ?_
   refine .ret ?_
   refine ⟨.tuple #[.agg #[sv ([103, 97, 116, 101]), .int .i64 (kindB (stx W 0)), sv ([]), .int .i64 0, .slice A_v11 ((nums (W.drop 1)).length) c_v11], .bool (((((nums (W.drop 1)).length : Nat) : Int)) == ct)], [.own (.slice A_v11 ((nums (W.drop 1)).length) c_v11) 3 1 ((nums (W.drop 1)).length) (ints (nums (W.drop 1)))], Out.cell2 rfl Tagg_95 rfl (Cells.blk (.tail _ (.head _)) ⟨rfl, rfl, rfl, rfl, rfl, trivial⟩) rfl, (Some'.weak (.take (.nil _))), ?_⟩
   have hcn : cntK (kindB (stx W 0)) = ct := hct.symm
   refine ⟨_, ?_, rfl⟩
   rw [gateW_some, hcn]
   first | (rw [h30, h34]; rfl) | (rw [h30]; rfl)
  refine .mb h34 ?_
  have p34 := h34; try simp only [bs] at p34
  iterate 4 refine .pass rfl ?_
  refine .w (.bool false) ?_
  refine .step rfl (.storeAll (us := [sv ([103, 97, 116, 101]), .int .i64 (kindB (stx W 0)), sv ([]), .int .i64 0, .slice A_v11 ((nums (W.drop 1)).length) c_v11]) Tsize_95 rfl rfl rfl (.there _ (.here _)) rfl ?_)
  refine .m ?_
  refine .done ?_
  refine .ret ?_
  refine ⟨.tuple #[.agg #[sv ([103, 97, 116, 101]), .int .i64 (kindB (stx W 0)), sv ([]), .int .i64 0, .slice A_v11 ((nums (W.drop 1)).length) c_v11], .bool false], [.own (.slice A_v11 ((nums (W.drop 1)).length) c_v11) 3 1 ((nums (W.drop 1)).length) (ints (nums (W.drop 1)))], Out.cell2 rfl Tagg_95 rfl (Cells.blk (.tail _ (.head _)) ⟨rfl, rfl, rfl, rfl, rfl, trivial⟩) rfl, (Some'.weak (.take (.nil _))), ?_⟩
  have hcn : cntK (kindB (stx W 0)) = ct := hct.symm
  refine ⟨_, ?_, rfl⟩
  rw [gateW_some, hcn]
  first | (rw [h30, h34]; rfl) | (rw [h30]; rfl)
 refine .mb h30 ?_
 have p30 := h30; try simp only [bs] at p30
 iterate 2 refine .pass rfl ?_
 refine .w (.bool false) ?_
 refine .m ?_
 iterate 4 refine .pass rfl ?_
 refine .w (.bool false) ?_
 refine .step rfl (.storeAll (us := [sv ([103, 97, 116, 101]), .int .i64 (kindB (stx W 0)), sv ([]), .int .i64 0, .slice A_v11 ((nums (W.drop 1)).length) c_v11]) Tsize_95 rfl rfl rfl (.there _ (.here _)) rfl ?_)
 refine .m ?_
 refine .done ?_
 refine .ret ?_
 refine ⟨.tuple #[.agg #[sv ([103, 97, 116, 101]), .int .i64 (kindB (stx W 0)), sv ([]), .int .i64 0, .slice A_v11 ((nums (W.drop 1)).length) c_v11], .bool false], [.own (.slice A_v11 ((nums (W.drop 1)).length) c_v11) 3 1 ((nums (W.drop 1)).length) (ints (nums (W.drop 1)))], Out.cell2 rfl Tagg_95 rfl (Cells.blk (.tail _ (.head _)) ⟨rfl, rfl, rfl, rfl, rfl, trivial⟩) rfl, (Some'.weak (.take (.nil _))), ?_⟩
 have hcn : cntK (kindB (stx W 0)) = ct := hct.symm
 refine ⟨_, ?_, rfl⟩
 rw [gateW_some, hcn]
 (rw [h30]; rfl)

end Go.Proofs.YtgpkpopbajkklaaGreatDoor
/- Walks: the program reads a line of a circuit text. -/
set_option linter.unusedSimpArgs false
set_option linter.unusedVariables false
namespace Go.Proofs.YtgpkpopbajkklaaGreatDoor
open Go Go.RowKit
namespace TxfT
theorem Tagg_95 : aggOf Tryz.prog 95 = some 5 := by kernel_rfl
theorem Tcall_104 : callable Tryz.prog 104 = true := by kernel_rfl
theorem Tcall_105 : callable Tryz.prog 105 = true := by kernel_rfl
theorem Tcall_106 : callable Tryz.prog 106 = true := by kernel_rfl
theorem Tcall_107 : callable Tryz.prog 107 = true := by kernel_rfl
theorem Tcall_87 : callable Tryz.prog 87 = true := by kernel_rfl
theorem Tfo_95_2 : fieldOff Tryz.prog 95 2 = some 2 := by kernel_rfl
theorem Tfo_95_3 : fieldOff Tryz.prog 95 3 = some 3 := by kernel_rfl
theorem Tfo_95_4 : fieldOff Tryz.prog 95 4 = some 4 := by kernel_rfl
theorem Tone_9 : oneOf Tryz.prog 9 = true := by kernel_rfl
theorem Tsize_3 : (Tryz.prog.info? 3).map (·.size) = some 1 := by kernel_rfl
theorem Tsize_75 : (Tryz.prog.info? 75).map (·.size) = some 1 := by kernel_rfl
theorem Tsize_9 : (Tryz.prog.info? 9).map (·.size) = some 1 := by kernel_rfl
theorem Tsize_95 : (Tryz.prog.info? 95).map (·.size) = some 5 := by kernel_rfl
theorem Tsl_40 : sliceOf Tryz.prog 40 = some (9, 1, 16, [sv ([])]) := by kernel_rfl
theorem Tzero_95 : zeroOf Tryz.prog 95 = some [sv ([]), .int .i64 0, sv ([]), .int .i64 0, .slice none 0 0] := by kernel_rfl
end TxfT
open TxfT
/-- What is handed back of a line: whether it has a form, and then its parts. -/
def LnOk (o : Option Li) (b : Bool) (c0 : Bs) (c1 : Int) (c2 : Bs) (c3 : Int) (qs : List Int) : Prop := b = o.isSome ∧ ∀ x, o = some x → c0 = x.word ∧ c1 = x.kind ∧ c2 = x.nm ∧ c3 = x.num ∧ qs = x.qs
theorem LnOk.no {o : Option Li} {b : Bool} {c0 : Bs} {c1 : Int} {c2 : Bs} {c3 : Int} {qs : List Int} (h : o = none) (hb : b = false) : LnOk o b c0 c1 c2 c3 qs := ⟨by rw [h, hb]; rfl, fun x hx => by rw [h] at hx; cases hx⟩
theorem LnOk.yes {o : Option Li} {x : Li} {b : Bool} {c0 : Bs} {c1 : Int} {c2 : Bs} {c3 : Int} {qs : List Int} (h : o = some x) (hb : b = true) (h0 : c0 = x.word) (h1 : c1 = x.kind) (h2 : c2 = x.nm) (h3 : c3 = x.num) (h4 : qs = x.qs) : LnOk o b c0 c1 c2 c3 qs :=
  ⟨by rw [h, hb]; rfl, fun y hy => by rw [h] at hy; injection hy with hy; subst hy; exact ⟨h0, h1, h2, h3, h4⟩⟩
section
variable {W : List Bs}
theorem lineW_q (h : stx W 0 = wQ) : lineW W = if W.length = 2 ∧ within (num2 (stx W 1)) 1 5 = true then some (.qb (num2 (stx W 1))) else none := by rw [lineW, if_pos h]
theorem lineW_r (h : stx W 0 = wR) : lineW W = if W.length = 3 ∧ stx W 2 = wO ∧ within (num2 (stx W 1)) 2 99 = true then some (.rep (num2 (stx W 1))) else none := by
  rw [lineW, if_neg (by rw [h]; decide), if_pos h]
theorem lineW_d (h : stx W 0 = wD) : lineW W = if W.length = 4 ∧ stx W 3 = wO ∧ nameB (stx W 1) = true ∧ within (num2 (stx W 2)) 1 5 = true then some (.df (stx W 1) (num2 (stx W 2))) else none := by
  rw [lineW, if_neg (by rw [h]; decide), if_neg (by rw [h]; decide), if_pos h]
theorem lineW_c (h : stx W 0 = wC) : lineW W = if 3 ≤ W.length ∧ nameB (stx W 1) = true ∧ allNum (W.drop 2) = true then some (.call (stx W 1) (nums (W.drop 2))) else none := by
  rw [lineW, if_neg (by rw [h]; decide), if_neg (by rw [h]; decide), if_neg (by rw [h]; decide), if_pos h]
theorem lineW_e (h : stx W 0 = wE) : lineW W = if W.length = 1 then some .cl else none := by
  rw [lineW, if_neg (by rw [h]; decide), if_neg (by rw [h]; decide), if_neg (by rw [h]; decide), if_neg (by rw [h]; decide), if_pos h]
theorem lineW_g (h1 : ¬ stx W 0 = wQ) (h2 : ¬ stx W 0 = wR) (h3 : ¬ stx W 0 = wD) (h4 : ¬ stx W 0 = wC) (h5 : ¬ stx W 0 = wE) : lineW W = gateW W := by
  rw [lineW, if_neg h1, if_neg h2, if_neg h3, if_neg h4, if_neg h5]
theorem lnQ {n : Int} (h : stx W 0 = wQ) (hl : ((W.length : Nat) : Int) = 2) (hn : within (num2 (stx W 1)) 1 5 = true → n = num2 (stx W 1)) : LnOk (lineW W) (within (num2 (stx W 1)) 1 5) (stx W 0) 0 [] n [] := by
  cases hw : within (num2 (stx W 1)) 1 5 with
  | true => exact LnOk.yes (by rw [lineW_q h, if_pos ⟨by omega, hw⟩]) rfl (by rw [h]; rfl) rfl rfl (by rw [hn hw]; rfl) rfl
  | false => exact LnOk.no (by rw [lineW_q h, if_neg (by rw [hw]; simp)]) rfl
theorem lnQ0 {c0 : Bs} {c1 : Int} {c2 : Bs} {c3 : Int} {qs : List Int} (h : stx W 0 = wQ) (hl : ¬ ((W.length : Nat) : Int) = 2) : LnOk (lineW W) false c0 c1 c2 c3 qs :=
  LnOk.no (by rw [lineW_q h, if_neg (fun e => hl (by omega))]) rfl
theorem lnR {n : Int} (h : stx W 0 = wR) (hl : ((W.length : Nat) : Int) = 3) (ho : stx W 2 = wO) (hn : within (num2 (stx W 1)) 2 99 = true → n = num2 (stx W 1)) : LnOk (lineW W) (within (num2 (stx W 1)) 2 99) (stx W 0) 0 [] n [] := by
  cases hw : within (num2 (stx W 1)) 2 99 with
  | true => exact LnOk.yes (by rw [lineW_r h, if_pos ⟨by omega, ho, hw⟩]) rfl (by rw [h]; rfl) rfl rfl (by rw [hn hw]; rfl) rfl
  | false => exact LnOk.no (by rw [lineW_r h, if_neg (by rw [hw]; simp)]) rfl
theorem lnR0 {c0 : Bs} {c1 : Int} {c2 : Bs} {c3 : Int} {qs : List Int} (h : stx W 0 = wR) (hl : ¬ ((W.length : Nat) : Int) = 3 ∨ ¬ stx W 2 = wO) : LnOk (lineW W) false c0 c1 c2 c3 qs :=
  LnOk.no (by rw [lineW_r h, if_neg (fun e => hl.elim (fun k => k (by omega)) fun k => k e.2.1)]) rfl
theorem lnD {n : Int} (h : stx W 0 = wD) (hl : ((W.length : Nat) : Int) = 4) (ho : stx W 3 = wO) (hm : nameB (stx W 1) = true) (hn : within (num2 (stx W 2)) 1 5 = true → n = num2 (stx W 2)) : LnOk (lineW W) (within (num2 (stx W 2)) 1 5) (stx W 0) 0 (stx W 1) n [] := by
  cases hw : within (num2 (stx W 2)) 1 5 with
  | true => exact LnOk.yes (by rw [lineW_d h, if_pos ⟨by omega, ho, hm, hw⟩]) rfl (by rw [h]; rfl) rfl rfl (by rw [hn hw]; rfl) rfl
  | false => exact LnOk.no (by rw [lineW_d h, if_neg (by rw [hw]; simp)]) rfl
theorem lnD0 {c0 : Bs} {c1 : Int} {c2 : Bs} {c3 : Int} {qs : List Int} (h : stx W 0 = wD) (hl : ¬ ((W.length : Nat) : Int) = 4 ∨ ¬ stx W 3 = wO ∨ nameB (stx W 1) = false) : LnOk (lineW W) false c0 c1 c2 c3 qs :=
  LnOk.no (by rw [lineW_d h, if_neg (fun e => hl.elim (fun k => k (by omega)) fun k => k.elim (fun k => k e.2.1) fun k => by rw [k] at e; exact absurd e.2.2.1 (by decide))]) rfl
theorem lnC (h : stx W 0 = wC) (hl : 3 ≤ ((W.length : Nat) : Int)) (hm : nameB (stx W 1) = true) : LnOk (lineW W) (allNum (W.drop 2)) (stx W 0) 0 (stx W 1) 0 (nums (W.drop 2)) := by
  cases hw : allNum (W.drop 2) with
  | true => exact LnOk.yes (by rw [lineW_c h, if_pos ⟨by omega, hm, hw⟩]) rfl (by rw [h]; rfl) rfl rfl rfl rfl
  | false => exact LnOk.no (by rw [lineW_c h, if_neg (by rw [hw]; simp)]) rfl
theorem lnC0 {c0 : Bs} {c1 : Int} {c2 : Bs} {c3 : Int} {qs : List Int} (h : stx W 0 = wC) (hl : ¬ 3 ≤ ((W.length : Nat) : Int) ∨ nameB (stx W 1) = false) : LnOk (lineW W) false c0 c1 c2 c3 qs :=
  LnOk.no (by rw [lineW_c h, if_neg (fun e => hl.elim (fun k => k (by omega)) fun k => by rw [k] at e; exact absurd e.2.1 (by decide))]) rfl
theorem lnE (h : stx W 0 = wE) : LnOk (lineW W) (((W.length : Nat) : Int) == 1) (stx W 0) 0 [] 0 [] := by
  by_cases hw : W.length = 1
  · exact LnOk.yes (by rw [lineW_e h, if_pos hw]) (by rw [hw]; rfl) (by rw [h]; rfl) rfl rfl rfl rfl
  · exact LnOk.no (by rw [lineW_e h, if_neg hw]) (by rw [beq_eq_false_iff_ne]; omega)
theorem lnG (h1 : ¬ stx W 0 = wQ) (h2 : ¬ stx W 0 = wR) (h3 : ¬ stx W 0 = wD) (h4 : ¬ stx W 0 = wC) (h5 : ¬ stx W 0 = wE) : LnOk (lineW W) (gateW W).isSome wG (kindB (stx W 0)) [] 0 (nums (W.drop 1)) := by
  rw [lineW_g h1 h2 h3 h4 h5]
  refine ⟨rfl, fun x hx => ?_⟩
  unfold gateW at hx
  split at hx
  · injection hx with hx; subst hx; exact ⟨rfl, rfl, rfl, rfl, rfl⟩
  · cases hx
end
theorem Split_specW {l : Bs} {W : List Bs} (c : UInt8) (hW : splitC c l = W) {w : World} (hg : Gl w) (hl : l.length ≤ 4294967280) : Calls Tryz.prog 87 #[sv l, sv [c]] w
    (Post No w fun v H => ∃ b, v = .slice (some ⟨b, 0, none⟩) W.length W.length ∧ H = [.own v 9 1 W.length (strs W)]) := by
  subst hW; exact Split_spec c hg hl

theorem of_beq_false {a b : Int} (h : (a == b) = false) : ¬ a = b := by simpa using h
theorem of_beq_falseB {a b : Bs} (h : (a == b) = false) : ¬ a = b := by simpa using h

set_option maxHeartbeats 4000000 in
set_option maxRecDepth 20000 in
theorem readLine_spec {l : Bs} {w : World} (hg : Gl w) (hl : l.length ≤ 16777000) : Calls Tryz.prog 89 #[sv l] w (Post No w fun v H => ∃ c0 c1 c2 c3 v1 qs b, v = .tuple #[.agg #[sv c0, .int .i64 c1, sv c2, .int .i64 c3, v1], .bool b] ∧ H = [.own v1 3 1 qs.length (ints qs)] ∧ LnOk (lineB l) b c0 c1 c2 c3 qs) := by
 obtain ⟨W, hW⟩ : ∃ W, splitC 32 l = W := ⟨_, rfl⟩
 have hW1 : 1 ≤ W.length := by rw [← hW]; exact List.length_pos_iff.2 (splitC_ne 32 l)
 have hW16 : W.length ≤ 16777216 := by rw [← hW]; have := splitC_length 32 l; omega
 have hWl : ∀ s ∈ W, s.length ≤ 281474976710656 := fun s hs => by rw [← hW] at hs; have := splitC_le s hs; omega
 refine enter (n := 110) (args := [sv l]) Tryz.func89 rfl rfl (St.empty _ _) ?_
 refine .sr ?_
 refine .step rfl (.alloc (zs := [sv ([]), .int .i64 0, sv ([]), .int .i64 0, .slice none 0 0]) Tzero_95 fun b1 => ?_)
 refine .m ?_
 refine .dsr ?_
 refine .w (sv l) ?_
 refine .step rfl (.c [sv l, sv ([32])] Tcall_87 (fun w hs => Split_specW 32 hW (hg.go hs) (by omega)) ?_)
 rintro _ _ ⟨b0, rfl, rfl⟩
 show Run _ _ (putF _ _ _ (.slice (some ⟨b0, 0, none⟩) (W.length) (W.length))) [.own (.slice (some ⟨b0, 0, none⟩) (W.length) (W.length)) 9 1 (W.length) (strs W), .blk b1 95 [sv ([]), .int .i64 0, sv ([]), .int .i64 0, .slice none 0 0]]
 refine .m ?_
 refine .dsr ?_
 refine .m ?_
 refine .u (.pointer (some ⟨b0, 0, none⟩)) (.ix 0 Tsl_40) ?_
 refine .u (sv (stx W 0)) (.load1 Tone_9 rfl (Cells.own0 (.head _) (preS (by omega)))) ?_
 refine .u (.agg #[sv (stx W 0), .int .i64 0, sv ([]), .int .i64 0, .slice none 0 0]) (.build (cs := [sv (stx W 0), .int .i64 0, sv ([]), .int .i64 0, .slice none 0 0]) (by kernel_rfl)) ?_
 refine .step rfl (.alloc (zs := [sv ([]), .int .i64 0, sv ([]), .int .i64 0, .slice none 0 0]) Tzero_95 fun b2 => ?_)
 refine .step rfl (.storeAll (us := [sv (stx W 0), .int .i64 0, sv ([]), .int .i64 0, .slice none 0 0]) Tsize_95 rfl rfl rfl (.here _) rfl ?_)
 refine .dsr ?_
 refine .m ?_
 refine .done ?_
 refine .seq ?_
 refine .sr ?_
 refine .m ?_
 refine .u (.pointer (some ⟨b0, 0, none⟩)) (.ix 0 Tsl_40) ?_
 refine .u (sv (stx W 0)) (.load1 Tone_9 rfl (Cells.own0 (.tail _ (.head _)) (preS (by omega)))) ?_
 refine .done ?_
 refine .block ?_
 refine .sr ?_
 refine .u (.bool ((stx W 0) == ([113, 117, 98, 105, 116, 115]))) (.eqS rfl rfl) ?_
 refine .m ?_
 refine .done ?_
 refine .cond (b := (stx W 0) == ([113, 117, 98, 105, 116, 115])) rfl (fun h20 => ?_) (fun h20 => ?_)
 ·have p20 := h20; try simp only [bs] at p20
  refine .sr ?_
  refine .m ?_
  refine .u (.int .i64 (((W.length : Nat) : Int))) (.len Tsl_40 rfl) ?_
  refine .w (.bool ((((W.length : Nat) : Int)) == 2)) ?_
  refine .done ?_
  refine .cond (b := (((W.length : Nat) : Int)) == 2) rfl (fun h24 => ?_) (fun h24 => ?_)
  ·have p24 := h24; try simp only [bs] at p24
   refine .region ?_
   refine .m ?_
   refine .u (.pointer (some ⟨b0, 1, none⟩)) (.ix 1 Tsl_40) ?_
   refine .u (sv (stx W 1)) (.load1 Tone_9 rfl (Cells.own0 (.tail _ (.head _)) (preS (by omega)))) ?_
   refine .step rfl (.c [sv (stx W 1), .int .i64 1, .int .i64 5] Tcall_104 (fun w hs => numberIn_spec (hg.go hs) (stx_len hWl _) (by decide)) ?_)
   rintro _ _ ⟨n1, rfl, hn1, rfl⟩
   show Run _ _ (putF _ _ _ (.tuple #[.int .i64 n1, .bool (within (num2 (stx W 1)) 1 5)])) [.blk b2 95 [sv (stx W 0), .int .i64 0, sv ([]), .int .i64 0, .slice none 0 0], .own (.slice (some ⟨b0, 0, none⟩) (W.length) (W.length)) 9 1 (W.length) (strs W), .blk b1 95 [sv ([]), .int .i64 0, sv ([]), .int .i64 0, .slice none 0 0]]
   refine .w (.tuple #[.int .i64 n1, .bool (within (num2 (stx W 1)) 1 5)]) ?_
   refine .w (.int .i64 n1) ?_
   refine .w (.bool (within (num2 (stx W 1)) 1 5)) ?_
   refine .fa Tfo_95_3 ?_
   refine .step rfl (.store (us := [.int .i64 n1]) Tsize_3 rfl rfl rfl (.here _) (by simp only [List.length_cons, List.length_nil]; omega) ?_)
   show Run _ _ _ [.blk b2 95 [sv (stx W 0), .int .i64 0, sv ([]), .int .i64 n1, .slice none 0 0], .own (.slice (some ⟨b0, 0, none⟩) (W.length) (W.length)) 9 1 (W.length) (strs W), .blk b1 95 [sv ([]), .int .i64 0, sv ([]), .int .i64 0, .slice none 0 0]]
   refine .m ?_
   refine .done ?_
   refine .blockEnd ?_
   refine .sr ?_
   refine .u (.agg #[sv (stx W 0), .int .i64 0, sv ([]), .int .i64 n1, .slice none 0 0]) (.loadN (cs := [sv (stx W 0), .int .i64 0, sv ([]), .int .i64 n1, .slice none 0 0]) Tagg_95 rfl (Cells.blk (.head _) ⟨rfl, rfl, rfl, rfl, rfl, trivial⟩)) ?_
   refine .m ?_
   refine .step rfl (.storeAll (us := [sv (stx W 0), .int .i64 0, sv ([]), .int .i64 n1, .slice none 0 0]) Tsize_95 rfl rfl rfl (.there _ (.there _ (.here _))) rfl ?_)
   refine .m ?_
   refine .done ?_
   refine .ret ?_
   refine ⟨.tuple #[.agg #[sv (stx W 0), .int .i64 0, sv ([]), .int .i64 n1, .slice none 0 0], .bool (within (num2 (stx W 1)) 1 5)], [.own (.slice none 0 0) 3 1 0 (ints [])], Out.cell2 rfl Tagg_95 rfl (Cells.blk (.tail _ (.tail _ (.head _))) ⟨rfl, rfl, rfl, rfl, rfl, trivial⟩) rfl, ((Weak.nilOwn 3 1).trans (Some'.weak (.takeEq (by first | rfl | simp [ints]) (.nil _)))), ?_⟩
   refine ⟨_, _, _, _, _, [], _, rfl, rfl, ?_⟩
   rw [lineB, hW]
   first | exact lnQ p20 p24 hn1 | exact lnQ0 p20 p24
  have p24 := h24; try simp only [bs] at p24
  refine .skip ?_
  refine .blockEnd ?_
  refine .sr ?_
  refine .u (.agg #[sv (stx W 0), .int .i64 0, sv ([]), .int .i64 0, .slice none 0 0]) (.loadN (cs := [sv (stx W 0), .int .i64 0, sv ([]), .int .i64 0, .slice none 0 0]) Tagg_95 rfl (Cells.blk (.head _) ⟨rfl, rfl, rfl, rfl, rfl, trivial⟩)) ?_
  refine .m ?_
  refine .step rfl (.storeAll (us := [sv (stx W 0), .int .i64 0, sv ([]), .int .i64 0, .slice none 0 0]) Tsize_95 rfl rfl rfl (.there _ (.there _ (.here _))) rfl ?_)
  refine .m ?_
  refine .done ?_
  refine .ret ?_
  refine ⟨.tuple #[.agg #[sv (stx W 0), .int .i64 0, sv ([]), .int .i64 0, .slice none 0 0], .bool false], [.own (.slice none 0 0) 3 1 0 (ints [])], Out.cell2 rfl Tagg_95 rfl (Cells.blk (.tail _ (.tail _ (.head _))) ⟨rfl, rfl, rfl, rfl, rfl, trivial⟩) rfl, ((Weak.nilOwn 3 1).trans (Some'.weak (.takeEq (by first | rfl | simp [ints]) (.nil _)))), ?_⟩
  refine ⟨_, _, _, _, _, [], _, rfl, rfl, ?_⟩
  rw [lineB, hW]
  first | exact lnQ p20 p24 hn1 | exact lnQ0 p20 p24
 have p20 := h20; try simp only [bs] at p20
 refine .sr ?_
 refine .u (.bool ((stx W 0) == ([114, 101, 112, 101, 97, 116]))) (.eqS rfl rfl) ?_
 refine .m ?_
 refine .done ?_
 refine .cond (b := (stx W 0) == ([114, 101, 112, 101, 97, 116])) rfl (fun h33 => ?_) (fun h33 => ?_)
 ·have p33 := h33; try simp only [bs] at p33
  refine .sr ?_
  refine .m ?_
  refine .u (.int .i64 (((W.length : Nat) : Int))) (.len Tsl_40 rfl) ?_
  refine .w (.bool ((((W.length : Nat) : Int)) == 3)) ?_
  rcases Bool.eq_false_or_eq_true ((((W.length : Nat) : Int)) == 3) with h38 | h38
  ·refine .mb h38 ?_
   have p38 := h38; try simp only [bs] at p38
   refine .m ?_
   refine .u (.pointer (some ⟨b0, 2, none⟩)) (.ix 2 Tsl_40) ?_
   refine .u (sv (stx W 2)) (.load1 Tone_9 rfl (Cells.own0 (.tail _ (.head _)) (preS (by omega)))) ?_
   refine .u (.bool ((stx W 2) == ([123]))) (.eqS rfl rfl) ?_
   refine .w (.bool ((stx W 2) == ([123]))) ?_
   refine .done ?_
   refine .cond (b := (stx W 2) == ([123])) rfl (fun h43 => ?_) (fun h43 => ?_)
   ·have p43 := h43; try simp only [bs] at p43
    refine .region ?_
    refine .m ?_
    refine .u (.pointer (some ⟨b0, 1, none⟩)) (.ix 1 Tsl_40) ?_
    refine .u (sv (stx W 1)) (.load1 Tone_9 rfl (Cells.own0 (.tail _ (.head _)) (preS (by omega)))) ?_
    refine .step rfl (.c [sv (stx W 1), .int .i64 2, .int .i64 99] Tcall_104 (fun w hs => numberIn_spec (hg.go hs) (stx_len hWl _) (by decide)) ?_)
    rintro _ _ ⟨n1, rfl, hn1, rfl⟩
    show Run _ _ (putF _ _ _ (.tuple #[.int .i64 n1, .bool (within (num2 (stx W 1)) 2 99)])) [.blk b2 95 [sv (stx W 0), .int .i64 0, sv ([]), .int .i64 0, .slice none 0 0], .own (.slice (some ⟨b0, 0, none⟩) (W.length) (W.length)) 9 1 (W.length) (strs W), .blk b1 95 [sv ([]), .int .i64 0, sv ([]), .int .i64 0, .slice none 0 0]]
    refine .w (.tuple #[.int .i64 n1, .bool (within (num2 (stx W 1)) 2 99)]) ?_
    refine .w (.int .i64 n1) ?_
    refine .w (.bool (within (num2 (stx W 1)) 2 99)) ?_
    refine .fa Tfo_95_3 ?_
    refine .step rfl (.store (us := [.int .i64 n1]) Tsize_3 rfl rfl rfl (.here _) (by simp only [List.length_cons, List.length_nil]; omega) ?_)
    show Run _ _ _ [.blk b2 95 [sv (stx W 0), .int .i64 0, sv ([]), .int .i64 n1, .slice none 0 0], .own (.slice (some ⟨b0, 0, none⟩) (W.length) (W.length)) 9 1 (W.length) (strs W), .blk b1 95 [sv ([]), .int .i64 0, sv ([]), .int .i64 0, .slice none 0 0]]
    refine .m ?_
    refine .done ?_
    refine .blockEnd ?_
    refine .sr ?_
    refine .u (.agg #[sv (stx W 0), .int .i64 0, sv ([]), .int .i64 n1, .slice none 0 0]) (.loadN (cs := [sv (stx W 0), .int .i64 0, sv ([]), .int .i64 n1, .slice none 0 0]) Tagg_95 rfl (Cells.blk (.head _) ⟨rfl, rfl, rfl, rfl, rfl, trivial⟩)) ?_
    refine .m ?_
    refine .step rfl (.storeAll (us := [sv (stx W 0), .int .i64 0, sv ([]), .int .i64 n1, .slice none 0 0]) Tsize_95 rfl rfl rfl (.there _ (.there _ (.here _))) rfl ?_)
    refine .m ?_
    refine .done ?_
    refine .ret ?_
    refine ⟨.tuple #[.agg #[sv (stx W 0), .int .i64 0, sv ([]), .int .i64 n1, .slice none 0 0], .bool (within (num2 (stx W 1)) 2 99)], [.own (.slice none 0 0) 3 1 0 (ints [])], Out.cell2 rfl Tagg_95 rfl (Cells.blk (.tail _ (.tail _ (.head _))) ⟨rfl, rfl, rfl, rfl, rfl, trivial⟩) rfl, ((Weak.nilOwn 3 1).trans (Some'.weak (.takeEq (by first | rfl | simp [ints]) (.nil _)))), ?_⟩
    refine ⟨_, _, _, _, _, [], _, rfl, rfl, ?_⟩
    rw [lineB, hW]
    first | exact lnR p33 p38 p43 hn1 | exact lnR0 p33 (.inl (of_beq_false h38)) | exact lnR0 p33 (.inr p43)
   have p43 := h43; try simp only [bs] at p43
   refine .skip ?_
   refine .blockEnd ?_
   refine .sr ?_
   refine .u (.agg #[sv (stx W 0), .int .i64 0, sv ([]), .int .i64 0, .slice none 0 0]) (.loadN (cs := [sv (stx W 0), .int .i64 0, sv ([]), .int .i64 0, .slice none 0 0]) Tagg_95 rfl (Cells.blk (.head _) ⟨rfl, rfl, rfl, rfl, rfl, trivial⟩)) ?_
   refine .m ?_
   refine .step rfl (.storeAll (us := [sv (stx W 0), .int .i64 0, sv ([]), .int .i64 0, .slice none 0 0]) Tsize_95 rfl rfl rfl (.there _ (.there _ (.here _))) rfl ?_)
   refine .m ?_
   refine .done ?_
   refine .ret ?_
   refine ⟨.tuple #[.agg #[sv (stx W 0), .int .i64 0, sv ([]), .int .i64 0, .slice none 0 0], .bool false], [.own (.slice none 0 0) 3 1 0 (ints [])], Out.cell2 rfl Tagg_95 rfl (Cells.blk (.tail _ (.tail _ (.head _))) ⟨rfl, rfl, rfl, rfl, rfl, trivial⟩) rfl, ((Weak.nilOwn 3 1).trans (Some'.weak (.takeEq (by first | rfl | simp [ints]) (.nil _)))), ?_⟩
   refine ⟨_, _, _, _, _, [], _, rfl, rfl, ?_⟩
   rw [lineB, hW]
   first | exact lnR p33 p38 p43 hn1 | exact lnR0 p33 (.inl (of_beq_false h38)) | exact lnR0 p33 (.inr p43)
  refine .mb h38 ?_
  have p38 := h38; try simp only [bs] at p38
  iterate 4 refine .pass rfl ?_
  refine .w (.bool false) ?_
  refine .done ?_
  refine .cond (b := false) rfl (fun h => nomatch h) (fun _ => ?_)
  refine .skip ?_
  refine .blockEnd ?_
  refine .sr ?_
  refine .u (.agg #[sv (stx W 0), .int .i64 0, sv ([]), .int .i64 0, .slice none 0 0]) (.loadN (cs := [sv (stx W 0), .int .i64 0, sv ([]), .int .i64 0, .slice none 0 0]) Tagg_95 rfl (Cells.blk (.head _) ⟨rfl, rfl, rfl, rfl, rfl, trivial⟩)) ?_
  refine .m ?_
  refine .step rfl (.storeAll (us := [sv (stx W 0), .int .i64 0, sv ([]), .int .i64 0, .slice none 0 0]) Tsize_95 rfl rfl rfl (.there _ (.there _ (.here _))) rfl ?_)
  refine .m ?_
  refine .done ?_
  refine .ret ?_
  refine ⟨.tuple #[.agg #[sv (stx W 0), .int .i64 0, sv ([]), .int .i64 0, .slice none 0 0], .bool false], [.own (.slice none 0 0) 3 1 0 (ints [])], Out.cell2 rfl Tagg_95 rfl (Cells.blk (.tail _ (.tail _ (.head _))) ⟨rfl, rfl, rfl, rfl, rfl, trivial⟩) rfl, ((Weak.nilOwn 3 1).trans (Some'.weak (.takeEq (by first | rfl | simp [ints]) (.nil _)))), ?_⟩
  refine ⟨_, _, _, _, _, [], _, rfl, rfl, ?_⟩
  rw [lineB, hW]
  exact lnR0 p33 (.inl (of_beq_false h38))
 have p33 := h33; try simp only [bs] at p33
 refine .sr ?_
 refine .u (.bool ((stx W 0) == ([100, 101, 102]))) (.eqS rfl rfl) ?_
 refine .m ?_
 refine .done ?_
 refine .cond (b := (stx W 0) == ([100, 101, 102])) rfl (fun h52 => ?_) (fun h52 => ?_)
 ·have p52 := h52; try simp only [bs] at p52
  refine .sr ?_
  refine .m ?_
  refine .u (.int .i64 (((W.length : Nat) : Int))) (.len Tsl_40 rfl) ?_
  refine .w (.bool ((((W.length : Nat) : Int)) == 4)) ?_
  rcases Bool.eq_false_or_eq_true ((((W.length : Nat) : Int)) == 4) with h57 | h57
  ·refine .mb h57 ?_
   have p57 := h57; try simp only [bs] at p57
   refine .m ?_
   refine .u (.pointer (some ⟨b0, 3, none⟩)) (.ix 3 Tsl_40) ?_
   refine .u (sv (stx W 3)) (.load1 Tone_9 rfl (Cells.own0 (.tail _ (.head _)) (preS (by omega)))) ?_
   refine .u (.bool ((stx W 3) == ([123]))) (.eqS rfl rfl) ?_
   refine .w (.bool ((stx W 3) == ([123]))) ?_
   rcases Bool.eq_false_or_eq_true ((stx W 3) == ([123])) with h63 | h63
   ·refine .mb h63 ?_
    have p63 := h63; try simp only [bs] at p63
    refine .m ?_
    refine .u (.pointer (some ⟨b0, 1, none⟩)) (.ix 1 Tsl_40) ?_
    refine .u (sv (stx W 1)) (.load1 Tone_9 rfl (Cells.own0 (.tail _ (.head _)) (preS (by omega)))) ?_
    refine .c (.bool (nameB (stx W 1))) [sv (stx W 1)] Tcall_105 (fun w hs => IsSubcircuitName_spec (by have := stx_len hWl 1; omega) w) ?_
    refine .w (.bool (nameB (stx W 1))) ?_
    refine .done ?_
    refine .cond (b := nameB (stx W 1)) rfl (fun h68 => ?_) (fun h68 => ?_)
    ·have p68 := h68; try simp only [bs] at p68
     refine .sr ?_
     refine .m ?_
     refine .u (.pointer (some ⟨b0, 1, none⟩)) (.ix 1 Tsl_40) ?_
     refine .u (sv (stx W 1)) (.load1 Tone_9 rfl (Cells.own0 (.tail _ (.head _)) (preS (by omega)))) ?_
     refine .fa Tfo_95_2 ?_
     refine .step rfl (.store (us := [sv (stx W 1)]) Tsize_9 rfl rfl rfl (.here _) (by simp only [List.length_cons, List.length_nil]; omega) ?_)
     show Run _ _ _ [.blk b2 95 [sv (stx W 0), .int .i64 0, sv (stx W 1), .int .i64 0, .slice none 0 0], .own (.slice (some ⟨b0, 0, none⟩) (W.length) (W.length)) 9 1 (W.length) (strs W), .blk b1 95 [sv ([]), .int .i64 0, sv ([]), .int .i64 0, .slice none 0 0]]
     refine .dr ?_
     refine .m ?_
     refine .u (.pointer (some ⟨b0, 2, none⟩)) (.ix 2 Tsl_40) ?_
     refine .u (sv (stx W 2)) (.load1 Tone_9 rfl (Cells.own0 (.tail _ (.head _)) (preS (by omega)))) ?_
     refine .step rfl (.c [sv (stx W 2), .int .i64 1, .int .i64 5] Tcall_104 (fun w hs => numberIn_spec (hg.go hs) (stx_len hWl _) (by decide)) ?_)
     rintro _ _ ⟨n1, rfl, hn1, rfl⟩
     show Run _ _ (putF _ _ _ (.tuple #[.int .i64 n1, .bool (within (num2 (stx W 2)) 1 5)])) [.blk b2 95 [sv (stx W 0), .int .i64 0, sv (stx W 1), .int .i64 0, .slice none 0 0], .own (.slice (some ⟨b0, 0, none⟩) (W.length) (W.length)) 9 1 (W.length) (strs W), .blk b1 95 [sv ([]), .int .i64 0, sv ([]), .int .i64 0, .slice none 0 0]]
     refine .w (.tuple #[.int .i64 n1, .bool (within (num2 (stx W 2)) 1 5)]) ?_
     refine .w (.int .i64 n1) ?_
     refine .w (.bool (within (num2 (stx W 2)) 1 5)) ?_
     refine .fa Tfo_95_3 ?_
     refine .step rfl (.store (us := [.int .i64 n1]) Tsize_3 rfl rfl rfl (.here _) (by simp only [List.length_cons, List.length_nil]; omega) ?_)
     show Run _ _ _ [.blk b2 95 [sv (stx W 0), .int .i64 0, sv (stx W 1), .int .i64 n1, .slice none 0 0], .own (.slice (some ⟨b0, 0, none⟩) (W.length) (W.length)) 9 1 (W.length) (strs W), .blk b1 95 [sv ([]), .int .i64 0, sv ([]), .int .i64 0, .slice none 0 0]]
     refine .m ?_
     refine .done ?_
     refine .blockEnd ?_
     refine .sr ?_
     refine .u (.agg #[sv (stx W 0), .int .i64 0, sv (stx W 1), .int .i64 n1, .slice none 0 0]) (.loadN (cs := [sv (stx W 0), .int .i64 0, sv (stx W 1), .int .i64 n1, .slice none 0 0]) Tagg_95 rfl (Cells.blk (.head _) ⟨rfl, rfl, rfl, rfl, rfl, trivial⟩)) ?_
     refine .m ?_
     refine .step rfl (.storeAll (us := [sv (stx W 0), .int .i64 0, sv (stx W 1), .int .i64 n1, .slice none 0 0]) Tsize_95 rfl rfl rfl (.there _ (.there _ (.here _))) rfl ?_)
     refine .m ?_
     refine .done ?_
     refine .ret ?_
     refine ⟨.tuple #[.agg #[sv (stx W 0), .int .i64 0, sv (stx W 1), .int .i64 n1, .slice none 0 0], .bool (within (num2 (stx W 2)) 1 5)], [.own (.slice none 0 0) 3 1 0 (ints [])], Out.cell2 rfl Tagg_95 rfl (Cells.blk (.tail _ (.tail _ (.head _))) ⟨rfl, rfl, rfl, rfl, rfl, trivial⟩) rfl, ((Weak.nilOwn 3 1).trans (Some'.weak (.takeEq (by first | rfl | simp [ints]) (.nil _)))), ?_⟩
     refine ⟨_, _, _, _, _, [], _, rfl, rfl, ?_⟩
     rw [lineB, hW]
     first | exact lnD p52 p57 p63 p68 hn1 | exact lnD0 p52 (.inl (of_beq_false h57)) | exact lnD0 p52 (.inr (.inl (of_beq_falseB h63))) | exact lnD0 p52 (.inr (.inr h68))
    have p68 := h68; try simp only [bs] at p68
    refine .skip ?_
    refine .blockEnd ?_
    refine .sr ?_
    refine .u (.agg #[sv (stx W 0), .int .i64 0, sv ([]), .int .i64 0, .slice none 0 0]) (.loadN (cs := [sv (stx W 0), .int .i64 0, sv ([]), .int .i64 0, .slice none 0 0]) Tagg_95 rfl (Cells.blk (.head _) ⟨rfl, rfl, rfl, rfl, rfl, trivial⟩)) ?_
    refine .m ?_
    refine .step rfl (.storeAll (us := [sv (stx W 0), .int .i64 0, sv ([]), .int .i64 0, .slice none 0 0]) Tsize_95 rfl rfl rfl (.there _ (.there _ (.here _))) rfl ?_)
    refine .m ?_
    refine .done ?_
    refine .ret ?_
    refine ⟨.tuple #[.agg #[sv (stx W 0), .int .i64 0, sv ([]), .int .i64 0, .slice none 0 0], .bool false], [.own (.slice none 0 0) 3 1 0 (ints [])], Out.cell2 rfl Tagg_95 rfl (Cells.blk (.tail _ (.tail _ (.head _))) ⟨rfl, rfl, rfl, rfl, rfl, trivial⟩) rfl, ((Weak.nilOwn 3 1).trans (Some'.weak (.takeEq (by first | rfl | simp [ints]) (.nil _)))), ?_⟩
    refine ⟨_, _, _, _, _, [], _, rfl, rfl, ?_⟩
    rw [lineB, hW]
    first | exact lnD p52 p57 p63 p68 hn1 | exact lnD0 p52 (.inl (of_beq_false h57)) | exact lnD0 p52 (.inr (.inl (of_beq_falseB h63))) | exact lnD0 p52 (.inr (.inr h68))
   refine .mb h63 ?_
   have p63 := h63; try simp only [bs] at p63
   iterate 4 refine .pass rfl ?_
   refine .w (.bool false) ?_
   refine .done ?_
   refine .cond (b := false) rfl (fun h => nomatch h) (fun _ => ?_)
   refine .skip ?_
   refine .blockEnd ?_
   refine .sr ?_
   refine .u (.agg #[sv (stx W 0), .int .i64 0, sv ([]), .int .i64 0, .slice none 0 0]) (.loadN (cs := [sv (stx W 0), .int .i64 0, sv ([]), .int .i64 0, .slice none 0 0]) Tagg_95 rfl (Cells.blk (.head _) ⟨rfl, rfl, rfl, rfl, rfl, trivial⟩)) ?_
   refine .m ?_
   refine .step rfl (.storeAll (us := [sv (stx W 0), .int .i64 0, sv ([]), .int .i64 0, .slice none 0 0]) Tsize_95 rfl rfl rfl (.there _ (.there _ (.here _))) rfl ?_)
   refine .m ?_
   refine .done ?_
   refine .ret ?_
   refine ⟨.tuple #[.agg #[sv (stx W 0), .int .i64 0, sv ([]), .int .i64 0, .slice none 0 0], .bool false], [.own (.slice none 0 0) 3 1 0 (ints [])], Out.cell2 rfl Tagg_95 rfl (Cells.blk (.tail _ (.tail _ (.head _))) ⟨rfl, rfl, rfl, rfl, rfl, trivial⟩) rfl, ((Weak.nilOwn 3 1).trans (Some'.weak (.takeEq (by first | rfl | simp [ints]) (.nil _)))), ?_⟩
   refine ⟨_, _, _, _, _, [], _, rfl, rfl, ?_⟩
   rw [lineB, hW]
   first | exact lnD0 p52 (.inl (of_beq_false h57)) | exact lnD0 p52 (.inr (.inl (of_beq_falseB h63)))
  refine .mb h57 ?_
  have p57 := h57; try simp only [bs] at p57
  iterate 4 refine .pass rfl ?_
  refine .w (.bool false) ?_
  refine .m ?_
  iterate 4 refine .pass rfl ?_
  refine .w (.bool false) ?_
  refine .done ?_
  refine .cond (b := false) rfl (fun h => nomatch h) (fun _ => ?_)
  refine .skip ?_
  refine .blockEnd ?_
  refine .sr ?_
  refine .u (.agg #[sv (stx W 0), .int .i64 0, sv ([]), .int .i64 0, .slice none 0 0]) (.loadN (cs := [sv (stx W 0), .int .i64 0, sv ([]), .int .i64 0, .slice none 0 0]) Tagg_95 rfl (Cells.blk (.head _) ⟨rfl, rfl, rfl, rfl, rfl, trivial⟩)) ?_
  refine .m ?_
  refine .step rfl (.storeAll (us := [sv (stx W 0), .int .i64 0, sv ([]), .int .i64 0, .slice none 0 0]) Tsize_95 rfl rfl rfl (.there _ (.there _ (.here _))) rfl ?_)
  refine .m ?_
  refine .done ?_
  refine .ret ?_
  refine ⟨.tuple #[.agg #[sv (stx W 0), .int .i64 0, sv ([]), .int .i64 0, .slice none 0 0], .bool false], [.own (.slice none 0 0) 3 1 0 (ints [])], Out.cell2 rfl Tagg_95 rfl (Cells.blk (.tail _ (.tail _ (.head _))) ⟨rfl, rfl, rfl, rfl, rfl, trivial⟩) rfl, ((Weak.nilOwn 3 1).trans (Some'.weak (.takeEq (by first | rfl | simp [ints]) (.nil _)))), ?_⟩
  refine ⟨_, _, _, _, _, [], _, rfl, rfl, ?_⟩
  rw [lineB, hW]
  exact lnD0 p52 (.inl (of_beq_false h57))
 have p52 := h52; try simp only [bs] at p52
 refine .sr ?_
 refine .u (.bool ((stx W 0) == ([99, 97, 108, 108]))) (.eqS rfl rfl) ?_
 refine .m ?_
 refine .done ?_
 refine .cond (b := (stx W 0) == ([99, 97, 108, 108])) rfl (fun h81 => ?_) (fun h81 => ?_)
 ·have p81 := h81; try simp only [bs] at p81
  refine .sr ?_
  refine .m ?_
  refine .u (.int .i64 (((W.length : Nat) : Int))) (.len Tsl_40 rfl) ?_
  refine .w (.bool (decide ((((W.length : Nat) : Int)) ≥ 3))) ?_
  rcases Bool.eq_false_or_eq_true (decide ((((W.length : Nat) : Int)) ≥ 3)) with h86 | h86
  ·refine .mb h86 ?_
   have p86 := h86; try simp only [bs] at p86
   refine .m ?_
   refine .u (.pointer (some ⟨b0, 1, none⟩)) (.ix 1 Tsl_40) ?_
   refine .u (sv (stx W 1)) (.load1 Tone_9 rfl (Cells.own0 (.tail _ (.head _)) (preS (by omega)))) ?_
   refine .c (.bool (nameB (stx W 1))) [sv (stx W 1)] Tcall_105 (fun w hs => IsSubcircuitName_spec (by have := stx_len hWl 1; omega) w) ?_
   refine .w (.bool (nameB (stx W 1))) ?_
   refine .done ?_
   refine .cond (b := nameB (stx W 1)) rfl (fun h91 => ?_) (fun h91 => ?_)
   ·have p91 := h91; try simp only [bs] at p91
    refine .sr ?_
    refine .m ?_
    refine .u (.pointer (some ⟨b0, 1, none⟩)) (.ix 1 Tsl_40) ?_
    refine .u (sv (stx W 1)) (.load1 Tone_9 rfl (Cells.own0 (.tail _ (.head _)) (preS (by omega)))) ?_
    refine .fa Tfo_95_2 ?_
    refine .step rfl (.store (us := [sv (stx W 1)]) Tsize_9 rfl rfl rfl (.here _) (by simp only [List.length_cons, List.length_nil]; omega) ?_)
    show Run _ _ _ [.blk b2 95 [sv (stx W 0), .int .i64 0, sv (stx W 1), .int .i64 0, .slice none 0 0], .own (.slice (some ⟨b0, 0, none⟩) (W.length) (W.length)) 9 1 (W.length) (strs W), .blk b1 95 [sv ([]), .int .i64 0, sv ([]), .int .i64 0, .slice none 0 0]]
    refine .dr ?_
    refine .m ?_
    refine .u ((sliced (some ⟨b0, 0, none⟩) 2 (W.length) (W.length) 1)) (.sliceL (l := 2) Tsl_40 rfl rfl (by decide) (by omega)) ?_
    refine .step rfl (.c [(sliced (some ⟨b0, 0, none⟩) 2 (W.length) (W.length) 1)] Tcall_106 (fun w hs => textNumbers_spec (hg.go hs) ((hs.slOwn (.tail _ (.head _))).drop1 (by omega)) (fun s hs => hWl s (List.mem_of_mem_drop hs)) (by omega)) ?_)
    rintro _ _ ⟨v1, rfl, rfl⟩
    show Run _ _ (putF _ _ _ (.tuple #[v1, .bool (allNum (W.drop 2))])) [.own v1 3 1 ((nums (W.drop 2)).length) (ints (nums (W.drop 2))), .blk b2 95 [sv (stx W 0), .int .i64 0, sv (stx W 1), .int .i64 0, .slice none 0 0], .own (.slice (some ⟨b0, 0, none⟩) (W.length) (W.length)) 9 1 (W.length) (strs W), .blk b1 95 [sv ([]), .int .i64 0, sv ([]), .int .i64 0, .slice none 0 0]]
    refine .w (.tuple #[v1, .bool (allNum (W.drop 2))]) ?_
    refine .w v1 ?_
    refine .w (.bool (allNum (W.drop 2))) ?_
    refine .fa Tfo_95_4 ?_
    refine Run.formOwn (.head _) (fun A_v11 c_v11 hv hcapc_v11 hmaxc_v11 => ?_) (fun _ _ _ => ⟨nofun, nofun, nofun⟩)
    subst hv
    refine .step rfl (.store (us := [.slice A_v11 ((nums (W.drop 2)).length) c_v11]) Tsize_75 rfl rfl rfl (.there _ (.here _)) (by simp only [List.length_cons, List.length_nil]; omega) ?_)
    show Run _ _ _ [.own (.slice A_v11 ((nums (W.drop 2)).length) c_v11) 3 1 ((nums (W.drop 2)).length) (ints (nums (W.drop 2))), .blk b2 95 [sv (stx W 0), .int .i64 0, sv (stx W 1), .int .i64 0, .slice A_v11 ((nums (W.drop 2)).length) c_v11], .own (.slice (some ⟨b0, 0, none⟩) (W.length) (W.length)) 9 1 (W.length) (strs W), .blk b1 95 [sv ([]), .int .i64 0, sv ([]), .int .i64 0, .slice none 0 0]]
    refine .m ?_
    refine .done ?_
    refine .blockEnd ?_
    refine .sr ?_
    refine .u (.agg #[sv (stx W 0), .int .i64 0, sv (stx W 1), .int .i64 0, .slice A_v11 ((nums (W.drop 2)).length) c_v11]) (.loadN (cs := [sv (stx W 0), .int .i64 0, sv (stx W 1), .int .i64 0, .slice A_v11 ((nums (W.drop 2)).length) c_v11]) Tagg_95 rfl (Cells.blk (.tail _ (.head _)) ⟨rfl, rfl, rfl, rfl, rfl, trivial⟩)) ?_
    refine .m ?_
    refine .step rfl (.storeAll (us := [sv (stx W 0), .int .i64 0, sv (stx W 1), .int .i64 0, .slice A_v11 ((nums (W.drop 2)).length) c_v11]) Tsize_95 rfl rfl rfl (.there _ (.there _ (.there _ (.here _)))) rfl ?_)
    refine .m ?_
    refine .done ?_
    refine .ret ?_
    refine ⟨.tuple #[.agg #[sv (stx W 0), .int .i64 0, sv (stx W 1), .int .i64 0, .slice A_v11 ((nums (W.drop 2)).length) c_v11], .bool (allNum (W.drop 2))], [.own (.slice A_v11 ((nums (W.drop 2)).length) c_v11) 3 1 ((nums (W.drop 2)).length) (ints (nums (W.drop 2)))], Out.cell2 rfl Tagg_95 rfl (Cells.blk (.tail _ (.tail _ (.tail _ (.head _)))) ⟨rfl, rfl, rfl, rfl, rfl, trivial⟩) rfl, (Some'.weak (.take (.nil _))), ?_⟩
    refine ⟨_, _, _, _, _, (nums (W.drop 2)), _, rfl, rfl, ?_⟩
    rw [lineB, hW]
    first | exact lnC p81 p86 p91 | exact lnC0 p81 (.inl (of_decide_eq_false h86)) | exact lnC0 p81 (.inr h91)
   have p91 := h91; try simp only [bs] at p91
   refine .skip ?_
   refine .blockEnd ?_
   refine .sr ?_
   refine .u (.agg #[sv (stx W 0), .int .i64 0, sv ([]), .int .i64 0, .slice none 0 0]) (.loadN (cs := [sv (stx W 0), .int .i64 0, sv ([]), .int .i64 0, .slice none 0 0]) Tagg_95 rfl (Cells.blk (.head _) ⟨rfl, rfl, rfl, rfl, rfl, trivial⟩)) ?_
   refine .m ?_
   refine .step rfl (.storeAll (us := [sv (stx W 0), .int .i64 0, sv ([]), .int .i64 0, .slice none 0 0]) Tsize_95 rfl rfl rfl (.there _ (.there _ (.here _))) rfl ?_)
   refine .m ?_
   refine .done ?_
   refine .ret ?_
   refine ⟨.tuple #[.agg #[sv (stx W 0), .int .i64 0, sv ([]), .int .i64 0, .slice none 0 0], .bool false], [.own (.slice none 0 0) 3 1 0 (ints [])], Out.cell2 rfl Tagg_95 rfl (Cells.blk (.tail _ (.tail _ (.head _))) ⟨rfl, rfl, rfl, rfl, rfl, trivial⟩) rfl, ((Weak.nilOwn 3 1).trans (Some'.weak (.takeEq (by first | rfl | simp [ints]) (.nil _)))), ?_⟩
   refine ⟨_, _, _, _, _, [], _, rfl, rfl, ?_⟩
   rw [lineB, hW]
   first | exact lnC p81 p86 p91 | exact lnC0 p81 (.inl (of_decide_eq_false h86)) | exact lnC0 p81 (.inr h91)
  refine .mb h86 ?_
  have p86 := h86; try simp only [bs] at p86
  iterate 4 refine .pass rfl ?_
  refine .w (.bool false) ?_
  refine .done ?_
  refine .cond (b := false) rfl (fun h => nomatch h) (fun _ => ?_)
  refine .skip ?_
  refine .blockEnd ?_
  refine .sr ?_
  refine .u (.agg #[sv (stx W 0), .int .i64 0, sv ([]), .int .i64 0, .slice none 0 0]) (.loadN (cs := [sv (stx W 0), .int .i64 0, sv ([]), .int .i64 0, .slice none 0 0]) Tagg_95 rfl (Cells.blk (.head _) ⟨rfl, rfl, rfl, rfl, rfl, trivial⟩)) ?_
  refine .m ?_
  refine .step rfl (.storeAll (us := [sv (stx W 0), .int .i64 0, sv ([]), .int .i64 0, .slice none 0 0]) Tsize_95 rfl rfl rfl (.there _ (.there _ (.here _))) rfl ?_)
  refine .m ?_
  refine .done ?_
  refine .ret ?_
  refine ⟨.tuple #[.agg #[sv (stx W 0), .int .i64 0, sv ([]), .int .i64 0, .slice none 0 0], .bool false], [.own (.slice none 0 0) 3 1 0 (ints [])], Out.cell2 rfl Tagg_95 rfl (Cells.blk (.tail _ (.tail _ (.head _))) ⟨rfl, rfl, rfl, rfl, rfl, trivial⟩) rfl, ((Weak.nilOwn 3 1).trans (Some'.weak (.takeEq (by first | rfl | simp [ints]) (.nil _)))), ?_⟩
  refine ⟨_, _, _, _, _, [], _, rfl, rfl, ?_⟩
  rw [lineB, hW]
  exact lnC0 p81 (.inl (of_decide_eq_false h86))
 have p81 := h81; try simp only [bs] at p81
 refine .sr ?_
 refine .u (.bool ((stx W 0) == ([125]))) (.eqS rfl rfl) ?_
 refine .m ?_
 refine .done ?_
 refine .cond (b := (stx W 0) == ([125])) rfl (fun h103 => ?_) (fun h103 => ?_)
 ·have p103 := h103; try simp only [bs] at p103
  refine .region ?_
  refine .m ?_
  refine .u (.int .i64 (((W.length : Nat) : Int))) (.len Tsl_40 rfl) ?_
  refine .w (.bool ((((W.length : Nat) : Int)) == 1)) ?_
  refine .m ?_
  refine .done ?_
  refine .blockEnd ?_
  refine .sr ?_
  refine .u (.agg #[sv (stx W 0), .int .i64 0, sv ([]), .int .i64 0, .slice none 0 0]) (.loadN (cs := [sv (stx W 0), .int .i64 0, sv ([]), .int .i64 0, .slice none 0 0]) Tagg_95 rfl (Cells.blk (.head _) ⟨rfl, rfl, rfl, rfl, rfl, trivial⟩)) ?_
  refine .m ?_
  refine .step rfl (.storeAll (us := [sv (stx W 0), .int .i64 0, sv ([]), .int .i64 0, .slice none 0 0]) Tsize_95 rfl rfl rfl (.there _ (.there _ (.here _))) rfl ?_)
  refine .m ?_
  refine .done ?_
  refine .ret ?_
  refine ⟨.tuple #[.agg #[sv (stx W 0), .int .i64 0, sv ([]), .int .i64 0, .slice none 0 0], .bool ((((W.length : Nat) : Int)) == 1)], [.own (.slice none 0 0) 3 1 0 (ints [])], Out.cell2 rfl Tagg_95 rfl (Cells.blk (.tail _ (.tail _ (.head _))) ⟨rfl, rfl, rfl, rfl, rfl, trivial⟩) rfl, ((Weak.nilOwn 3 1).trans (Some'.weak (.takeEq (by first | rfl | simp [ints]) (.nil _)))), ?_⟩
  refine ⟨_, _, _, _, _, [], _, rfl, rfl, ?_⟩
  rw [lineB, hW]
  first | exact lnE p103 | exact lnG p20 p33 p52 p81 p103
 have p103 := h103; try simp only [bs] at p103
 refine .sr ?_
 refine .m ?_
 refine .step rfl (.c [.slice (some ⟨b0, 0, none⟩) (W.length) (W.length)] Tcall_107 (fun w hs => readGate_spec (hg.go hs) (hs.slOwn (.tail _ (.head _))) hW1 hWl hW16) ?_)
 rintro _ _ ⟨v1, rfl, rfl⟩
 show Run _ _ (putF _ _ _ (.tuple #[.agg #[sv wG, .int .i64 (kindB (stx W 0)), sv ([]), .int .i64 0, v1], .bool ((gateW W).isSome)])) [.own v1 3 1 ((nums (W.drop 1)).length) (ints (nums (W.drop 1))), .blk b2 95 [sv (stx W 0), .int .i64 0, sv ([]), .int .i64 0, .slice none 0 0], .own (.slice (some ⟨b0, 0, none⟩) (W.length) (W.length)) 9 1 (W.length) (strs W), .blk b1 95 [sv ([]), .int .i64 0, sv ([]), .int .i64 0, .slice none 0 0]]
 refine .w (.agg #[sv wG, .int .i64 (kindB (stx W 0)), sv ([]), .int .i64 0, v1]) ?_
 refine .w (.bool ((gateW W).isSome)) ?_
 refine Run.formOwn (.head _) (fun A_v12 c_v12 hv hcapc_v12 hmaxc_v12 => ?_) (fun _ _ _ => ⟨nofun, nofun, nofun⟩)
 subst hv
 refine .step rfl (.storeAll (us := [sv wG, .int .i64 (kindB (stx W 0)), sv ([]), .int .i64 0, .slice A_v12 ((nums (W.drop 1)).length) c_v12]) Tsize_95 rfl rfl rfl (.there _ (.there _ (.there _ (.here _)))) rfl ?_)
 refine .m ?_
 refine .done ?_
 refine .ret ?_
 refine ⟨.tuple #[.agg #[sv wG, .int .i64 (kindB (stx W 0)), sv ([]), .int .i64 0, .slice A_v12 ((nums (W.drop 1)).length) c_v12], .bool ((gateW W).isSome)], [.own (.slice A_v12 ((nums (W.drop 1)).length) c_v12) 3 1 ((nums (W.drop 1)).length) (ints (nums (W.drop 1)))], Out.cell2 rfl Tagg_95 rfl (Cells.blk (.tail _ (.tail _ (.tail _ (.head _)))) ⟨rfl, rfl, rfl, rfl, rfl, trivial⟩) rfl, (Some'.weak (.take (.nil _))), ?_⟩
 refine ⟨_, _, _, _, _, (nums (W.drop 1)), _, rfl, rfl, ?_⟩
 rw [lineB, hW]
 first | exact lnE p103 | exact lnG p20 p33 p52 p81 p103

end Go.Proofs.YtgpkpopbajkklaaGreatDoor
