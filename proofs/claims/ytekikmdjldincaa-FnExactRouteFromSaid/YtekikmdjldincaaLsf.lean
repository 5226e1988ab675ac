/- Walks: copies of lists of truth values and of steps; is all done. -/
import Derived.Test.YtekikmdjldincaaLse
import Derived.Test.YtekikmdjldincaaProg
set_option linter.unusedSimpArgs false
set_option linter.unusedVariables false
namespace Go.Proofs.Ytekikmdjldincaa
open Go Go.RowKit
namespace LsfT
theorem Tbool_4 : Try.prog.underlying 4 = some .bool := by kernel_rfl
theorem Tcall_76 : callable Try.prog 76 = true := by kernel_rfl
theorem Tone_4 : oneOf Try.prog 4 = true := by kernel_rfl
theorem Tsl_46 : sliceOf Try.prog 46 = some (101, 3, 24, [.int .i64 0, .int .i64 0, .int .i64 0]) := by kernel_rfl
theorem Tsl_85 : sliceOf Try.prog 85 = some (4, 1, 1, [.bool false]) := by kernel_rfl
end LsfT
open LsfT

theorem bls_of_nil {ds : List Bool} (h : (bls ds).length = 0) : ds = [] := by simpa [bls] using h
def allD (ds : List Bool) (n : Nat) : Bool := !anyI (fun i => !bx ds i) n

set_option maxHeartbeats 1000000 in
set_option maxRecDepth 20000 in
theorem CloneBool_nil {n c : Nat} {ds : List Bool} {w : World} (hb : n ≤ 100000000) (ha : Sl w (.slice none n c) 1 n (bls ds)) : Calls Try.prog 77 #[.slice none n c] w (Post No w fun v H => H = [.own v 4 1 n (bls ds)]) := by
  have hxl := ha.1
  obtain rfl : n = 0 := by
    rcases Nat.eq_zero_or_pos n with h | h
    · exact h
    · obtain ⟨b, o, hbo⟩ := ha.opn h; cases hbo
  obtain rfl : ds = [] := by first | exact bls_of_nil (by omega) | simpa [ints] using hxl
  refine enter (n := 8) (args := [.slice none 0 c]) Try.func77 rfl rfl (St.empty _ _) ?_
  refine Run.seq ?_
  refine Run.region ?_
  refine Run.q (v := .slice none 0 0) rfl (OpQ.y (OpY.pure rfl)) ?_
  refine Run.done ?_
  refine Run.seq ?_
  refine Run.seq ?_
  refine Run.region ?_
  refine Run.q (v := .slice none 0 c) rfl (OpQ.y (OpY.pure rfl)) ?_
  refine Run.q (v := .bool true) rfl (OpQ.y (OpY.eqNilNil Tsl_85 rfl rfl)) ?_
  refine Run.done ?_
  refine Run.cond (b := true) rfl (fun _ => ?_) (fun h => nomatch h)
  refine Run.seq ?_
  refine Run.weak (H' := [.own (.slice none 0 0) 4 1 0 ([])]) (Weak.nilOwn _ _) ?_ ⟨_, _, rfl, fun _ => nofun, fun _ => nofun⟩
  refine Run.region ?_
  refine Run.q (v := .slice none 0 0) rfl (OpQ.y (OpY.pure rfl)) ?_
  refine Run.done ?_
  refine Run.ret ?_
  refine ⟨.slice none 0 0, [.own (.slice none 0 0) 4 1 0 ([])], Out.one rfl rfl, (Some'.weak (.take (.nil _))), ?_⟩
  rfl

set_option maxHeartbeats 1000000 in
set_option maxRecDepth 20000 in
theorem CloneBool_some {a : Addr} {n c : Nat} {ds : List Bool} {w : World} (hb : n ≤ 100000000) (ha : Sl w (.slice (some a) n c) 1 n (bls ds)) : Calls Try.prog 77 #[.slice (some a) n c] w (Post No w fun v H => H = [.own v 4 1 n (bls ds)]) := by
  have hxl := ha.1
  refine enter (n := 8) (args := [.slice (some a) n c]) Try.func77 rfl rfl (St.empty _ _) ?_
  refine Run.seq ?_
  refine Run.region ?_
  refine Run.q (v := .slice none 0 0) rfl (OpQ.y (OpY.pure rfl)) ?_
  refine Run.done ?_
  refine Run.seq ?_
  refine Run.seq ?_
  refine Run.region ?_
  refine Run.q (v := .slice (some a) n c) rfl (OpQ.y (OpY.pure rfl)) ?_
  refine Run.q (v := .bool false) rfl (OpQ.y (OpY.eqNilSome Tsl_85 rfl rfl)) ?_
  refine Run.done ?_
  refine Run.cond (b := false) rfl (fun h => nomatch h) (fun _ => ?_)
  refine Run.skip ?_
  refine Run.seq ?_
  refine Run.region ?_
  refine Run.step rfl (OpStep.buildSlice (us := []) Tsl_85 (by decide) (by decide) rfl rfl fun b1 => ?_)
  refine Run.q (v := .slice (some a) n c) rfl (OpQ.y (OpY.pure rfl)) ?_
  refine Run.step rfl (OpStep.append (H1 := []) (H2 := []) (v := .slice (some ⟨b1, 0, none⟩) 0 0) (u := .slice (some a) n c) (n := 0) (m := n) (xs := []) (ys := bls ds) Tsl_85 (by decide) rfl rfl rfl rfl (fun w hs => hs.sl ha) (by exact List.all_eq_true.2 (bls_all _)) (by omega) (by simp only [maxLen]; omega) fun av1 hnav1 => ?_)
  refine Run.weak (H' := [.own av1 4 1 n (bls ds)]) (Some'.weak (.takeEq (by simp) (.nil _))) ?_ ⟨_, _, rfl, fun _ => nofun, fun _ => nofun⟩
  refine Run.q (v := av1) rfl (OpQ.y (OpY.pure rfl)) ?_
  refine Run.done ?_
  refine Run.ret ?_
  refine ⟨av1, [.own av1 4 1 n (bls ds)], Out.one rfl rfl, (Some'.weak (.take (.nil _))), ?_⟩
  rfl

theorem CloneBool_spec {va : Value} {n : Nat} {ds : List Bool} {w : World} (hb : n ≤ 100000000) (ha : Sl w va 1 n (bls ds)) : Calls Try.prog 77 #[va] w (Post No w fun v H => H = [.own v 4 1 n (bls ds)]) := by
  obtain ⟨A, c, rfl, _, _⟩ := ha.form0
  cases A with
  | none => exact CloneBool_nil hb ha
  | some a => exact CloneBool_some hb ha

set_option maxHeartbeats 1000000 in
set_option maxRecDepth 20000 in
theorem CloneStep_nil {n c : Nat} {xs : List Int} {w : World} (hb : n ≤ 100000000) (ha : Sl w (.slice none n c) 3 n (ints xs)) : Calls Try.prog 79 #[.slice none n c] w (Post No w fun v H => H = [.own v 101 3 n (ints xs)]) := by
  have hxl := ha.1
  obtain rfl : n = 0 := by
    rcases Nat.eq_zero_or_pos n with h | h
    · exact h
    · obtain ⟨b, o, hbo⟩ := ha.opn h; cases hbo
  obtain rfl : xs = [] := by first | exact bls_of_nil (by omega) | simpa [ints] using hxl
  refine enter (n := 8) (args := [.slice none 0 c]) Try.func79 rfl rfl (St.empty _ _) ?_
  refine Run.seq ?_
  refine Run.region ?_
  refine Run.q (v := .slice none 0 0) rfl (OpQ.y (OpY.pure rfl)) ?_
  refine Run.done ?_
  refine Run.seq ?_
  refine Run.seq ?_
  refine Run.region ?_
  refine Run.q (v := .slice none 0 c) rfl (OpQ.y (OpY.pure rfl)) ?_
  refine Run.q (v := .bool true) rfl (OpQ.y (OpY.eqNilNil Tsl_46 rfl rfl)) ?_
  refine Run.done ?_
  refine Run.cond (b := true) rfl (fun _ => ?_) (fun h => nomatch h)
  refine Run.seq ?_
  refine Run.weak (H' := [.own (.slice none 0 0) 101 3 0 ([])]) (Weak.nilOwn _ _) ?_ ⟨_, _, rfl, fun _ => nofun, fun _ => nofun⟩
  refine Run.region ?_
  refine Run.q (v := .slice none 0 0) rfl (OpQ.y (OpY.pure rfl)) ?_
  refine Run.done ?_
  refine Run.ret ?_
  refine ⟨.slice none 0 0, [.own (.slice none 0 0) 101 3 0 ([])], Out.one rfl rfl, (Some'.weak (.take (.nil _))), ?_⟩
  rfl

set_option maxHeartbeats 1000000 in
set_option maxRecDepth 20000 in
theorem CloneStep_some {a : Addr} {n c : Nat} {xs : List Int} {w : World} (hb : n ≤ 100000000) (ha : Sl w (.slice (some a) n c) 3 n (ints xs)) : Calls Try.prog 79 #[.slice (some a) n c] w (Post No w fun v H => H = [.own v 101 3 n (ints xs)]) := by
  have hxl := ha.1
  refine enter (n := 8) (args := [.slice (some a) n c]) Try.func79 rfl rfl (St.empty _ _) ?_
  refine Run.seq ?_
  refine Run.region ?_
  refine Run.q (v := .slice none 0 0) rfl (OpQ.y (OpY.pure rfl)) ?_
  refine Run.done ?_
  refine Run.seq ?_
  refine Run.seq ?_
  refine Run.region ?_
  refine Run.q (v := .slice (some a) n c) rfl (OpQ.y (OpY.pure rfl)) ?_
  refine Run.q (v := .bool false) rfl (OpQ.y (OpY.eqNilSome Tsl_46 rfl rfl)) ?_
  refine Run.done ?_
  refine Run.cond (b := false) rfl (fun h => nomatch h) (fun _ => ?_)
  refine Run.skip ?_
  refine Run.seq ?_
  refine Run.region ?_
  refine Run.step rfl (OpStep.buildSlice (us := []) Tsl_46 (by decide) (by decide) rfl rfl fun b1 => ?_)
  refine Run.q (v := .slice (some a) n c) rfl (OpQ.y (OpY.pure rfl)) ?_
  refine Run.step rfl (OpStep.append (H1 := []) (H2 := []) (v := .slice (some ⟨b1, 0, none⟩) 0 0) (u := .slice (some a) n c) (n := 0) (m := n) (xs := []) (ys := ints xs) Tsl_46 (by decide) rfl rfl rfl rfl (fun w hs => hs.sl ha) (by exact ints_all xs) (by omega) (by simp only [maxLen]; omega) fun av1 hnav1 => ?_)
  refine Run.weak (H' := [.own av1 101 3 n (ints xs)]) (Some'.weak (.takeEq (by simp) (.nil _))) ?_ ⟨_, _, rfl, fun _ => nofun, fun _ => nofun⟩
  refine Run.q (v := av1) rfl (OpQ.y (OpY.pure rfl)) ?_
  refine Run.done ?_
  refine Run.ret ?_
  refine ⟨av1, [.own av1 101 3 n (ints xs)], Out.one rfl rfl, (Some'.weak (.take (.nil _))), ?_⟩
  rfl

theorem CloneStep_spec {va : Value} {n : Nat} {xs : List Int} {w : World} (hb : n ≤ 100000000) (ha : Sl w va 3 n (ints xs)) : Calls Try.prog 79 #[va] w (Post No w fun v H => H = [.own v 101 3 n (ints xs)]) := by
  obtain ⟨A, c, rfl, _, _⟩ := ha.form0
  cases A with
  | none => exact CloneStep_nil hb ha
  | some a => exact CloneStep_some hb ha

set_option maxHeartbeats 1000000 in
set_option maxRecDepth 20000 in
theorem IndexNot_spec {va : Value} {n : Nat} {ds : List Bool} {w : World} (ha : Sl w va 1 n (bls ds)) : Calls Try.prog 76 #[va, .bool false] w (Post No w fun v _ => v = .int .i64 (findI (fun i => !bx ds i) n)) := by
  have hxl := ha.blen
  have hn := ha.le
  obtain ⟨A, c, rfl, _, _⟩ := ha.form0
  refine enter (n := 19) (args := [.slice A n c, .bool false]) Try.func76 rfl rfl (St.empty _ _) ?_
  refine Run.seq ?_
  refine Run.region ?_
  refine Run.q (v := .int .i64 0) rfl (OpQ.y (OpY.pure rfl)) ?_
  refine Run.done ?_
  refine Run.seq ?_
  refine Run.seq ?_
  refine Run.region ?_
  refine Run.q (v := .slice A n c) rfl (OpQ.y (OpY.pure rfl)) ?_
  refine Run.q (v := .int .i64 (((n : Nat) : Int))) rfl (OpQ.y (OpY.len Tsl_85 rfl)) ?_
  refine Run.q (v := .int .i64 0) rfl (OpQ.y (OpY.pure rfl)) ?_
  refine Run.done ?_
  refine Run.block ?_
  refine Run.loop (ι := Nat) [4, 5, 8, 9, 10, 11, 12, 13, 14, 15, 16, 17, 18] (fun k => [(8, .int .i64 (((k : Nat) : Int)))]) (fun k => []) (fun k => k ≤ n ∧ ∀ i, i < k → (!bx ds i) = false) (fun k => n - k) 0 ?_ ?_ ?_ ?_
  · exact ⟨Nat.zero_le _, fun i hi => by omega⟩
  · exact ⟨rfl, trivial⟩
  · exact (Some'.weak (.nil _))
  · rintro k fr hinv
    show Run _ _ (over _ _ [(8, .int .i64 (((k : Nat) : Int)))] fr) []
    try dsimp only at hinv
    refine Run.seq ?_
    refine Run.region ?_
    refine Run.q (v := .bool (decide ((((k : Nat) : Int)) < (((n : Nat) : Int))))) rfl (OpQ.y (OpY.pure rfl)) ?_
    refine Run.done ?_
    refine Run.seq ?_
    refine Run.cond (b := decide ((((k : Nat) : Int)) < (((n : Nat) : Int)))) rfl (fun h9 => ?_) (fun h9 => ?_)
    · have p9 := h9; try simp only [bs] at p9
      have hltk : k < n := by omega
      obtain ⟨b, o, rfl⟩ := ha.opn (by omega)
      refine Run.skip ?_
      refine Run.seq ?_
      refine Run.block ?_
      refine Run.seq ?_
      refine Run.region ?_
      refine Run.q (v := .int .i64 (((k : Nat) : Int))) rfl (OpQ.y (OpY.pure rfl)) ?_
      refine Run.q (v := .int .i64 (((k : Nat) : Int))) rfl (OpQ.y (OpY.pure rfl)) ?_
      refine Run.done ?_
      refine Run.seq ?_
      refine Run.region ?_
      refine Run.q (v := .bool false) rfl (OpQ.y (OpY.pure rfl)) ?_
      refine Run.q (v := .slice (some ⟨b, o, none⟩) n c) rfl (OpQ.y (OpY.pure rfl)) ?_
      refine Run.q (v := .int .i64 (((k : Nat) : Int))) rfl (OpQ.y (OpY.pure rfl)) ?_
      refine Run.q (v := .pointer (some ⟨b, o + k, none⟩)) rfl (OpQ.y (OpY.index (kk := k) Tsl_85 rfl rfl (by omega) (by omega) (by first | rfl | omega))) ?_
      refine Run.q (v := .bool (bx ds (k))) rfl (OpQ.y (OpY.load1 Tone_4 rfl (Cells.arg (k := k) ha rfl (by omega) (preBl (by omega))))) ?_
      refine Run.q (v := .bool (false == (bx ds (k)))) rfl (OpQ.y (OpY.eqB Tbool_4 rfl rfl)) ?_
      refine Run.done ?_
      refine Run.cond (b := false == (bx ds (k))) rfl (fun h16 => ?_) (fun h16 => ?_)
      · have p16 := h16; try simp only [bs] at p16
        have hb : bx ds k = false := by simp_all
        have hres : findI (fun i => !bx ds i) n = k := findI_hit hinv.2 (by rw [hb]; rfl) hltk
        refine Run.seq ?_
        refine Run.region ?_
        refine Run.q (v := .int .i64 (((k : Nat) : Int))) rfl (OpQ.y (OpY.pure rfl)) ?_
        refine Run.q (v := .int .i64 (((k : Nat) : Int))) rfl (OpQ.y (OpY.pure rfl)) ?_
        refine Run.done ?_
        refine Run.ret ?_
        refine ⟨.int .i64 (((k : Nat) : Int)), [], Out.one rfl rfl, (Some'.weak (.nil _)), ?_⟩
        show _ = _; rw [hres]
      · have p16 := h16; try simp only [bs] at p16
        have hb : bx ds k = true := by simp_all
        have hgood : (!bx ds k) = false := by rw [hb]; rfl
        refine Run.skip ?_
        refine Run.blockEnd ?_
        refine Run.region ?_
        refine Run.q (v := .int .i64 ((((k : Nat) : Int)) + 1)) rfl (OpQ.y (OpY.add rfl rfl rfl (by omega) (by omega))) ?_
        refine Run.q (v := .int .i64 ((((k : Nat) : Int)) + 1)) rfl (OpQ.y (OpY.pure rfl)) ?_
        refine Run.done ?_
        refine Run.goal ⟨(by repeat (first | exact Same.refl _ _ | refine Same.put rfl ?_ | refine Same.over rfl rfl ?_)), k + 1, ?_, ?_, ?_, ?_⟩
        · refine ⟨by omega, ?_⟩
          intro i hi
          rcases Nat.lt_succ_iff_lt_or_eq.1 hi with h | h
          · exact hinv.2 i h
          · rw [h]; exact hgood
        · omega
        · exact ⟨(by first | rfl | (congr 1; omega) | simp), trivial⟩
        · exact (Some'.weak (.nil _))
    · have p9 := h9; try simp only [bs] at p9
      have hkn : k = n := by omega
      have hres : findI (fun i => !bx ds i) n = -1 := by rw [← hkn]; exact findI_none hinv.2
      refine Run.exit rfl ?_
      refine Run.seq ?_
      refine Run.region ?_
      refine Run.q (v := .int .i64 (-1)) rfl (OpQ.y (OpY.pure rfl)) ?_
      refine Run.done ?_
      refine Run.ret ?_
      refine ⟨.int .i64 (-1), [], Out.one rfl rfl, (Some'.weak (.nil _)), ?_⟩
      show _ = _; rw [hres]

set_option maxHeartbeats 1000000 in
set_option maxRecDepth 20000 in
theorem ContainsNot_spec {va : Value} {n : Nat} {ds : List Bool} {w : World} (ha : Sl w va 1 n (bls ds)) : Calls Try.prog 53 #[va, .bool false] w (Post No w fun v _ => v = .bool (!allD ds n)) := by
  refine enter (n := 9) (args := [va, .bool false]) Try.func53 rfl rfl (St.empty _ _) ?_
  refine Run.seq ?_
  refine Run.region ?_
  refine Run.q (v := .bool false) rfl (OpQ.y (OpY.pure rfl)) ?_
  refine Run.done ?_
  refine Run.seq ?_
  refine Run.region ?_
  refine Run.q (v := va) rfl (OpQ.y (OpY.pure rfl)) ?_
  refine Run.q (v := .bool false) rfl (OpQ.y (OpY.pure rfl)) ?_
  refine Run.q (v := .int .i64 (findI (fun i => !bx ds i) n)) rfl (OpQ.call (vs := [va, .bool false]) (caps := []) Tcall_76 rfl rfl (fun w hs => IndexNot_spec (hs.sl ha))) ?_
  refine Run.q (v := .bool (decide ((findI (fun i => !bx ds i) n) ≥ 0))) rfl (OpQ.y (OpY.pure rfl)) ?_
  refine Run.q (v := .bool (decide ((findI (fun i => !bx ds i) n) ≥ 0))) rfl (OpQ.y (OpY.pure rfl)) ?_
  refine Run.done ?_
  refine Run.ret ?_
  refine ⟨.bool (decide ((findI (fun i => !bx ds i) n) ≥ 0)), [], Out.one rfl rfl, (Some'.weak (.nil _)), ?_⟩
  show _ = _; rw [findI_ge, allD, Bool.not_not]

end Go.Proofs.Ytekikmdjldincaa
