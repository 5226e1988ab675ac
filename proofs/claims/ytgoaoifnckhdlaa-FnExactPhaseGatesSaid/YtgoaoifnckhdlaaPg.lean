/- Walks: PhaseGates, the program and the reference. -/
import Derived.Test.YtgoaoifnckhdlaaW1
import Derived.Test.YtgoaoifnckhdlaaProg
namespace Go.Proofs.Ytgoaoifnckhdlaa
open Go Go.RowKit
namespace PgT
theorem Tbool_4 : Try.prog.underlying 4 = some .bool := by kernel_rfl
theorem Tcall_108 : callable Try.prog 108 = true := by kernel_rfl
theorem Tcall_15 : callable Try.prog 15 = true := by kernel_rfl
theorem Tcall_16 : callable Try.prog 16 = true := by kernel_rfl
theorem Tcall_17 : callable Try.prog 17 = true := by kernel_rfl
theorem Tcall_18 : callable Try.prog 18 = true := by kernel_rfl
theorem Tcall_19 : callable Try.prog 19 = true := by kernel_rfl
theorem Tcall_60 : callable Try.prog 60 = true := by kernel_rfl
theorem Tcall_61 : callable Try.prog 61 = true := by kernel_rfl
theorem Tcall_62 : callable Try.prog 62 = true := by kernel_rfl
theorem Tcall_67 : callable Try.prog 67 = true := by kernel_rfl
end PgT
open PgT

def rotK (p : Int) : List Int := ([[], [7], [5], [5, 7], [4], [4, 7], [6], [8]] : List (List Int)).getD p.toNat []
def rotL (q p : Int) : List Int := (rotK p).flatMap fun k => [k, q, 0]
theorem rot_cases {p : Int} (h0 : 0 ≤ p) (h7 : p ≤ 7) : p = 0 ∨ p = 1 ∨ p = 2 ∨ p = 3 ∨ p = 4 ∨ p = 5 ∨ p = 6 ∨ p = 7 := by omega
theorem rotK_le (p : Int) : (rotK p).length ≤ 2 := by
  have h : ∀ i, (([[], [7], [5], [5, 7], [4], [4, 7], [6], [8]] : List (List Int)).getD i []).length ≤ 2 := by
    intro i
    match i with
    | 0 | 1 | 2 | 3 | 4 | 5 | 6 | 7 => decide
    | n + 8 => simp
  exact h _
theorem rotL_length (q p : Int) : (rotL q p).length = (rotK p).length * 3 := by
  unfold rotL; induction rotK p with
  | nil => rfl
  | cons a l ih => simp only [List.flatMap_cons, List.length_append, List.length_cons, List.length_nil, ih]; omega


theorem rotation_spec {q p : Int} (h0 : 0 ≤ p) (h7 : p ≤ 7) (w : World) : Calls Try.prog 108 #[.int .i64 q, .int .i64 p] w (Post No w fun v H => H = [.own v 94 3 (rotK p).length (ints (rotL q p))]) := by
  rcases rot_cases h0 h7 with rfl | rfl | rfl | rfl | rfl | rfl | rfl | rfl
  · exact rotation0 q w
  · exact rotation1 q w
  · exact rotation2 q w
  · exact rotation3 q w
  · exact rotation4 q w
  · exact rotation5 q w
  · exact rotation6 q w
  · exact rotation7 q w


theorem l20Phase_spec {q p : Int} (h0 : 0 ≤ p) (h7 : p ≤ 7) (w : World) : Calls Try.prog 61 #[.int .i64 q, .int .i64 p] w (Post No w fun v H => H = [.own v 94 3 (rotK p).length (ints (rotL q p))]) := by
  rcases rot_cases h0 h7 with rfl | rfl | rfl | rfl | rfl | rfl | rfl | rfl
  · exact l20Phase0 q w
  · exact l20Phase1 q w
  · exact l20Phase2 q w
  · exact l20Phase3 q w
  · exact l20Phase4 q w
  · exact l20Phase5 q w
  · exact l20Phase6 q w
  · exact l20Phase7 q w


def pgOk (q p : Int) : Bool := within q 0 4 && within p 0 7
def pgK (q p : Int) : List Int := if pgOk q p then rotK p else []
def pgL (q p : Int) : List Int := if pgOk q p then rotL q p else []
theorem pgK_le (q p : Int) : (pgK q p).length ≤ 2 := by unfold pgK; split; exact rotK_le p; simp
theorem pgL_length (q p : Int) : (pgL q p).length = (pgK q p).length * 3 := by unfold pgL pgK; split; exact rotL_length q p; simp

set_option maxHeartbeats 1000000 in
set_option maxRecDepth 20000 in
theorem RotationGates_spec (q p : Int) (w : World) : Calls Try.prog 62 #[.int .i64 q, .int .i64 p] w (Post No w fun v H => ∃ u, v = .tuple #[u, .bool (pgOk q p)] ∧ H = [.own u 94 3 (pgK q p).length (ints (pgL q p))]) := by
  refine enter (n := 17) (args := [.int .i64 q, .int .i64 p]) Try.func62 rfl rfl (St.empty _ _) ?_
  refine Run.seq ?_
  refine Run.region ?_
  refine Run.q (v := .slice none 0 0) rfl (OpQ.pure rfl) ?_
  refine Run.q (v := .bool false) rfl (OpQ.pure rfl) ?_
  refine Run.done ?_
  refine Run.seq ?_
  refine Run.seq ?_
  refine Run.region ?_
  refine Run.q (v := .int .i64 q) rfl (OpQ.pure rfl) ?_
  refine Run.q (v := .bool (within q 0 4)) rfl (OpQ.call (vs := [.int .i64 q, .int .i64 0, .int .i64 4]) (caps := []) Tcall_67 rfl rfl (fun w hs => within_spec _ _ _ w)) ?_
  refine Run.q (v := .bool (!(within q 0 4))) rfl (OpQ.pure rfl) ?_
  rcases Bool.eq_false_or_eq_true (!(within q 0 4)) with h9 | h9
  · refine Run.q (v := .bool true) rfl (OpQ.moveB rfl h9) ?_
    refine Run.pass rfl ?_
    refine Run.pass rfl ?_
    refine Run.pass rfl ?_
    refine Run.q (v := .bool true) rfl (OpQ.pure rfl) ?_
    refine Run.done ?_
    refine Run.cond (b := true) rfl (fun _ => ?_) (fun h => nomatch h)
    refine Run.seq ?_
    refine Run.region ?_
    refine Run.q (v := .slice none 0 0) rfl (OpQ.pure rfl) ?_
    refine Run.q (v := .bool false) rfl (OpQ.pure rfl) ?_
    refine Run.done ?_
    refine Run.ret ?_
    refine ⟨.tuple #[.slice none 0 0, .bool false], [.own (.slice none 0 0) 94 3 0 ([])], Out.two rfl rfl rfl, ((Weak.nilOwn 94 3).trans (Some'.weak (.take (.nil _)))), ?_⟩
    have hok : pgOk q p = false := by simp_all [pgOk]
    refine ⟨_, by rw [hok], ?_⟩; simp [pgK, pgL, hok, ints]
  · refine Run.q (v := .bool false) rfl (OpQ.moveB rfl h9) ?_
    refine Run.q (v := .int .i64 p) rfl (OpQ.pure rfl) ?_
    refine Run.q (v := .bool (within p 0 7)) rfl (OpQ.call (vs := [.int .i64 p, .int .i64 0, .int .i64 7]) (caps := []) Tcall_67 rfl rfl (fun w hs => within_spec _ _ _ w)) ?_
    refine Run.q (v := .bool (!(within p 0 7))) rfl (OpQ.pure rfl) ?_
    refine Run.q (v := .bool (!(within p 0 7))) rfl (OpQ.pure rfl) ?_
    refine Run.done ?_
    refine Run.cond (b := !(within p 0 7)) rfl (fun h13 => ?_) (fun h13 => ?_)
    · refine Run.seq ?_
      refine Run.region ?_
      refine Run.q (v := .slice none 0 0) rfl (OpQ.pure rfl) ?_
      refine Run.q (v := .bool false) rfl (OpQ.pure rfl) ?_
      refine Run.done ?_
      refine Run.ret ?_
      refine ⟨.tuple #[.slice none 0 0, .bool false], [.own (.slice none 0 0) 94 3 0 ([])], Out.two rfl rfl rfl, ((Weak.nilOwn 94 3).trans (Some'.weak (.take (.nil _)))), ?_⟩
      have hok : pgOk q p = false := by simp_all [pgOk]
      refine ⟨_, by rw [hok], ?_⟩; simp [pgK, pgL, hok, ints]
    · refine Run.skip ?_
      refine Run.seq ?_
      refine Run.region ?_
      refine Run.q (v := .int .i64 q) rfl (OpQ.pure rfl) ?_
      refine Run.q (v := .int .i64 p) rfl (OpQ.pure rfl) ?_
      have hq : within q 0 4 = true := by simpa using h9
      have hp : within p 0 7 = true := by simpa using h13
      have hpp := within_iff.1 hp
      have hok : pgOk q p = true := by simp [pgOk, hq, hp]
      refine Run.step rfl (OpStep.call (vs := [.int .i64 q, .int .i64 p]) (caps := []) Tcall_108 rfl rfl (fun w hs => rotation_spec hpp.1 hpp.2 w) ?_)
      rintro u _ rfl
      show Run _ _ (putF _ _ _ u) [.own u 94 3 ((rotK p).length) (ints (rotL q p))]
      refine Run.q (v := u) rfl (OpQ.pure rfl) ?_
      refine Run.q (v := .bool true) rfl (OpQ.pure rfl) ?_
      refine Run.done ?_
      refine Run.ret ?_
      refine ⟨.tuple #[u, .bool true], [.own u 94 3 ((rotK p).length) (ints (rotL q p))], Out.two rfl rfl rfl, (Some'.weak (.take (.nil _))), ?_⟩
      refine ⟨_, by rw [hok], ?_⟩; simp [pgK, pgL, hok]

set_option maxHeartbeats 1000000 in
set_option maxRecDepth 20000 in
theorem sPhaseGates_spec (q p : Int) (w : World) : Calls Try.prog 15 #[.int .i64 q, .int .i64 p] w (Post No w fun v H => ∃ u, v = .tuple #[u, .bool (pgOk q p)] ∧ H = [.own u 94 3 (pgK q p).length (ints (pgL q p))]) := by
  refine enter (n := 17) (args := [.int .i64 q, .int .i64 p]) Try.func15 rfl rfl (St.empty _ _) ?_
  refine Run.seq ?_
  refine Run.region ?_
  refine Run.q (v := .slice none 0 0) rfl (OpQ.pure rfl) ?_
  refine Run.q (v := .bool false) rfl (OpQ.pure rfl) ?_
  refine Run.done ?_
  refine Run.seq ?_
  refine Run.seq ?_
  refine Run.region ?_
  refine Run.q (v := .int .i64 q) rfl (OpQ.pure rfl) ?_
  refine Run.q (v := .bool (within q 0 4)) rfl (OpQ.call (vs := [.int .i64 q, .int .i64 0, .int .i64 4]) (caps := []) Tcall_60 rfl rfl (fun w hs => l1In_spec _ _ _ w)) ?_
  refine Run.q (v := .bool (!(within q 0 4))) rfl (OpQ.pure rfl) ?_
  rcases Bool.eq_false_or_eq_true (!(within q 0 4)) with h9 | h9
  · refine Run.q (v := .bool true) rfl (OpQ.moveB rfl h9) ?_
    refine Run.pass rfl ?_
    refine Run.pass rfl ?_
    refine Run.pass rfl ?_
    refine Run.q (v := .bool true) rfl (OpQ.pure rfl) ?_
    refine Run.done ?_
    refine Run.cond (b := true) rfl (fun _ => ?_) (fun h => nomatch h)
    refine Run.seq ?_
    refine Run.region ?_
    refine Run.q (v := .slice none 0 0) rfl (OpQ.pure rfl) ?_
    refine Run.q (v := .bool false) rfl (OpQ.pure rfl) ?_
    refine Run.done ?_
    refine Run.ret ?_
    refine ⟨.tuple #[.slice none 0 0, .bool false], [.own (.slice none 0 0) 94 3 0 ([])], Out.two rfl rfl rfl, ((Weak.nilOwn 94 3).trans (Some'.weak (.take (.nil _)))), ?_⟩
    have hok : pgOk q p = false := by simp_all [pgOk]
    refine ⟨_, by rw [hok], ?_⟩; simp [pgK, pgL, hok, ints]
  · refine Run.q (v := .bool false) rfl (OpQ.moveB rfl h9) ?_
    refine Run.q (v := .int .i64 p) rfl (OpQ.pure rfl) ?_
    refine Run.q (v := .bool (within p 0 7)) rfl (OpQ.call (vs := [.int .i64 p, .int .i64 0, .int .i64 7]) (caps := []) Tcall_60 rfl rfl (fun w hs => l1In_spec _ _ _ w)) ?_
    refine Run.q (v := .bool (!(within p 0 7))) rfl (OpQ.pure rfl) ?_
    refine Run.q (v := .bool (!(within p 0 7))) rfl (OpQ.pure rfl) ?_
    refine Run.done ?_
    refine Run.cond (b := !(within p 0 7)) rfl (fun h13 => ?_) (fun h13 => ?_)
    · refine Run.seq ?_
      refine Run.region ?_
      refine Run.q (v := .slice none 0 0) rfl (OpQ.pure rfl) ?_
      refine Run.q (v := .bool false) rfl (OpQ.pure rfl) ?_
      refine Run.done ?_
      refine Run.ret ?_
      refine ⟨.tuple #[.slice none 0 0, .bool false], [.own (.slice none 0 0) 94 3 0 ([])], Out.two rfl rfl rfl, ((Weak.nilOwn 94 3).trans (Some'.weak (.take (.nil _)))), ?_⟩
      have hok : pgOk q p = false := by simp_all [pgOk]
      refine ⟨_, by rw [hok], ?_⟩; simp [pgK, pgL, hok, ints]
    · refine Run.skip ?_
      refine Run.seq ?_
      refine Run.region ?_
      refine Run.q (v := .int .i64 q) rfl (OpQ.pure rfl) ?_
      refine Run.q (v := .int .i64 p) rfl (OpQ.pure rfl) ?_
      have hq : within q 0 4 = true := by simpa using h9
      have hp : within p 0 7 = true := by simpa using h13
      have hpp := within_iff.1 hp
      have hok : pgOk q p = true := by simp [pgOk, hq, hp]
      refine Run.step rfl (OpStep.call (vs := [.int .i64 q, .int .i64 p]) (caps := []) Tcall_61 rfl rfl (fun w hs => l20Phase_spec hpp.1 hpp.2 w) ?_)
      rintro u _ rfl
      show Run _ _ (putF _ _ _ u) [.own u 94 3 ((rotK p).length) (ints (rotL q p))]
      refine Run.q (v := u) rfl (OpQ.pure rfl) ?_
      refine Run.q (v := .bool true) rfl (OpQ.pure rfl) ?_
      refine Run.done ?_
      refine Run.ret ?_
      refine ⟨.tuple #[u, .bool true], [.own u 94 3 ((rotK p).length) (ints (rotL q p))], Out.two rfl rfl rfl, (Some'.weak (.take (.nil _))), ?_⟩
      refine ⟨_, by rw [hok], ?_⟩; simp [pgK, pgL, hok]

set_option maxHeartbeats 1000000 in
set_option maxRecDepth 20000 in
theorem PhaseGates_spec (q p : Int) (w : World) : Calls Try.prog 16 #[.int .i64 q, .int .i64 p] w (Post No w fun v H => ∃ u, v = .tuple #[u, .bool (pgOk q p)] ∧ H = [.own u 94 3 (pgK q p).length (ints (pgL q p))]) := by
  refine enter (n := 11) (args := [.int .i64 q, .int .i64 p]) Try.func16 rfl rfl (St.empty _ _) ?_
  refine Run.seq ?_
  refine Run.region ?_
  refine Run.q (v := .slice none 0 0) rfl (OpQ.pure rfl) ?_
  refine Run.q (v := .bool false) rfl (OpQ.pure rfl) ?_
  refine Run.done ?_
  refine Run.seq ?_
  refine Run.region ?_
  refine Run.q (v := .int .i64 q) rfl (OpQ.pure rfl) ?_
  refine Run.q (v := .int .i64 p) rfl (OpQ.pure rfl) ?_
  refine Run.step rfl (OpStep.call (vs := [.int .i64 q, .int .i64 p]) (caps := []) Tcall_62 rfl rfl (fun w hs => RotationGates_spec _ _ w) ?_)
  rintro _ _ ⟨u, rfl, rfl⟩
  show Run _ _ (putF _ _ _ (.tuple #[u, .bool (pgOk q p)])) [.own u 94 3 ((pgK q p).length) (ints (pgL q p))]
  refine Run.q (v := u) rfl (OpQ.pure rfl) ?_
  refine Run.q (v := .bool (pgOk q p)) rfl (OpQ.pure rfl) ?_
  refine Run.q (v := u) rfl (OpQ.pure rfl) ?_
  refine Run.q (v := .bool (pgOk q p)) rfl (OpQ.pure rfl) ?_
  refine Run.done ?_
  refine Run.ret ?_
  refine ⟨.tuple #[u, .bool (pgOk q p)], [.own u 94 3 ((pgK q p).length) (ints (pgL q p))], Out.two rfl rfl rfl, (Some'.weak (.take (.nil _))), ?_⟩
  exact ⟨_, rfl, rfl⟩

set_option maxHeartbeats 1000000 in
set_option maxRecDepth 20000 in
theorem law_spec (q p : Int) (w : World) : Calls Try.prog 3 #[.int .i64 q, .int .i64 p] w (Post No w fun v _ => v = .bool true) := by
  have hn := pgK_le q p
  have hl := pgL_length q p
  refine enter (n := 68) (args := [.int .i64 q, .int .i64 p]) Try.func3 rfl rfl (St.empty _ _) ?_
  refine Run.seq ?_
  refine Run.region ?_
  refine Run.q (v := .bool false) rfl (OpQ.pure rfl) ?_
  refine Run.done ?_
  refine Run.seq ?_
  refine Run.region ?_
  refine Run.q (v := .int .i64 q) rfl (OpQ.pure rfl) ?_
  refine Run.q (v := .int .i64 p) rfl (OpQ.pure rfl) ?_
  refine Run.step rfl (OpStep.call (vs := [.int .i64 q, .int .i64 p]) (caps := []) Tcall_15 rfl rfl (fun w hs => sPhaseGates_spec _ _ w) ?_)
  rintro _ _ ⟨u1, rfl, rfl⟩
  show Run _ _ (putF _ _ _ (.tuple #[u1, .bool (pgOk q p)])) [.own u1 94 3 ((pgK q p).length) (ints (pgL q p))]
  refine Run.q (v := .tuple #[u1, .bool (pgOk q p)]) rfl (OpQ.pure rfl) ?_
  refine Run.q (v := u1) rfl (OpQ.pure rfl) ?_
  refine Run.q (v := .bool (pgOk q p)) rfl (OpQ.pure rfl) ?_
  refine Run.q (v := u1) rfl (OpQ.pure rfl) ?_
  refine Run.q (v := .bool (pgOk q p)) rfl (OpQ.pure rfl) ?_
  refine Run.done ?_
  refine Run.seq ?_
  refine Run.region ?_
  refine Run.q (v := .int .i64 q) rfl (OpQ.pure rfl) ?_
  refine Run.q (v := .int .i64 p) rfl (OpQ.pure rfl) ?_
  refine Run.step rfl (OpStep.call (vs := [.int .i64 q, .int .i64 p]) (caps := []) Tcall_16 rfl rfl (fun w hs => PhaseGates_spec _ _ w) ?_)
  rintro _ _ ⟨u2, rfl, rfl⟩
  show Run _ _ (putF _ _ _ (.tuple #[u2, .bool (pgOk q p)])) [.own u2 94 3 ((pgK q p).length) (ints (pgL q p)), .own u1 94 3 ((pgK q p).length) (ints (pgL q p))]
  refine Run.q (v := .tuple #[u2, .bool (pgOk q p)]) rfl (OpQ.pure rfl) ?_
  refine Run.q (v := u2) rfl (OpQ.pure rfl) ?_
  refine Run.q (v := .bool (pgOk q p)) rfl (OpQ.pure rfl) ?_
  refine Run.q (v := u2) rfl (OpQ.pure rfl) ?_
  refine Run.q (v := .bool (pgOk q p)) rfl (OpQ.pure rfl) ?_
  refine Run.done ?_
  refine Run.seq ?_
  refine Run.seq ?_
  refine Run.region ?_
  refine Run.q (v := u2) rfl (OpQ.pure rfl) ?_
  refine Run.q (v := u1) rfl (OpQ.pure rfl) ?_
  refine Run.q (v := .bool true) rfl (OpQ.call (vs := [u2, u1]) (caps := []) Tcall_17 rfl rfl (fun w hs => eqGateS_true (hs.slOwn (by repeat (first | exact List.Mem.head _ | apply List.Mem.tail))) (hs.slOwn (by repeat (first | exact List.Mem.head _ | apply List.Mem.tail))) rfl)) ?_
  refine Run.q (v := .bool false) rfl (OpQ.pure rfl) ?_
  refine Run.q (v := .bool false) rfl (OpQ.pure rfl) ?_
  refine Run.q (v := .bool (pgOk q p)) rfl (OpQ.pure rfl) ?_
  refine Run.q (v := .bool (pgOk q p)) rfl (OpQ.pure rfl) ?_
  refine Run.q (v := .bool ((pgOk q p) != (pgOk q p))) rfl (OpQ.eqBn Tbool_4 rfl rfl) ?_
  refine Run.q (v := .bool ((pgOk q p) != (pgOk q p))) rfl (OpQ.pure rfl) ?_
  refine Run.done ?_
  refine Run.cond (b := (pgOk q p) != (pgOk q p)) rfl (fun h33 => ?_) (fun h33 => ?_)
  · exact absurd h33 (by simp) --DONE
  · refine Run.skip ?_
    refine Run.seq ?_
    refine Run.region ?_
    refine Run.q (v := .int .i64 1) rfl (OpQ.pure rfl) ?_
    refine Run.done ?_
    refine Run.seq ?_
    refine Run.region ?_
    refine Run.q (v := u2) rfl (OpQ.pure rfl) ?_
    refine Run.q (v := .int .i64 1) rfl (OpQ.pure rfl) ?_
    refine Run.step rfl (OpStep.callM (H1 := [.own u2 94 3 ((pgK q p).length) (ints (pgL q p))]) (H2 := [.own u1 94 3 ((pgK q p).length) (ints (pgL q p))]) (vs := [u2, .int .i64 1]) (caps := []) Tcall_18 rfl rfl (Weak.of_perm (by simp)) (fun w hs => markGateS_spec (hs.holds _ (.head _)) (by omega) (by omega)) ?_)
    rintro _ _ ⟨rfl, rfl⟩
    show Run _ _ (putF _ _ _ (.int .i64 (1 + (((pgK q p).length : Nat) : Int) * 3))) [.own u2 94 3 ((pgK q p).length) (ints (mks 1 ((pgK q p).length * 3))), .own u1 94 3 ((pgK q p).length) (ints (pgL q p))]
    refine Run.q (v := .int .i64 (1 + (((pgK q p).length : Nat) : Int) * 3)) rfl (OpQ.pure rfl) ?_
    refine Run.done ?_
    refine Run.seq ?_
    refine Run.region ?_
    refine Run.q (v := .int .i64 1) rfl (OpQ.pure rfl) ?_
    refine Run.done ?_
    refine Run.seq ?_
    refine Run.region ?_
    refine Run.q (v := u2) rfl (OpQ.pure rfl) ?_
    refine Run.q (v := .int .i64 1) rfl (OpQ.pure rfl) ?_
    refine Run.q (v := .int .i64 (1 + (((pgK q p).length : Nat) : Int) * 3)) rfl (OpQ.call (vs := [u2, .int .i64 1]) (caps := []) Tcall_19 rfl rfl (fun w hs => heldGateS_true (hs.slOwn (by repeat (first | exact List.Mem.head _ | apply List.Mem.tail))) (by omega) (by omega) rfl)) ?_
    refine Run.q (v := .int .i64 (1 + (((pgK q p).length : Nat) : Int) * 3)) rfl (OpQ.pure rfl) ?_
    refine Run.done ?_
    refine Run.seq ?_
    refine Run.seq ?_
    refine Run.region ?_
    refine Run.q (v := .int .i64 (1 + (((pgK q p).length : Nat) : Int) * 3)) rfl (OpQ.pure rfl) ?_
    refine Run.q (v := .bool (decide ((1 + (((pgK q p).length : Nat) : Int) * 3) < 0))) rfl (OpQ.pure rfl) ?_
    refine Run.done ?_
    refine Run.cond (b := decide ((1 + (((pgK q p).length : Nat) : Int) * 3) < 0)) rfl (fun h41 => ?_) (fun h41 => ?_)
    · exact absurd h41 (by simp; omega) --DONE
    · refine Run.skip ?_
      refine Run.seq ?_
      refine Run.seq ?_
      refine Run.region ?_
      refine Run.q (v := .int .i64 (1 + (((pgK q p).length : Nat) : Int) * 3)) rfl (OpQ.pure rfl) ?_
      refine Run.q (v := .int .i64 (1 + (((pgK q p).length : Nat) : Int) * 3)) rfl (OpQ.pure rfl) ?_
      refine Run.q (v := .bool ((1 + (((pgK q p).length : Nat) : Int) * 3) != (1 + (((pgK q p).length : Nat) : Int) * 3))) rfl (OpQ.pure rfl) ?_
      refine Run.done ?_
      refine Run.cond (b := (1 + (((pgK q p).length : Nat) : Int) * 3) != (1 + (((pgK q p).length : Nat) : Int) * 3)) rfl (fun h44 => ?_) (fun h44 => ?_)
      · exact absurd h44 (by simp) --DONE
      · refine Run.skip ?_
        refine Run.seq ?_
        refine Run.region ?_
        refine Run.q (v := .int .i64 q) rfl (OpQ.pure rfl) ?_
        refine Run.q (v := .int .i64 p) rfl (OpQ.pure rfl) ?_
        refine Run.step rfl (OpStep.call (vs := [.int .i64 q, .int .i64 p]) (caps := []) Tcall_16 rfl rfl (fun w hs => PhaseGates_spec _ _ w) ?_)
        rintro _ _ ⟨u3, rfl, rfl⟩
        show Run _ _ (putF _ _ _ (.tuple #[u3, .bool (pgOk q p)])) [.own u3 94 3 ((pgK q p).length) (ints (pgL q p)), .own u2 94 3 ((pgK q p).length) (ints (mks 1 ((pgK q p).length * 3))), .own u1 94 3 ((pgK q p).length) (ints (pgL q p))]
        refine Run.q (v := .tuple #[u3, .bool (pgOk q p)]) rfl (OpQ.pure rfl) ?_
        refine Run.q (v := u3) rfl (OpQ.pure rfl) ?_
        refine Run.q (v := .bool (pgOk q p)) rfl (OpQ.pure rfl) ?_
        refine Run.q (v := u3) rfl (OpQ.pure rfl) ?_
        refine Run.q (v := .bool (pgOk q p)) rfl (OpQ.pure rfl) ?_
        refine Run.done ?_
        refine Run.seq ?_
        refine Run.seq ?_
        refine Run.region ?_
        refine Run.q (v := u3) rfl (OpQ.pure rfl) ?_
        refine Run.q (v := u1) rfl (OpQ.pure rfl) ?_
        refine Run.q (v := .bool true) rfl (OpQ.call (vs := [u3, u1]) (caps := []) Tcall_17 rfl rfl (fun w hs => eqGateS_true (hs.slOwn (by repeat (first | exact List.Mem.head _ | apply List.Mem.tail))) (hs.slOwn (by repeat (first | exact List.Mem.head _ | apply List.Mem.tail))) rfl)) ?_
        refine Run.q (v := .bool false) rfl (OpQ.pure rfl) ?_
        refine Run.q (v := .bool false) rfl (OpQ.pure rfl) ?_
        refine Run.q (v := .bool (pgOk q p)) rfl (OpQ.pure rfl) ?_
        refine Run.q (v := .bool (pgOk q p)) rfl (OpQ.pure rfl) ?_
        refine Run.q (v := .bool ((pgOk q p) != (pgOk q p))) rfl (OpQ.eqBn Tbool_4 rfl rfl) ?_
        refine Run.q (v := .bool ((pgOk q p) != (pgOk q p))) rfl (OpQ.pure rfl) ?_
        refine Run.done ?_
        refine Run.cond (b := (pgOk q p) != (pgOk q p)) rfl (fun h59 => ?_) (fun h59 => ?_)
        · exact absurd h59 (by simp) --DONE
        · refine Run.skip ?_
          refine Run.seq ?_
          refine Run.region ?_
          refine Run.q (v := .int .i64 1) rfl (OpQ.pure rfl) ?_
          refine Run.done ?_
          refine Run.seq ?_
          refine Run.region ?_
          refine Run.q (v := u2) rfl (OpQ.pure rfl) ?_
          refine Run.q (v := .int .i64 1) rfl (OpQ.pure rfl) ?_
          refine Run.q (v := .int .i64 (1 + (((pgK q p).length : Nat) : Int) * 3)) rfl (OpQ.call (vs := [u2, .int .i64 1]) (caps := []) Tcall_19 rfl rfl (fun w hs => heldGateS_true (hs.slOwn (by repeat (first | exact List.Mem.head _ | apply List.Mem.tail))) (by omega) (by omega) rfl)) ?_
          refine Run.q (v := .int .i64 (1 + (((pgK q p).length : Nat) : Int) * 3)) rfl (OpQ.pure rfl) ?_
          refine Run.done ?_
          refine Run.seq ?_
          refine Run.seq ?_
          refine Run.region ?_
          refine Run.q (v := .int .i64 (1 + (((pgK q p).length : Nat) : Int) * 3)) rfl (OpQ.pure rfl) ?_
          refine Run.q (v := .bool (decide ((1 + (((pgK q p).length : Nat) : Int) * 3) < 0))) rfl (OpQ.pure rfl) ?_
          refine Run.done ?_
          refine Run.cond (b := decide ((1 + (((pgK q p).length : Nat) : Int) * 3) < 0)) rfl (fun h64 => ?_) (fun h64 => ?_)
          · exact absurd h64 (by simp; omega) --DONE
          · refine Run.skip ?_
            refine Run.seq ?_
            refine Run.seq ?_
            refine Run.region ?_
            refine Run.q (v := .int .i64 (1 + (((pgK q p).length : Nat) : Int) * 3)) rfl (OpQ.pure rfl) ?_
            refine Run.q (v := .int .i64 (1 + (((pgK q p).length : Nat) : Int) * 3)) rfl (OpQ.pure rfl) ?_
            refine Run.q (v := .bool ((1 + (((pgK q p).length : Nat) : Int) * 3) != (1 + (((pgK q p).length : Nat) : Int) * 3))) rfl (OpQ.pure rfl) ?_
            refine Run.done ?_
            refine Run.cond (b := (1 + (((pgK q p).length : Nat) : Int) * 3) != (1 + (((pgK q p).length : Nat) : Int) * 3)) rfl (fun h67 => ?_) (fun h67 => ?_)
            · exact absurd h67 (by simp) --DONE
            · refine Run.skip ?_
              refine Run.seq ?_
              refine Run.region ?_
              refine Run.q (v := .bool true) rfl (OpQ.pure rfl) ?_
              refine Run.done ?_
              refine Run.ret ?_
              refine ⟨.bool true, [], Out.one rfl rfl, (Some'.weak (.nil _)), ?_⟩
              rfl

end Go.Proofs.Ytgoaoifnckhdlaa
