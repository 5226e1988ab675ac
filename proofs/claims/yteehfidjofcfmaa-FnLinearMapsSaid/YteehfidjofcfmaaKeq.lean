/- Keys compared; copies of lists of gates. -/
import Derived.Test.YteehfidjofcfmaaKin
import Derived.Test.YteehfidjofcfmaaW1
import Derived.Test.YteehfidjofcfmaaProg
set_option linter.unusedSimpArgs false
set_option linter.unusedVariables false
namespace Go.Proofs.Yteehfidjofcfmaa
open Go Go.RowKit
namespace KeqT
theorem Tsl_36 : sliceOf Try.prog 36 = some (71, 3, 24, [.int .i64 0, .int .i64 0, .int .i64 0]) := by kernel_rfl
end KeqT
open KeqT

theorem OpY.eqKey {E : Env} {f : Fr} {H : List Res} {d : Option Tmp} {ty : TypeId} {pos : String} {after : Array Edge} {gd : Option (Nat × Bool)} {t t' : TypeId} {x y : Operand} {us vs : Array Value} {b : Bool} {m : Nat} (hm : m ≤ 10000) (hk : E.P.keyTypeAt m t = true)
    (hwide : (match E.P.underlying t with | some (.array _ _) | some (.struct _) => true | _ => false) = true) (hg : E.P.eqGuardType E.P.depth t = false) (hinj : WideMaps.KeyLaw E.P t) (hx : f.eval x = .agg us) (hy : f.eval y = .agg vs) (hu : Keyable E.P t (.agg us)) (hv : Keyable E.P t (.agg vs)) (hb : b = true ↔ Value.agg us = .agg vs) :
    OpY E ⟨d, .binOp .eql t x y t', ty, pos, after, gd⟩ f H (.bool b) := by
  intro w _
  obtain ⟨lu, hlu⟩ := hu
  obtain ⟨lv, hlv⟩ := hv
  obtain ⟨r, hr, hiff⟩ := run_equal_deep (P := E.P) w hm hk hwide hlu hlv
  have hrb : r = b := by
    have h1 : lu = lv ↔ Value.agg us = .agg vs := by
      constructor
      · intro e; subst e; exact hinj.inj hlu hlv
      · intro e; rw [e] at hlu; exact Option.some.inj (hlu.symm.trans hlv)
    cases r <;> cases b <;> simp_all
  subst hrb
  simp only [execOp, hx, hy, eqGuard, binOp]
  simp [hr, hg]
theorem kl_guard : Try.prog.eqGuardType Try.prog.depth 108 = false := by kernel_rfl
theorem keyV_iff {l l' : List Nat} {f f' : Nat} {b : Bool} (hl : l.length = l'.length) (h5 : l.length ≤ 5) (hb : b = decide ((l, f) = (l', f'))) : b = true ↔ keyV l f = keyV l' f' := by
  subst hb
  rw [decide_eq_true_eq]
  constructor
  · intro e; cases e; rfl
  · intro e
    obtain ⟨h1, h2⟩ := keyV_inj hl h5 e
    rw [h1, Int.ofNat_inj.1 h2]

set_option maxHeartbeats 1000000 in
set_option maxRecDepth 20000 in
theorem CloneGate_nil {n c : Nat} {xs : List Int} {w : World} (hb : n ≤ 1048576) (ha : Sl w (.slice none n c) 3 n (ints xs)) : Calls Try.prog 96 #[.slice none n c] w (Post No w fun v H => H = [.own v 71 3 n (ints xs)]) := by
  have hxl := ha.len
  obtain rfl : n = 0 := by
    rcases Nat.eq_zero_or_pos n with h | h
    · exact h
    · obtain ⟨b, o, hbo⟩ := ha.opn h; cases hbo
  obtain rfl : xs = [] := by simpa [ints] using hxl
  refine enter (n := 8) (args := [.slice none 0 c]) Try.func96 rfl rfl (St.empty _ _) ?_
  refine Run.seq ?_
  refine Run.region ?_
  refine Run.q (v := .slice none 0 0) rfl (OpQ.y (OpY.pure rfl)) ?_
  refine Run.done ?_
  refine Run.seq ?_
  refine Run.seq ?_
  refine Run.region ?_
  refine Run.q (v := .slice none 0 c) rfl (OpQ.y (OpY.pure rfl)) ?_
  refine Run.q (v := .bool true) rfl (OpQ.y (OpY.eqNilNil Tsl_36 rfl rfl)) ?_
  refine Run.done ?_
  refine Run.cond (b := true) rfl (fun _ => ?_) (fun h => nomatch h)
  refine Run.seq ?_
  refine Run.weak (H' := [.own (.slice none 0 0) 71 3 0 ([])]) (Weak.nilOwn _ _) ?_ ⟨_, _, rfl, fun _ => nofun, fun _ => nofun⟩
  refine Run.region ?_
  refine Run.q (v := .slice none 0 0) rfl (OpQ.y (OpY.pure rfl)) ?_
  refine Run.done ?_
  refine Run.ret ?_
  refine ⟨.slice none 0 0, [.own (.slice none 0 0) 71 3 0 ([])], Out.one rfl rfl, (Some'.weak (.take (.nil _))), ?_⟩
  rfl

set_option maxHeartbeats 1000000 in
set_option maxRecDepth 20000 in
theorem CloneGate_some {a : Addr} {n c : Nat} {xs : List Int} {w : World} (hb : n ≤ 1048576) (ha : Sl w (.slice (some a) n c) 3 n (ints xs)) : Calls Try.prog 96 #[.slice (some a) n c] w (Post No w fun v H => H = [.own v 71 3 n (ints xs)]) := by
  have hxl := ha.len
  refine enter (n := 8) (args := [.slice (some a) n c]) Try.func96 rfl rfl (St.empty _ _) ?_
  refine Run.seq ?_
  refine Run.region ?_
  refine Run.q (v := .slice none 0 0) rfl (OpQ.y (OpY.pure rfl)) ?_
  refine Run.done ?_
  refine Run.seq ?_
  refine Run.seq ?_
  refine Run.region ?_
  refine Run.q (v := .slice (some a) n c) rfl (OpQ.y (OpY.pure rfl)) ?_
  refine Run.q (v := .bool false) rfl (OpQ.y (OpY.eqNilSome Tsl_36 rfl rfl)) ?_
  refine Run.done ?_
  refine Run.cond (b := false) rfl (fun h => nomatch h) (fun _ => ?_)
  refine Run.skip ?_
  refine Run.seq ?_
  refine Run.region ?_
  refine Run.step rfl (OpStep.buildSlice (us := []) Tsl_36 (by decide) (by decide) rfl rfl fun b1 => ?_)
  refine Run.q (v := .slice (some a) n c) rfl (OpQ.y (OpY.pure rfl)) ?_
  refine Run.step rfl (OpStep.append (H1 := []) (H2 := []) (v := .slice (some ⟨b1, 0, none⟩) 0 0) (u := .slice (some a) n c) (n := 0) (m := n) (xs := []) (ys := ints xs) Tsl_36 (by decide) rfl rfl rfl rfl (fun w hs => hs.sl ha) (by exact ints_all xs) (by omega) (by simp only [maxLen]; omega) fun av1 hnav1 => ?_)
  refine Run.weak (H' := [.own av1 71 3 n (ints xs)]) (Some'.weak (.takeEq (by simp) (.nil _))) ?_ ⟨_, _, rfl, fun _ => nofun, fun _ => nofun⟩
  refine Run.q (v := av1) rfl (OpQ.y (OpY.pure rfl)) ?_
  refine Run.done ?_
  refine Run.ret ?_
  refine ⟨av1, [.own av1 71 3 n (ints xs)], Out.one rfl rfl, (Some'.weak (.take (.nil _))), ?_⟩
  rfl


theorem CloneGate_spec {va : Value} {n : Nat} {xs : List Int} {w : World} (hb : n ≤ 1048576) (ha : Sl w va 3 n (ints xs)) : Calls Try.prog 96 #[va] w (Post No w fun v H => H = [.own v 71 3 n (ints xs)]) := by
  obtain ⟨A, c, rfl, _, _⟩ := ha.form0
  cases A with
  | none => exact CloneGate_nil hb ha
  | some a => exact CloneGate_some hb ha

end Go.Proofs.Yteehfidjofcfmaa
