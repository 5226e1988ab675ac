/- Walks: drawn graphs of wires. -/
import Derived.Test.YtoiaibgcjfgbcaaG9
import Derived.Test.YtoiaibgcjfgbcaaG3
import Derived.Test.YtoiaibgcjfgbcaaProg
import Derived.ChangeKeysEq
set_option linter.unusedSimpArgs false
set_option linter.unusedVariables false
namespace Go.Proofs.Ytoiaibgcjfgbcaa
open Go Go.RowKit
namespace FwjT
theorem Tagg_26 : aggOf Try.prog 26 = some 4 := by kernel_rfl
theorem Tagg_98 : aggOf Try.prog 98 = some 2 := by kernel_rfl
theorem Tcall_43 : callable Try.prog 43 = true := by kernel_rfl
theorem Tcall_78 : callable Try.prog 78 = true := by kernel_rfl
theorem Tfo_26_0 : fieldOff Try.prog 26 0 = some 0 := by kernel_rfl
theorem Tfo_26_1 : fieldOff Try.prog 26 1 = some 1 := by kernel_rfl
theorem Tfo_26_2 : fieldOff Try.prog 26 2 = some 2 := by kernel_rfl
theorem Tfo_26_3 : fieldOff Try.prog 26 3 = some 3 := by kernel_rfl
theorem Tone_24 : oneOf Try.prog 24 = true := by kernel_rfl
theorem Tone_3 : oneOf Try.prog 3 = true := by kernel_rfl
theorem Tsize_23 : (Try.prog.info? 23).map (·.size) = some 1 := by kernel_rfl
theorem Tsize_24 : (Try.prog.info? 24).map (·.size) = some 1 := by kernel_rfl
theorem Tsize_26 : (Try.prog.info? 26).map (·.size) = some 4 := by kernel_rfl
theorem Tsize_3 : (Try.prog.info? 3).map (·.size) = some 1 := by kernel_rfl
theorem Tsize_98 : (Try.prog.info? 98).map (·.size) = some 2 := by kernel_rfl
theorem Tsl_23 : sliceOf Try.prog 23 = some (80, 2, 16, [.int .i64 0, .int .i64 0]) := by kernel_rfl
theorem Tsl_24 : sliceOf Try.prog 24 = some (3, 1, 8, [.int .i64 0]) := by kernel_rfl
theorem Tsl_97 : sliceOf Try.prog 97 = some (98, 2, 16, [.int .i64 0, .int .i64 0]) := by kernel_rfl
theorem Tzero_26 : zeroOf Try.prog 26 = some [.int .i64 0, .slice none 0 0, .slice none 0 0, .slice none 0 0] := by kernel_rfl
theorem Tzero_98 : zeroOf Try.prog 98 = some [.int .i64 0, .int .i64 0] := by kernel_rfl
end FwjT
open FwjT
def numPair (P : Program) (t : TypeId) : Bool := match P.underlying t with
  | some (.array 2 e) => (match P.underlying e with | some (.int .i64) => true | _ => false) && (P.cellsOf e == 1) && (P.info? e).isSome && !P.eqGuardType P.depth t
  | _ => false
theorem OpY.eqPair {E : Env} {f : Fr} {H : List Res} {d : Option Tmp} {ty : TypeId} {pos : String} {after : Array Edge} {gd : Option (Nat × Bool)} {t t' : TypeId} {x y : Operand} {a b a' b' : Int} (ht : numPair E.P t = true)
    (hx : f.eval x = .agg #[.int .i64 a, .int .i64 b]) (hy : f.eval y = .agg #[.int .i64 a', .int .i64 b']) : OpY E ⟨d, .binOp .eql t x y t', ty, pos, after, gd⟩ f H (.bool (decide ([a, b] = [a', b']))) := by
  intro w _
  unfold numPair at ht
  split at ht
  · rename_i e hu
    simp only [Bool.and_eq_true, beq_iff_eq, Bool.not_eq_true'] at ht
    obtain ⟨⟨⟨h1, h2⟩, h3⟩, h6⟩ := ht
    have hu' : E.P.underlying e = some (.int .i64) := by
      split at h1
      · assumption
      · cases h1
    obtain ⟨i, hi⟩ := Option.isSome_iff_exists.1 h3
    have h := run_equalIn_array (P := E.P) w 9999 #[.int .i64 a, .int .i64 b] #[.int .i64 a', .int .i64 b'] hu hi
    have px : ∀ (c d : Int), (part e #[.int .i64 c, .int .i64 d] 0).run E.P w = .ok (.int .i64 c) w := fun c d => by simp [part, isAgg, run_underlying hu']
    have py : ∀ (c d : Int), (part e #[.int .i64 c, .int .i64 d] 1).run E.P w = .ok (.int .i64 d) w := fun c d => by simp [part, isAgg, run_underlying hu']
    have h4 : ∀ d, (Op.eqItems (d + 1) e (E.P.cellsOf e) #[.int .i64 a, .int .i64 b] #[.int .i64 a', .int .i64 b'] (List.range 2)).run E.P w = .ok (decide ([a, b] = [a', b'])) w := by
      intro d
      rw [h2, show List.range 2 = [0, 1] from rfl]
      simp only [Op.eqItems, Sem.run_bind, px, py, Nat.zero_mul, Nat.one_mul, Result.andThen_ok, run_equalIn_int w d e .i64 .i64 _ _ hu']
      by_cases h7 : a = a'
      · by_cases h8 : b = b'
        · simp [h7, h8, py, run_equalIn_int w d e .i64 .i64 _ _ hu']
        · simp [h7, h8, py, run_equalIn_int w d e .i64 .i64 _ _ hu']
      · simp [h7]
    rw [h4 9998] at h
    have h5 : (Op.equal t (.agg #[.int .i64 a, .int .i64 b]) (.agg #[.int .i64 a', .int .i64 b'])).run E.P w = .ok (decide ([a, b] = [a', b'])) w := by
      simpa [Op.equal, Op.maxDepth] using h
    simp only [execOp, hx, hy, eqGuard, binOp]
    simp [h5, h6]
  · cases ht
theorem small_app {es : List Int} {a b : Int} (h : ∀ x ∈ es, 0 ≤ x ∧ x ≤ 100) (ha : 0 ≤ a ∧ a ≤ 100) (hb : 0 ≤ b ∧ b ≤ 100) : ∀ x ∈ es ++ [a, b], 0 ≤ x ∧ x ≤ 100 := by
  intro x hx
  rcases List.mem_append.1 hx with h1 | h1
  · exact h x h1
  · simp only [List.mem_cons, List.not_mem_nil, or_false] at h1
    rcases h1 with rfl | rfl <;> omega
theorem small_nil : ∀ x ∈ ([] : List Int), (0 : Int) ≤ x ∧ x ≤ 100 := fun x h => by cases h

set_option maxHeartbeats 1000000 in
set_option maxRecDepth 20000 in
theorem l19Edges_spec {N m : Nat} {vp : Value} {ps : List Int} {w : World} (hN : N ≤ 10) (hp : Sl w vp 2 m (ints ps)) : Calls Try.prog 78 #[.int .i64 (N : Nat), vp] w (Post No w fun v H => ∃ (c : Nat) (es : List Int), (c ≤ 100 ∧ ∀ x ∈ es, 0 ≤ x ∧ x ≤ 100) ∧ H = [.own v 80 2 c (ints es)]) := by
 have hpl := hp.len
 have hpm := hp.le
 obtain ⟨Ap, cp, rfl, _, _⟩ := hp.form0
 refine enter (n := 48) (args := [.int .i64 (((N : Nat) : Int)), .slice Ap m cp]) Try.func78 rfl rfl (St.empty _ _) ?_
 refine Run.sr ?_
 refine Run.p (.slice none 0 0) rfl rfl ?_
 refine Run.dsr ?_
 refine Run.p (.slice none 0 0) rfl rfl ?_
 refine Run.done ?_
 refine Run.weak (H' := [.own (.slice none 0 0) 80 2 0 ([])]) (Weak.nilOwn _ _) ?_ ⟨_, _, rfl, fun _ => nofun, fun _ => nofun⟩
 refine Run.seq ?_
 refine Run.sr ?_
 refine Run.p (.int .i64 0) rfl rfl ?_
 refine Run.done ?_
 refine Run.block ?_
 refine Run.loop (ι := Nat × Nat × List Int × Value) [5, 6, 7, 9, 10, 11, 12, 13, 14, 15, 16, 17, 18, 19, 20, 21, 22, 23, 24, 25, 26, 27, 28, 29, 30, 31, 32, 33, 34, 35, 36, 37, 38, 39, 40, 41, 42, 43, 44, 45, 46] (fun ⟨a, c, es, vo⟩ => [(5, vo), (6, .int .i64 (((a : Nat) : Int)))]) (fun ⟨a, c, es, vo⟩ => [.own vo 80 2 c (ints es)]) (fun ⟨a, c, es, vo⟩ => a ≤ N ∧ c ≤ 10 * a ∧ ∀ x ∈ es, 0 ≤ x ∧ x ≤ 100) (fun ⟨a, c, es, vo⟩ => N - a) (0, 0, [], .slice none 0 0) ?_ ?_ ?_ ?_
 ·exact ⟨Nat.zero_le _, Nat.le_refl _, small_nil⟩
 ·exact ⟨rfl, rfl, trivial⟩
 ·exact ((Weak.refl _).trans (Some'.weak (.takeEq (by first | rfl | simp) (.nil _))))
 ·rintro ⟨a, c, es, vo⟩ fr hinv
  show Run _ _ (over _ _ [(5, vo), (6, .int .i64 (((a : Nat) : Int)))] fr) [.own vo 80 2 c (ints es)]
  try dsimp only at hinv
  refine Run.seq ?_
  refine Run.sr ?_
  refine Run.p (.int .i64 (((a : Nat) : Int))) rfl rfl ?_
  refine Run.p (.int .i64 (((N : Nat) : Int))) rfl rfl ?_
  refine Run.p (.bool (decide ((((a : Nat) : Int)) < (((N : Nat) : Int))))) rfl rfl ?_
  refine Run.done ?_
  refine Run.cond (b := decide ((((a : Nat) : Int)) < (((N : Nat) : Int)))) rfl (fun h12 => ?_) (fun h12 => ?_)
  ·have p12 := h12; try simp only [bs] at p12
   obtain ⟨ha1, ha2, ha3⟩ := hinv
   refine Run.skip ?_
   refine Run.seq ?_
   refine Run.block ?_
   refine Run.sr ?_
   refine Run.p (.int .i64 (((a : Nat) : Int))) rfl rfl ?_
   refine Run.y (.int .i64 (((a + 1 : Nat) : Int))) rfl (OpY.add rfl rfl (by omega) (by omega) (by omega)) ?_
   refine Run.p (.int .i64 (((a + 1 : Nat) : Int))) rfl rfl ?_
   refine Run.done ?_
   refine Run.block ?_
   refine Run.loop (ι := Nat × Nat × List Int × Value) [5, 7, 9, 17, 18, 19, 20, 21, 22, 23, 24, 25, 26, 27, 28, 29, 30, 31, 32, 33, 34, 35, 36, 37, 38, 39, 40, 41, 42, 43, 44, 45, 46] (fun ⟨b, c, es, vo⟩ => [(5, vo), (7, .int .i64 (((b : Nat) : Int)))]) (fun ⟨b, c, es, vo⟩ => [.own vo 80 2 c (ints es)]) (fun ⟨b, c, es, vo⟩ => b ≤ N ∧ c ≤ 10 * a + b ∧ ∀ x ∈ es, 0 ≤ x ∧ x ≤ 100) (fun ⟨b, c, es, vo⟩ => N - b) (a + 1, c, es, vo) ?_ ?_ ?_ ?_
   ·exact ⟨by omega, by omega, ha3⟩
   ·exact ⟨rfl, rfl, trivial⟩
   ·exact ((Weak.refl _).trans (Some'.weak (.take (.nil _))))
   ·rintro ⟨b, c, es, vo⟩ fr hinv
    show Run _ _ (over _ _ [(5, vo), (7, .int .i64 (((b : Nat) : Int)))] fr) [.own vo 80 2 c (ints es)]
    try dsimp only at hinv
    refine Run.seq ?_
    refine Run.sr ?_
    refine Run.p (.int .i64 (((b : Nat) : Int))) rfl rfl ?_
    refine Run.p (.int .i64 (((N : Nat) : Int))) rfl rfl ?_
    refine Run.p (.bool (decide ((((b : Nat) : Int)) < (((N : Nat) : Int))))) rfl rfl ?_
    refine Run.done ?_
    refine Run.cond (b := decide ((((b : Nat) : Int)) < (((N : Nat) : Int)))) rfl (fun h19 => ?_) (fun h19 => ?_)
    ·have p19 := h19; try simp only [bs] at p19
     obtain ⟨hb1, hb2, hb3⟩ := hinv
     refine Run.skip ?_
     refine Run.seq ?_
     refine Run.block ?_
     refine Run.sr ?_
     refine Run.p (.slice Ap m cp) rfl rfl ?_
     refine Run.y (.int .i64 (((m : Nat) : Int))) rfl (OpY.len Tsl_97 rfl) ?_
     refine Run.p (.int .i64 0) rfl rfl ?_
     refine Run.done ?_
     refine Run.block ?_
     refine Run.loop (ι := Nat) [5, 9, 24, 25, 26, 27, 28, 29, 30, 31, 32, 33, 34, 35, 36, 37, 38, 39, 40, 41, 42, 43, 44, 45, 46] (fun k => [(5, vo), (24, .int .i64 (((k : Nat) : Int)))]) (fun k => [.own vo 80 2 c (ints es)]) (fun k => k ≤ m) (fun k => m - k) 0 ?_ ?_ ?_ ?_
     ·exact Nat.zero_le _
     ·exact ⟨rfl, rfl, trivial⟩
     ·exact (Some'.weak (.take (.nil _)))
     ·rintro k fr hinv
      show Run _ _ (over _ _ [(5, vo), (24, .int .i64 (((k : Nat) : Int)))] fr) [.own vo 80 2 c (ints es)]
      try dsimp only at hinv
      refine Run.sr ?_
      refine Run.p (.bool (decide ((((k : Nat) : Int)) < (((m : Nat) : Int))))) rfl rfl ?_
      refine Run.done ?_
      refine Run.seq ?_
      refine Run.cond (b := decide ((((k : Nat) : Int)) < (((m : Nat) : Int)))) rfl (fun h25 => ?_) (fun h25 => ?_)
      ·have p25 := h25; try simp only [bs] at p25
       have hkm : k < m := by omega
       obtain ⟨bq, oq, rfl⟩ := hp.opn (by omega)
       refine Run.skip ?_
       refine Run.seq ?_
       refine Run.block ?_
       refine Run.sr ?_
       refine Run.y (.pointer (some ⟨bq, oq + k * 2, none⟩)) rfl (OpY.index (kk := k) Tsl_97 rfl rfl (by omega) (by omega) (by first | rfl | omega)) ?_
       refine Run.y (.agg #[.int .i64 (ix ps (k * 2)), .int .i64 (ix ps (k * 2 + 1))]) rfl (OpY.loadN (cs := [.int .i64 (ix ps (k * 2)), .int .i64 (ix ps (k * 2 + 1))]) Tagg_98 rfl (Cells.arg (k := k * 2) hp rfl (by omega) (pre2 (by omega)))) ?_
       refine Run.step rfl (OpStep.alloc (zs := [.int .i64 0, .int .i64 0]) Tzero_98 fun b1 => ?_)
       refine Run.step rfl (OpStep.storeAll (us := [.int .i64 (ix ps (k * 2)), .int .i64 (ix ps (k * 2 + 1))]) Tsize_98 rfl rfl rfl (.here _) rfl ?_)
       refine Run.dsr ?_
       refine Run.y (.agg #[.int .i64 (ix ps (k * 2)), .int .i64 (ix ps (k * 2 + 1))]) rfl (OpY.loadN (cs := [.int .i64 (ix ps (k * 2)), .int .i64 (ix ps (k * 2 + 1))]) Tagg_98 rfl (Cells.blk (.head _) ⟨rfl, rfl, trivial⟩)) ?_
       refine Run.p (.int .i64 (((a : Nat) : Int))) rfl rfl ?_
       refine Run.p (.int .i64 (((b : Nat) : Int))) rfl rfl ?_
       refine Run.y (.agg #[.int .i64 (((a : Nat) : Int)), .int .i64 (((b : Nat) : Int))]) rfl (OpY.build (cs := [.int .i64 (((a : Nat) : Int)), .int .i64 (((b : Nat) : Int))]) (by kernel_rfl)) ?_
       refine Run.y (.bool (decide ([ix ps (k * 2), ix ps (k * 2 + 1)] = [((a : Nat) : Int), ((b : Nat) : Int)]))) rfl (OpY.eqPair (by kernel_rfl) rfl rfl) ?_
       rcases Bool.eq_false_or_eq_true (decide ([ix ps (k * 2), ix ps (k * 2 + 1)] = [((a : Nat) : Int), ((b : Nat) : Int)])) with h33 | h33
       ·refine Run.q (v := .bool true) rfl (OpQ.y (OpY.moveB rfl h33)) ?_
        have p33 := h33; try simp only [bs] at p33
        refine Run.pass rfl ?_
        refine Run.pass rfl ?_
        refine Run.pass rfl ?_
        refine Run.pass rfl ?_
        refine Run.pass rfl ?_
        refine Run.p (.bool true) rfl rfl ?_
        refine Run.done ?_
        refine Run.cond (b := true) rfl (fun _ => ?_) (fun h => nomatch h)
        refine Run.sr ?_
        refine Run.p (vo) rfl rfl ?_
        refine Run.p (.int .i64 (((a : Nat) : Int))) rfl rfl ?_
        refine Run.p (.int .i64 (((b : Nat) : Int))) rfl rfl ?_
        refine Run.y (.agg #[.int .i64 (((a : Nat) : Int)), .int .i64 (((b : Nat) : Int))]) rfl (OpY.build (cs := [.int .i64 (((a : Nat) : Int)), .int .i64 (((b : Nat) : Int))]) (by kernel_rfl)) ?_
        refine Run.step rfl (OpStep.buildSlice (us := [.int .i64 (((a : Nat) : Int)), .int .i64 (((b : Nat) : Int))]) Tsl_23 (by decide) (by decide) ⟨rfl, [.int .i64 (((a : Nat) : Int)), .int .i64 (((b : Nat) : Int))], _, rfl, rfl, rfl, rfl⟩ rfl fun b2 => ?_)
        refine Run.step rfl (OpStep.append (H1 := [.own (.slice (some ⟨b2, 0, none⟩) 1 1) 80 2 1 ([.int .i64 (((a : Nat) : Int)), .int .i64 (((b : Nat) : Int))]), .blk b1 98 [.int .i64 (ix ps (k * 2)), .int .i64 (ix ps (k * 2 + 1))]]) (H2 := []) (v := vo) (u := .slice (some ⟨b2, 0, none⟩) 1 1) (n := c) (m := 1) (xs := ints es) (ys := [.int .i64 (((a : Nat) : Int)), .int .i64 (((b : Nat) : Int))]) Tsl_23 (by decide) rfl rfl rfl rfl (fun w hs => hs.slOwn (.head _)) (by simp [Value.oneCell']) (by omega) (by simp only [maxLen]; omega) fun av1 hnav1 => ?_)
        refine Run.weak (H' := [.own (.slice (some ⟨b2, 0, none⟩) 1 1) 80 2 1 ([.int .i64 (((a : Nat) : Int)), .int .i64 (((b : Nat) : Int))]), .blk b1 98 [.int .i64 (ix ps (k * 2)), .int .i64 (ix ps (k * 2 + 1))], .own av1 80 2 (c + 1) (ints (es ++ [((a : Nat) : Int), ((b : Nat) : Int)]))]) (Some'.weak (.take (.take (.takeEq (by simp [ints]) (.nil _))))) ?_ ⟨_, _, rfl, fun _ => nofun, fun _ => nofun⟩
        refine Run.p (av1) rfl rfl ?_
        refine Run.done ?_
        refine Run.exit rfl ?_
        refine Run.blockEnd ?_
        refine Run.region ?_
        refine Run.p (.int .i64 (((b : Nat) : Int))) rfl rfl ?_
        refine Run.y (.int .i64 (((b + 1 : Nat) : Int))) rfl (OpY.add rfl rfl (by omega) (by omega) (by omega)) ?_
        refine Run.p (.int .i64 (((b + 1 : Nat) : Int))) rfl rfl ?_
        refine Run.done ?_
        refine Run.goal ⟨(by repeat (first | exact Same.refl _ _ | refine Same.put rfl ?_ | refine Same.over rfl rfl ?_)), (b + 1, c + 1, (es ++ [((a : Nat) : Int), ((b : Nat) : Int)]), av1), ?_, ?_, ?_, ?_⟩
        ·first | exact ⟨by omega, by omega, hb3⟩ | exact ⟨by omega, by omega, small_app hb3 (by omega) (by omega)⟩
        ·show N - (b + 1) < N - b; omega
        ·exact ⟨(by first | rfl | (congr 1; omega) | simp), (by first | rfl | (congr 1; omega) | simp), trivial⟩
        ·exact ((Weak.selF [2]).trans (Some'.weak (.takeEq (by first | rfl | simp) (.nil _))))
       ·refine Run.q (v := .bool false) rfl (OpQ.y (OpY.moveB rfl h33)) ?_
        have p33 := h33; try simp only [bs] at p33
        refine Run.y (.agg #[.int .i64 (ix ps (k * 2)), .int .i64 (ix ps (k * 2 + 1))]) rfl (OpY.loadN (cs := [.int .i64 (ix ps (k * 2)), .int .i64 (ix ps (k * 2 + 1))]) Tagg_98 rfl (Cells.blk (.head _) ⟨rfl, rfl, trivial⟩)) ?_
        refine Run.p (.int .i64 (((b : Nat) : Int))) rfl rfl ?_
        refine Run.p (.int .i64 (((a : Nat) : Int))) rfl rfl ?_
        refine Run.y (.agg #[.int .i64 (((b : Nat) : Int)), .int .i64 (((a : Nat) : Int))]) rfl (OpY.build (cs := [.int .i64 (((b : Nat) : Int)), .int .i64 (((a : Nat) : Int))]) (by kernel_rfl)) ?_
        refine Run.y (.bool (decide ([ix ps (k * 2), ix ps (k * 2 + 1)] = [((b : Nat) : Int), ((a : Nat) : Int)]))) rfl (OpY.eqPair (by kernel_rfl) rfl rfl) ?_
        refine Run.p (.bool (decide ([ix ps (k * 2), ix ps (k * 2 + 1)] = [((b : Nat) : Int), ((a : Nat) : Int)]))) rfl rfl ?_
        refine Run.done ?_
        refine Run.cond (b := decide ([ix ps (k * 2), ix ps (k * 2 + 1)] = [((b : Nat) : Int), ((a : Nat) : Int)])) rfl (fun h39 => ?_) (fun h39 => ?_)
        ·have p39 := h39; try simp only [bs] at p39
         refine Run.sr ?_
         refine Run.p (vo) rfl rfl ?_
         refine Run.p (.int .i64 (((a : Nat) : Int))) rfl rfl ?_
         refine Run.p (.int .i64 (((b : Nat) : Int))) rfl rfl ?_
         refine Run.y (.agg #[.int .i64 (((a : Nat) : Int)), .int .i64 (((b : Nat) : Int))]) rfl (OpY.build (cs := [.int .i64 (((a : Nat) : Int)), .int .i64 (((b : Nat) : Int))]) (by kernel_rfl)) ?_
         refine Run.step rfl (OpStep.buildSlice (us := [.int .i64 (((a : Nat) : Int)), .int .i64 (((b : Nat) : Int))]) Tsl_23 (by decide) (by decide) ⟨rfl, [.int .i64 (((a : Nat) : Int)), .int .i64 (((b : Nat) : Int))], _, rfl, rfl, rfl, rfl⟩ rfl fun b3 => ?_)
         refine Run.step rfl (OpStep.append (H1 := [.own (.slice (some ⟨b3, 0, none⟩) 1 1) 80 2 1 ([.int .i64 (((a : Nat) : Int)), .int .i64 (((b : Nat) : Int))]), .blk b1 98 [.int .i64 (ix ps (k * 2)), .int .i64 (ix ps (k * 2 + 1))]]) (H2 := []) (v := vo) (u := .slice (some ⟨b3, 0, none⟩) 1 1) (n := c) (m := 1) (xs := ints es) (ys := [.int .i64 (((a : Nat) : Int)), .int .i64 (((b : Nat) : Int))]) Tsl_23 (by decide) rfl rfl rfl rfl (fun w hs => hs.slOwn (.head _)) (by simp [Value.oneCell']) (by omega) (by simp only [maxLen]; omega) fun av2 hnav2 => ?_)
         refine Run.weak (H' := [.own (.slice (some ⟨b3, 0, none⟩) 1 1) 80 2 1 ([.int .i64 (((a : Nat) : Int)), .int .i64 (((b : Nat) : Int))]), .blk b1 98 [.int .i64 (ix ps (k * 2)), .int .i64 (ix ps (k * 2 + 1))], .own av2 80 2 (c + 1) (ints (es ++ [((a : Nat) : Int), ((b : Nat) : Int)]))]) (Some'.weak (.take (.take (.takeEq (by simp [ints]) (.nil _))))) ?_ ⟨_, _, rfl, fun _ => nofun, fun _ => nofun⟩
         refine Run.p (av2) rfl rfl ?_
         refine Run.done ?_
         refine Run.exit rfl ?_
         refine Run.blockEnd ?_
         refine Run.region ?_
         refine Run.p (.int .i64 (((b : Nat) : Int))) rfl rfl ?_
         refine Run.y (.int .i64 (((b + 1 : Nat) : Int))) rfl (OpY.add rfl rfl (by omega) (by omega) (by omega)) ?_
         refine Run.p (.int .i64 (((b + 1 : Nat) : Int))) rfl rfl ?_
         refine Run.done ?_
         refine Run.goal ⟨(by repeat (first | exact Same.refl _ _ | refine Same.put rfl ?_ | refine Same.over rfl rfl ?_)), (b + 1, c + 1, (es ++ [((a : Nat) : Int), ((b : Nat) : Int)]), av2), ?_, ?_, ?_, ?_⟩
         ·first | exact ⟨by omega, by omega, hb3⟩ | exact ⟨by omega, by omega, small_app hb3 (by omega) (by omega)⟩
         ·show N - (b + 1) < N - b; omega
         ·exact ⟨(by first | rfl | (congr 1; omega) | simp), (by first | rfl | (congr 1; omega) | simp), trivial⟩
         ·exact ((Weak.selF [2]).trans (Some'.weak (.takeEq (by first | rfl | simp) (.nil _))))
        ·have p39 := h39; try simp only [bs] at p39
         refine Run.skip ?_
         refine Run.blockEnd ?_
         refine Run.region ?_
         refine Run.y (.int .i64 (((k + 1 : Nat) : Int))) rfl (OpY.add rfl rfl (by omega) (by omega) (by omega)) ?_
         refine Run.p (.int .i64 (((k + 1 : Nat) : Int))) rfl rfl ?_
         refine Run.done ?_
         refine Run.goal ⟨(by repeat (first | exact Same.refl _ _ | refine Same.put rfl ?_ | refine Same.over rfl rfl ?_)), k + 1, ?_, ?_, ?_, ?_⟩
         ·exact hkm
         ·omega
         ·exact ⟨(by first | rfl | (congr 1; omega) | simp), (by first | rfl | (congr 1; omega) | simp), trivial⟩
         ·exact (Some'.weak (.skip (.takeEq (by first | rfl | simp) (.nil _))))
      ·have p25 := h25; try simp only [bs] at p25
       refine Run.exit rfl ?_
       refine Run.blockEnd ?_
       refine Run.region ?_
       refine Run.p (.int .i64 (((b : Nat) : Int))) rfl rfl ?_
       refine Run.y (.int .i64 (((b + 1 : Nat) : Int))) rfl (OpY.add rfl rfl (by omega) (by omega) (by omega)) ?_
       refine Run.p (.int .i64 (((b + 1 : Nat) : Int))) rfl rfl ?_
       refine Run.done ?_
       refine Run.goal ⟨(by repeat (first | exact Same.refl _ _ | refine Same.put rfl ?_ | refine Same.over rfl rfl ?_)), (b + 1, c, es, vo), ?_, ?_, ?_, ?_⟩
       ·first | exact ⟨by omega, by omega, hb3⟩ | exact ⟨by omega, by omega, small_app hb3 (by omega) (by omega)⟩
       ·show N - (b + 1) < N - b; omega
       ·exact ⟨(by first | rfl | (congr 1; omega) | simp), (by first | rfl | (congr 1; omega) | simp), trivial⟩
       ·exact ((Weak.refl _).trans (Some'.weak (.takeEq (by first | rfl | simp) (.nil _))))
    ·have p19 := h19; try simp only [bs] at p19
     obtain ⟨hb1, hb2, hb3⟩ := hinv
     refine Run.exit rfl ?_
     refine Run.blockEnd ?_
     refine Run.region ?_
     refine Run.p (.int .i64 (((a : Nat) : Int))) rfl rfl ?_
     refine Run.y (.int .i64 (((a + 1 : Nat) : Int))) rfl (OpY.add rfl rfl (by omega) (by omega) (by omega)) ?_
     refine Run.p (.int .i64 (((a + 1 : Nat) : Int))) rfl rfl ?_
     refine Run.done ?_
     refine Run.goal ⟨(by repeat (first | exact Same.refl _ _ | refine Same.put rfl ?_ | refine Same.over rfl rfl ?_)), (a + 1, c, es, vo), ?_, ?_, ?_, ?_⟩
     ·exact ⟨by omega, by omega, hb3⟩
     ·show N - (a + 1) < N - a; omega
     ·exact ⟨(by first | rfl | (congr 1; omega) | simp), (by first | rfl | (congr 1; omega) | simp), trivial⟩
     ·exact ((Weak.refl _).trans (Some'.weak (.takeEq (by first | rfl | simp) (.nil _))))
  ·have p12 := h12; try simp only [bs] at p12
   obtain ⟨ha1, ha2, ha3⟩ := hinv
   refine Run.exit rfl ?_
   refine Run.sr ?_
   refine Run.p (vo) rfl rfl ?_
   refine Run.p (vo) rfl rfl ?_
   refine Run.done ?_
   refine Run.ret ?_
   refine ⟨vo, [.own vo 80 2 c (ints es)], Out.one rfl rfl, (Some'.weak (.take (.nil _))), ?_⟩
   exact ⟨_, _, ⟨by omega, ha3⟩, rfl⟩

set_option maxHeartbeats 2000000 in
set_option maxRecDepth 20000 in
theorem wires_spec {bc n : Nat} {vc : Value} {cs : List Int} {s : Nat × Int} {w : World} (hat : s.1 < 2305843009212000000) (hc : Cur w bc vc n cs) (hst : St (Of [.blk bc 64 [vc, .int .i64 (((s.1 : Nat) : Int)), .int .u64 (s.2)]]) w w [.blk bc 64 [vc, .int .i64 (((s.1 : Nat) : Int)), .int .u64 (s.2)]]) : Calls Try.prog 63 #[.pointer (some ⟨bc, 0, none⟩)] w (Post (Of [.blk bc 64 [vc, .int .i64 (((s.1 : Nat) : Int)), .int .u64 (s.2)]]) w fun v H => ∃ (N m ni no : Nat) (ve vi vo : Value) (es is os : List Int) (s1 : Nat × Int), ((1 ≤ N ∧ N ≤ 10) ∧ m ≤ 100 ∧ ni ≤ 11 ∧ no ≤ 11 ∧ s1.1 ≤ s.1 + 100 ∧ ∀ x ∈ es, 0 ≤ x ∧ x ≤ 100) ∧ v = .agg #[.int .i64 (N : Nat), ve, vi, vo] ∧ H = [.own ve 80 2 m (ints es), .own vi 3 1 ni (ints is), .own vo 3 1 no (ints os), .blk bc 64 [vc, .int .i64 (s1.1 : Nat), .int .u64 s1.2]]) := by
 refine enter (n := 82) (args := [.pointer (some ⟨bc, 0, none⟩)]) Try.func63 rfl rfl (hst) ?_
 refine Run.sr ?_
 refine Run.step rfl (OpStep.alloc (zs := [.int .i64 0, .slice none 0 0, .slice none 0 0, .slice none 0 0]) Tzero_26 fun b1 => ?_)
 refine Run.dsr ?_
 refine Run.p (.pointer (some ⟨bc, 0, none⟩)) rfl rfl ?_
 refine Run.step rfl (OpStep.callM (H1 := [.blk bc 64 [vc, .int .i64 (((s.1 : Nat) : Int)), .int .u64 (s.2)]]) (H2 := [.blk b1 26 [.int .i64 0, .slice none 0 0, .slice none 0 0, .slice none 0 0]]) (vs := [.pointer (some ⟨bc, 0, none⟩), .int .i64 3]) (caps := []) Tcall_43 rfl rfl (Weak.selF [1]) (fun w hs => pick_ex (by omega) (hc.go hs) (hs.sub (List.sublist_append_left _ _)).self) ?_)
 rintro _ _ ⟨x1, s1, hx1, hs1, rfl, rfl⟩
 show Run _ _ (putF _ _ _ (.int .i64 x1)) [.blk bc 64 [vc, .int .i64 (((s1.1 : Nat) : Int)), .int .u64 (s1.2)], .blk b1 26 [.int .i64 0, .slice none 0 0, .slice none 0 0, .slice none 0 0]]
 refine Run.y (.int .i64 (1 + x1)) rfl (OpY.add rfl rfl (by omega) (by omega) (by omega)) ?_
 refine Run.p (.int .i64 (1 + x1)) rfl rfl ?_
 refine Run.dsr ?_
 refine Run.y (.agg #[.int .i64 0, .slice none 0 0, .slice none 0 0, .slice none 0 0]) rfl (OpY.build (cs := [.int .i64 0, .slice none 0 0, .slice none 0 0, .slice none 0 0]) (by kernel_rfl)) ?_
 refine Run.step rfl (OpStep.alloc (zs := [.int .i64 0, .slice none 0 0, .slice none 0 0, .slice none 0 0]) Tzero_26 fun b2 => ?_)
 refine Run.step rfl (OpStep.storeAll (us := [.int .i64 0, .slice none 0 0, .slice none 0 0, .slice none 0 0]) Tsize_26 rfl rfl rfl (.here _) rfl ?_)
 refine Run.done ?_
 obtain ⟨K, hK⟩ : ∃ K : Nat, 1 + x1 = ((K : Nat) : Int) := ⟨(1 + x1).toNat, by omega⟩
 rw [hK]
 refine Run.sr ?_
 refine Run.p (.slice none 0 0) rfl rfl ?_
 refine Run.done ?_
 refine Run.seq ?_
 refine Run.sr ?_
 refine Run.p (.int .i64 0) rfl rfl ?_
 refine Run.done ?_
 refine Run.weak (H' := [.own (.slice none 0 0) 98 2 0 ([]), .blk b2 26 [.int .i64 0, .slice none 0 0, .slice none 0 0, .slice none 0 0], .blk bc 64 [vc, .int .i64 (((s1.1 : Nat) : Int)), .int .u64 (s1.2)], .blk b1 26 [.int .i64 0, .slice none 0 0, .slice none 0 0, .slice none 0 0]]) (Weak.nilOwn _ _) ?_ ⟨_, _, rfl, fun _ => nofun, fun _ => nofun⟩
 refine Run.weak (H' := [.own (.slice none 0 0) 3 1 0 ([]), .own (.slice none 0 0) 98 2 0 ([]), .blk b2 26 [.int .i64 0, .slice none 0 0, .slice none 0 0, .slice none 0 0], .blk bc 64 [vc, .int .i64 (((s1.1 : Nat) : Int)), .int .u64 (s1.2)], .blk b1 26 [.int .i64 0, .slice none 0 0, .slice none 0 0, .slice none 0 0]]) (Weak.nilOwn _ _) ?_ ⟨_, _, rfl, fun _ => nofun, fun _ => nofun⟩
 refine Run.weak (H' := [.own (.slice none 0 0) 3 1 0 ([]), .own (.slice none 0 0) 3 1 0 ([]), .own (.slice none 0 0) 98 2 0 ([]), .blk b2 26 [.int .i64 0, .slice none 0 0, .slice none 0 0, .slice none 0 0], .blk bc 64 [vc, .int .i64 (((s1.1 : Nat) : Int)), .int .u64 (s1.2)], .blk b1 26 [.int .i64 0, .slice none 0 0, .slice none 0 0, .slice none 0 0]]) (Weak.nilOwn _ _) ?_ ⟨_, _, rfl, fun _ => nofun, fun _ => nofun⟩
 refine Run.block ?_
 refine Run.loop (ι := Nat × Nat × (Nat × Int) × (Nat × List Int × Value) × (Nat × List Int × Value) × (Nat × List Int × Value)) [5, 6, 7, 8, 14, 15, 16, 17, 18, 19, 20, 21, 22, 23, 24, 25, 26, 27, 28, 29, 30, 31, 32, 33, 34, 35, 36, 37, 38, 39, 40, 41, 42, 43, 44, 45, 46, 47, 48, 49, 50, 51, 52, 53, 54, 55, 56, 57] (fun ⟨w, N, sc, ⟨m, ps, vp⟩, ⟨ni, is, vi⟩, ⟨no, os, vo⟩⟩ => [(5, vp), (6, .int .i64 (((w : Nat) : Int)))]) (fun ⟨w, N, sc, ⟨m, ps, vp⟩, ⟨ni, is, vi⟩, ⟨no, os, vo⟩⟩ => [.blk b2 26 [.int .i64 (((N : Nat) : Int)), .slice none 0 0, vi, vo], .own vp 98 2 m (ints ps), .own vi 3 1 ni (ints is), .own vo 3 1 no (ints os), .blk b1 26 [.int .i64 0, .slice none 0 0, .slice none 0 0, .slice none 0 0], .blk bc 64 [vc, .int .i64 (((sc.1 : Nat) : Int)), .int .u64 (sc.2)]]) (fun ⟨w, N, sc, ⟨m, ps, vp⟩, ⟨ni, is, vi⟩, ⟨no, os, vo⟩⟩ => w ≤ K ∧ (N ≤ 3 * w ∧ w ≤ N) ∧ m ≤ 2 * w ∧ ni = w ∧ no = w ∧ sc.1 ≤ s.1 + 2 + 2 * w) (fun ⟨w, N, sc, ⟨m, ps, vp⟩, ⟨ni, is, vi⟩, ⟨no, os, vo⟩⟩ => K - w) (0, 0, s1, (0, [], .slice none 0 0), (0, [], .slice none 0 0), (0, [], .slice none 0 0)) ?_ ?_ ?_ ?_
 ·exact ⟨Nat.zero_le _, by omega, Nat.zero_le _, rfl, rfl, by omega⟩
 ·exact ⟨rfl, rfl, trivial⟩
 ·exact ((Weak.selF [3, 2, 0, 0, 1, 0]).trans (Some'.weak (.takeEq (by first | rfl | simp) (.takeEq (by first | rfl | simp) (.takeEq (by first | rfl | simp) (.takeEq (by first | rfl | simp) (.take (.takeEq (by first | rfl | simp) (.nil _)))))))))
 ·rintro ⟨w, N, sc, ⟨m, ps, vp⟩, ⟨ni, is, vi⟩, ⟨no, os, vo⟩⟩ fr hinv
  show Run _ _ (over _ _ [(5, vp), (6, .int .i64 (((w : Nat) : Int)))] fr) [.blk b2 26 [.int .i64 (((N : Nat) : Int)), .slice none 0 0, vi, vo], .own vp 98 2 m (ints ps), .own vi 3 1 ni (ints is), .own vo 3 1 no (ints os), .blk b1 26 [.int .i64 0, .slice none 0 0, .slice none 0 0, .slice none 0 0], .blk bc 64 [vc, .int .i64 (((sc.1 : Nat) : Int)), .int .u64 (sc.2)]]
  try dsimp only at hinv
  refine Run.seq ?_
  refine Run.sr ?_
  refine Run.p (.int .i64 (((w : Nat) : Int))) rfl rfl ?_
  refine Run.p (.int .i64 (((K : Nat) : Int))) rfl rfl ?_
  refine Run.p (.bool (decide ((((w : Nat) : Int)) < (((K : Nat) : Int))))) rfl rfl ?_
  refine Run.done ?_
  refine Run.cond (b := decide ((((w : Nat) : Int)) < (((K : Nat) : Int)))) rfl (fun h16 => ?_) (fun h16 => ?_)
  ·have p16 := h16; try simp only [bs] at p16
   obtain ⟨hw1, hw2, hw3, hw4, hw5, hw6⟩ := hinv
   refine Run.skip ?_
   refine Run.seq ?_
   refine Run.block ?_
   refine Run.sr ?_
   refine Run.p (.pointer (some ⟨bc, 0, none⟩)) rfl rfl ?_
   refine Run.step rfl (OpStep.callM (H1 := [.blk bc 64 [vc, .int .i64 (((sc.1 : Nat) : Int)), .int .u64 (sc.2)]]) (H2 := [.blk b2 26 [.int .i64 (((N : Nat) : Int)), .slice none 0 0, vi, vo], .own vp 98 2 m (ints ps), .own vi 3 1 ni (ints is), .own vo 3 1 no (ints os), .blk b1 26 [.int .i64 0, .slice none 0 0, .slice none 0 0, .slice none 0 0]]) (vs := [.pointer (some ⟨bc, 0, none⟩), .int .i64 3]) (caps := []) Tcall_43 rfl rfl (Weak.selF [5]) (fun w hs => pick_ex (by omega) (hc.go hs) (hs.sub (List.sublist_append_left _ _)).self) ?_)
   rintro _ _ ⟨x2, s2, hx2, hs2, rfl, rfl⟩
   show Run _ _ (putF _ _ _ (.int .i64 x2)) [.blk bc 64 [vc, .int .i64 (((s2.1 : Nat) : Int)), .int .u64 (s2.2)], .blk b2 26 [.int .i64 (((N : Nat) : Int)), .slice none 0 0, vi, vo], .own vp 98 2 m (ints ps), .own vi 3 1 ni (ints is), .own vo 3 1 no (ints os), .blk b1 26 [.int .i64 0, .slice none 0 0, .slice none 0 0, .slice none 0 0]]
   refine Run.y (.int .i64 (1 + x2)) rfl (OpY.add rfl rfl rfl (by omega) (by omega)) ?_
   refine Run.p (.int .i64 (1 + x2)) rfl rfl ?_
   refine Run.dsr ?_
   refine Run.y (.pointer (some ⟨b2, 2, none⟩)) rfl (OpY.fieldAddr Tfo_26_2 rfl rfl) ?_
   refine Run.y (vi) rfl (OpY.load1 Tone_24 rfl (Cells.blk (.tail _ (List.Mem.head _)) ⟨rfl, trivial⟩)) ?_
   refine Run.y (.pointer (some ⟨b2, 0, none⟩)) rfl (OpY.fieldAddr Tfo_26_0 rfl rfl) ?_
   refine Run.y (.int .i64 (((N : Nat) : Int))) rfl (OpY.load1 Tone_3 rfl (Cells.blk (.tail _ (List.Mem.head _)) ⟨rfl, trivial⟩)) ?_
   refine Run.step rfl (OpStep.buildSlice (us := [.int .i64 (((N : Nat) : Int))]) Tsl_24 (by decide) (by decide) ⟨rfl, [.int .i64 (((N : Nat) : Int))], _, rfl, rfl, rfl, rfl⟩ rfl fun b3 => ?_)
   refine Run.step rfl (OpStep.append (H1 := [.own (.slice (some ⟨b3, 0, none⟩) 1 1) 3 1 1 ([.int .i64 (((N : Nat) : Int))]), .blk bc 64 [vc, .int .i64 (((s2.1 : Nat) : Int)), .int .u64 (s2.2)], .blk b2 26 [.int .i64 (((N : Nat) : Int)), .slice none 0 0, vi, vo], .own vp 98 2 m (ints ps)]) (H2 := [.own vo 3 1 no (ints os), .blk b1 26 [.int .i64 0, .slice none 0 0, .slice none 0 0, .slice none 0 0]]) (v := vi) (u := .slice (some ⟨b3, 0, none⟩) 1 1) (n := ni) (m := 1) (xs := ints is) (ys := [.int .i64 (((N : Nat) : Int))]) Tsl_24 (by decide) rfl rfl rfl rfl (fun w hs => hs.slOwn (.head _)) (by simp [Value.oneCell']) (by omega) (by simp only [maxLen]; omega) fun av1 hnav1 => ?_)
   refine Run.weak (H' := [.own (.slice (some ⟨b3, 0, none⟩) 1 1) 3 1 1 ([.int .i64 (((N : Nat) : Int))]), .blk bc 64 [vc, .int .i64 (((s2.1 : Nat) : Int)), .int .u64 (s2.2)], .blk b2 26 [.int .i64 (((N : Nat) : Int)), .slice none 0 0, vi, vo], .own vp 98 2 m (ints ps), .own av1 3 1 (ni + 1) (ints (is ++ [((N : Nat) : Int)])), .own vo 3 1 no (ints os), .blk b1 26 [.int .i64 0, .slice none 0 0, .slice none 0 0, .slice none 0 0]]) (Some'.weak (.take (.take (.take (.take (.takeEq (by simp [ints]) (.take (.take (.nil _))))))))) ?_ ⟨_, _, rfl, fun _ => nofun, fun _ => nofun⟩
   refine Run.y (.pointer (some ⟨b2, 2, none⟩)) rfl (OpY.fieldAddr Tfo_26_2 rfl rfl) ?_
   refine Run.formOwn (.tail _ (.tail _ (.tail _ (.tail _ (List.Mem.head _))))) (fun A_av11 c_av11 hv hcapc_av11 hmaxc_av11 => ?_) (fun _ _ _ => ⟨nofun, nofun, nofun⟩)
   subst hv
   refine Run.step rfl (OpStep.store (us := [.slice A_av11 (ni + 1) c_av11]) Tsize_24 rfl rfl rfl (.there _ (.there _ (.here _))) (by simp only [List.length_cons, List.length_nil]; omega) ?_)
   show Run _ _ _ [.own (.slice (some ⟨b3, 0, none⟩) 1 1) 3 1 1 ([.int .i64 (((N : Nat) : Int))]), .blk bc 64 [vc, .int .i64 (((s2.1 : Nat) : Int)), .int .u64 (s2.2)], .blk b2 26 [.int .i64 (((N : Nat) : Int)), .slice none 0 0, .slice A_av11 (ni + 1) c_av11, vo], .own vp 98 2 m (ints ps), .own (.slice A_av11 (ni + 1) c_av11) 3 1 (ni + 1) (ints (is ++ [((N : Nat) : Int)])), .own vo 3 1 no (ints os), .blk b1 26 [.int .i64 0, .slice none 0 0, .slice none 0 0, .slice none 0 0]]
   refine Run.done ?_
   obtain ⟨J, hJ⟩ : ∃ J : Nat, 1 + x2 = ((J : Nat) : Int) := ⟨(1 + x2).toNat, by omega⟩
   rw [hJ]
   refine Run.seq ?_
   refine Run.sr ?_
   refine Run.p (.int .i64 1) rfl rfl ?_
   refine Run.done ?_
   refine Run.block ?_
   refine Run.loop (ι := Nat × Nat × Nat × List Int × Value) [5, 8, 29, 30, 31, 32, 33, 34, 35, 36, 37, 38, 39, 40, 41, 42, 43, 44, 45, 46] (fun ⟨k, N2, m2, ps2, vp2⟩ => [(5, vp2), (8, .int .i64 (((k : Nat) : Int)))]) (fun ⟨k, N2, m2, ps2, vp2⟩ => [.blk b2 26 [.int .i64 (((N2 : Nat) : Int)), .slice none 0 0, .slice A_av11 (ni + 1) c_av11, vo], .own vp2 98 2 m2 (ints ps2), .own (.slice (some ⟨b3, 0, none⟩) 1 1) 3 1 1 ([.int .i64 (((N : Nat) : Int))]), .blk bc 64 [vc, .int .i64 (((s2.1 : Nat) : Int)), .int .u64 (s2.2)], .own (.slice A_av11 (ni + 1) c_av11) 3 1 (ni + 1) (ints (is ++ [((N : Nat) : Int)])), .own vo 3 1 no (ints os), .blk b1 26 [.int .i64 0, .slice none 0 0, .slice none 0 0, .slice none 0 0]]) (fun ⟨k, N2, m2, ps2, vp2⟩ => (1 ≤ k ∧ k ≤ J) ∧ N2 + 1 = N + k ∧ m2 + 1 = m + k) (fun ⟨k, N2, m2, ps2, vp2⟩ => J - k) (1, N, m, ps, vp) ?_ ?_ ?_ ?_
   ·exact ⟨by omega, by omega, by omega⟩
   ·exact ⟨rfl, rfl, trivial⟩
   ·exact ((Weak.selF [2, 2, 0, 0, 0, 0, 0]).trans (Some'.weak (.takeEq (by first | rfl | simp) (.takeEq (by first | rfl | simp) (.take (.take (.take (.take (.take (.nil _))))))))))
   ·rintro ⟨k, N2, m2, ps2, vp2⟩ fr hinv
    show Run _ _ (over _ _ [(5, vp2), (8, .int .i64 (((k : Nat) : Int)))] fr) [.blk b2 26 [.int .i64 (((N2 : Nat) : Int)), .slice none 0 0, .slice A_av11 (ni + 1) c_av11, vo], .own vp2 98 2 m2 (ints ps2), .own (.slice (some ⟨b3, 0, none⟩) 1 1) 3 1 1 ([.int .i64 (((N : Nat) : Int))]), .blk bc 64 [vc, .int .i64 (((s2.1 : Nat) : Int)), .int .u64 (s2.2)], .own (.slice A_av11 (ni + 1) c_av11) 3 1 (ni + 1) (ints (is ++ [((N : Nat) : Int)])), .own vo 3 1 no (ints os), .blk b1 26 [.int .i64 0, .slice none 0 0, .slice none 0 0, .slice none 0 0]]
    try dsimp only at hinv
    refine Run.seq ?_
    refine Run.sr ?_
    refine Run.p (.int .i64 (((k : Nat) : Int))) rfl rfl ?_
    refine Run.p (.int .i64 (((J : Nat) : Int))) rfl rfl ?_
    refine Run.p (.bool (decide ((((k : Nat) : Int)) < (((J : Nat) : Int))))) rfl rfl ?_
    refine Run.done ?_
    refine Run.cond (b := decide ((((k : Nat) : Int)) < (((J : Nat) : Int)))) rfl (fun h31 => ?_) (fun h31 => ?_)
    ·have p31 := h31; try simp only [bs] at p31
     obtain ⟨hk1, hk2, hk3⟩ := hinv
     refine Run.skip ?_
     refine Run.seq ?_
     refine Run.block ?_
     refine Run.sr ?_
     refine Run.p (vp2) rfl rfl ?_
     refine Run.y (.pointer (some ⟨b2, 0, none⟩)) rfl (OpY.fieldAddr Tfo_26_0 rfl rfl) ?_
     refine Run.y (.int .i64 (((N2 : Nat) : Int))) rfl (OpY.load1 Tone_3 rfl (Cells.blk (.head _) ⟨rfl, trivial⟩)) ?_
     refine Run.y (.pointer (some ⟨b2, 0, none⟩)) rfl (OpY.fieldAddr Tfo_26_0 rfl rfl) ?_
     refine Run.y (.int .i64 (((N2 : Nat) : Int))) rfl (OpY.load1 Tone_3 rfl (Cells.blk (.head _) ⟨rfl, trivial⟩)) ?_
     refine Run.y (.int .i64 (((N2 + 1 : Nat) : Int))) rfl (OpY.add rfl rfl (by omega) (by omega) (by omega)) ?_
     refine Run.y (.agg #[.int .i64 (((N2 : Nat) : Int)), .int .i64 (((N2 + 1 : Nat) : Int))]) rfl (OpY.build (cs := [.int .i64 (((N2 : Nat) : Int)), .int .i64 (((N2 + 1 : Nat) : Int))]) (by kernel_rfl)) ?_
     refine Run.step rfl (OpStep.buildSlice (us := [.int .i64 (((N2 : Nat) : Int)), .int .i64 (((N2 + 1 : Nat) : Int))]) Tsl_97 (by decide) (by decide) ⟨rfl, [.int .i64 (((N2 : Nat) : Int)), .int .i64 (((N2 + 1 : Nat) : Int))], _, rfl, rfl, rfl, rfl⟩ rfl fun b4 => ?_)
     refine Run.step rfl (OpStep.append (H1 := [.own (.slice (some ⟨b4, 0, none⟩) 1 1) 98 2 1 ([.int .i64 (((N2 : Nat) : Int)), .int .i64 (((N2 + 1 : Nat) : Int))]), .blk b2 26 [.int .i64 (((N2 : Nat) : Int)), .slice none 0 0, .slice A_av11 (ni + 1) c_av11, vo]]) (H2 := [.own (.slice (some ⟨b3, 0, none⟩) 1 1) 3 1 1 ([.int .i64 (((N : Nat) : Int))]), .blk bc 64 [vc, .int .i64 (((s2.1 : Nat) : Int)), .int .u64 (s2.2)], .own (.slice A_av11 (ni + 1) c_av11) 3 1 (ni + 1) (ints (is ++ [((N : Nat) : Int)])), .own vo 3 1 no (ints os), .blk b1 26 [.int .i64 0, .slice none 0 0, .slice none 0 0, .slice none 0 0]]) (v := vp2) (u := .slice (some ⟨b4, 0, none⟩) 1 1) (n := m2) (m := 1) (xs := ints ps2) (ys := [.int .i64 (((N2 : Nat) : Int)), .int .i64 (((N2 + 1 : Nat) : Int))]) Tsl_97 (by decide) rfl rfl rfl rfl (fun w hs => hs.slOwn (.head _)) (by simp [Value.oneCell']) (by omega) (by simp only [maxLen]; omega) fun av2 hnav2 => ?_)
     refine Run.weak (H' := [.own (.slice (some ⟨b4, 0, none⟩) 1 1) 98 2 1 ([.int .i64 (((N2 : Nat) : Int)), .int .i64 (((N2 + 1 : Nat) : Int))]), .blk b2 26 [.int .i64 (((N2 : Nat) : Int)), .slice none 0 0, .slice A_av11 (ni + 1) c_av11, vo], .own av2 98 2 (m2 + 1) (ints (ps2 ++ [((N2 : Nat) : Int), ((N2 + 1 : Nat) : Int)])), .own (.slice (some ⟨b3, 0, none⟩) 1 1) 3 1 1 ([.int .i64 (((N : Nat) : Int))]), .blk bc 64 [vc, .int .i64 (((s2.1 : Nat) : Int)), .int .u64 (s2.2)], .own (.slice A_av11 (ni + 1) c_av11) 3 1 (ni + 1) (ints (is ++ [((N : Nat) : Int)])), .own vo 3 1 no (ints os), .blk b1 26 [.int .i64 0, .slice none 0 0, .slice none 0 0, .slice none 0 0]]) (Some'.weak (.take (.take (.takeEq (by simp [ints]) (.take (.take (.take (.take (.take (.nil _)))))))))) ?_ ⟨_, _, rfl, fun _ => nofun, fun _ => nofun⟩
     refine Run.p (av2) rfl rfl ?_
     refine Run.dr ?_
     refine Run.y (.pointer (some ⟨b2, 0, none⟩)) rfl (OpY.fieldAddr Tfo_26_0 rfl rfl) ?_
     refine Run.y (.int .i64 (((N2 : Nat) : Int))) rfl (OpY.load1 Tone_3 rfl (Cells.blk (.tail _ (List.Mem.head _)) ⟨rfl, trivial⟩)) ?_
     refine Run.y (.int .i64 (((N2 + 1 : Nat) : Int))) rfl (OpY.add rfl rfl (by omega) (by omega) (by omega)) ?_
     refine Run.y (.pointer (some ⟨b2, 0, none⟩)) rfl (OpY.fieldAddr Tfo_26_0 rfl rfl) ?_
     refine Run.step rfl (OpStep.store (us := [.int .i64 (((N2 + 1 : Nat) : Int))]) Tsize_3 rfl rfl rfl (.there _ (.here _)) (by simp only [List.length_cons, List.length_nil]; omega) ?_)
     show Run _ _ _ [.own (.slice (some ⟨b4, 0, none⟩) 1 1) 98 2 1 ([.int .i64 (((N2 : Nat) : Int)), .int .i64 (((N2 + 1 : Nat) : Int))]), .blk b2 26 [.int .i64 (((N2 + 1 : Nat) : Int)), .slice none 0 0, .slice A_av11 (ni + 1) c_av11, vo], .own av2 98 2 (m2 + 1) (ints (ps2 ++ [((N2 : Nat) : Int), ((N2 + 1 : Nat) : Int)])), .own (.slice (some ⟨b3, 0, none⟩) 1 1) 3 1 1 ([.int .i64 (((N : Nat) : Int))]), .blk bc 64 [vc, .int .i64 (((s2.1 : Nat) : Int)), .int .u64 (s2.2)], .own (.slice A_av11 (ni + 1) c_av11) 3 1 (ni + 1) (ints (is ++ [((N : Nat) : Int)])), .own vo 3 1 no (ints os), .blk b1 26 [.int .i64 0, .slice none 0 0, .slice none 0 0, .slice none 0 0]]
     refine Run.done ?_
     refine Run.blockEnd ?_
     refine Run.region ?_
     refine Run.p (.int .i64 (((k : Nat) : Int))) rfl rfl ?_
     refine Run.y (.int .i64 (((k + 1 : Nat) : Int))) rfl (OpY.add rfl rfl (by omega) (by omega) (by omega)) ?_
     refine Run.p (.int .i64 (((k + 1 : Nat) : Int))) rfl rfl ?_
     refine Run.done ?_
     refine Run.goal ⟨(by repeat (first | exact Same.refl _ _ | refine Same.put rfl ?_ | refine Same.over rfl rfl ?_)), (k + 1, N2 + 1, m2 + 1, ((ps2 ++ [((N2 : Nat) : Int), ((N2 + 1 : Nat) : Int)])), av2), ?_, ?_, ?_, ?_⟩
     ·exact ⟨by omega, by omega, by omega⟩
     ·show J - (k + 1) < J - k; omega
     ·exact ⟨(by first | rfl | (congr 1; omega) | simp), (by first | rfl | (congr 1; omega) | simp), trivial⟩
     ·exact ((Weak.selF [1, 1, 1, 1, 1, 1, 1]).trans (Some'.weak (.takeEq (by first | rfl | simp) (.takeEq (by first | rfl | simp) (.takeEq (by first | rfl | simp) (.take (.takeEq (by first | rfl | simp) (.takeEq (by first | rfl | simp) (.take (.nil _))))))))))
    ·have p31 := h31; try simp only [bs] at p31
     obtain ⟨hk1, hk2, hk3⟩ := hinv
     refine Run.exit rfl ?_
     refine Run.sr ?_
     refine Run.y (.pointer (some ⟨b2, 3, none⟩)) rfl (OpY.fieldAddr Tfo_26_3 rfl rfl) ?_
     refine Run.y (vo) rfl (OpY.load1 Tone_24 rfl (Cells.blk (.head _) ⟨rfl, trivial⟩)) ?_
     refine Run.y (.pointer (some ⟨b2, 0, none⟩)) rfl (OpY.fieldAddr Tfo_26_0 rfl rfl) ?_
     refine Run.y (.int .i64 (((N2 : Nat) : Int))) rfl (OpY.load1 Tone_3 rfl (Cells.blk (.head _) ⟨rfl, trivial⟩)) ?_
     refine Run.step rfl (OpStep.buildSlice (us := [.int .i64 (((N2 : Nat) : Int))]) Tsl_24 (by decide) (by decide) ⟨rfl, [.int .i64 (((N2 : Nat) : Int))], _, rfl, rfl, rfl, rfl⟩ rfl fun b5 => ?_)
     refine Run.step rfl (OpStep.append (H1 := [.own (.slice (some ⟨b5, 0, none⟩) 1 1) 3 1 1 ([.int .i64 (((N2 : Nat) : Int))]), .blk b2 26 [.int .i64 (((N2 : Nat) : Int)), .slice none 0 0, .slice A_av11 (ni + 1) c_av11, vo], .own vp2 98 2 m2 (ints ps2), .own (.slice (some ⟨b3, 0, none⟩) 1 1) 3 1 1 ([.int .i64 (((N : Nat) : Int))]), .blk bc 64 [vc, .int .i64 (((s2.1 : Nat) : Int)), .int .u64 (s2.2)], .own (.slice A_av11 (ni + 1) c_av11) 3 1 (ni + 1) (ints (is ++ [((N : Nat) : Int)]))]) (H2 := [.blk b1 26 [.int .i64 0, .slice none 0 0, .slice none 0 0, .slice none 0 0]]) (v := vo) (u := .slice (some ⟨b5, 0, none⟩) 1 1) (n := no) (m := 1) (xs := ints os) (ys := [.int .i64 (((N2 : Nat) : Int))]) Tsl_24 (by decide) rfl rfl rfl rfl (fun w hs => hs.slOwn (.head _)) (by simp [Value.oneCell']) (by omega) (by simp only [maxLen]; omega) fun av3 hnav3 => ?_)
     refine Run.weak (H' := [.own (.slice (some ⟨b5, 0, none⟩) 1 1) 3 1 1 ([.int .i64 (((N2 : Nat) : Int))]), .blk b2 26 [.int .i64 (((N2 : Nat) : Int)), .slice none 0 0, .slice A_av11 (ni + 1) c_av11, vo], .own vp2 98 2 m2 (ints ps2), .own (.slice (some ⟨b3, 0, none⟩) 1 1) 3 1 1 ([.int .i64 (((N : Nat) : Int))]), .blk bc 64 [vc, .int .i64 (((s2.1 : Nat) : Int)), .int .u64 (s2.2)], .own (.slice A_av11 (ni + 1) c_av11) 3 1 (ni + 1) (ints (is ++ [((N : Nat) : Int)])), .own av3 3 1 (no + 1) (ints (os ++ [((N2 : Nat) : Int)])), .blk b1 26 [.int .i64 0, .slice none 0 0, .slice none 0 0, .slice none 0 0]]) (Some'.weak (.take (.take (.take (.take (.take (.take (.takeEq (by simp [ints]) (.take (.nil _)))))))))) ?_ ⟨_, _, rfl, fun _ => nofun, fun _ => nofun⟩
     refine Run.y (.pointer (some ⟨b2, 3, none⟩)) rfl (OpY.fieldAddr Tfo_26_3 rfl rfl) ?_
     refine Run.formOwn (.tail _ (.tail _ (.tail _ (.tail _ (.tail _ (.tail _ (List.Mem.head _))))))) (fun A_av31 c_av31 hv hcapc_av31 hmaxc_av31 => ?_) (fun _ _ _ => ⟨nofun, nofun, nofun⟩)
     subst hv
     refine Run.step rfl (OpStep.store (us := [.slice A_av31 (no + 1) c_av31]) Tsize_24 rfl rfl rfl (.there _ (.here _)) (by simp only [List.length_cons, List.length_nil]; omega) ?_)
     show Run _ _ _ [.own (.slice (some ⟨b5, 0, none⟩) 1 1) 3 1 1 ([.int .i64 (((N2 : Nat) : Int))]), .blk b2 26 [.int .i64 (((N2 : Nat) : Int)), .slice none 0 0, .slice A_av11 (ni + 1) c_av11, .slice A_av31 (no + 1) c_av31], .own vp2 98 2 m2 (ints ps2), .own (.slice (some ⟨b3, 0, none⟩) 1 1) 3 1 1 ([.int .i64 (((N : Nat) : Int))]), .blk bc 64 [vc, .int .i64 (((s2.1 : Nat) : Int)), .int .u64 (s2.2)], .own (.slice A_av11 (ni + 1) c_av11) 3 1 (ni + 1) (ints (is ++ [((N : Nat) : Int)])), .own (.slice A_av31 (no + 1) c_av31) 3 1 (no + 1) (ints (os ++ [((N2 : Nat) : Int)])), .blk b1 26 [.int .i64 0, .slice none 0 0, .slice none 0 0, .slice none 0 0]]
     refine Run.dr ?_
     refine Run.y (.pointer (some ⟨b2, 0, none⟩)) rfl (OpY.fieldAddr Tfo_26_0 rfl rfl) ?_
     refine Run.y (.int .i64 (((N2 : Nat) : Int))) rfl (OpY.load1 Tone_3 rfl (Cells.blk (.tail _ (List.Mem.head _)) ⟨rfl, trivial⟩)) ?_
     refine Run.y (.int .i64 (((N2 + 1 : Nat) : Int))) rfl (OpY.add rfl rfl (by omega) (by omega) (by omega)) ?_
     refine Run.y (.pointer (some ⟨b2, 0, none⟩)) rfl (OpY.fieldAddr Tfo_26_0 rfl rfl) ?_
     refine Run.step rfl (OpStep.store (us := [.int .i64 (((N2 + 1 : Nat) : Int))]) Tsize_3 rfl rfl rfl (.there _ (.here _)) (by simp only [List.length_cons, List.length_nil]; omega) ?_)
     show Run _ _ _ [.own (.slice (some ⟨b5, 0, none⟩) 1 1) 3 1 1 ([.int .i64 (((N2 : Nat) : Int))]), .blk b2 26 [.int .i64 (((N2 + 1 : Nat) : Int)), .slice none 0 0, .slice A_av11 (ni + 1) c_av11, .slice A_av31 (no + 1) c_av31], .own vp2 98 2 m2 (ints ps2), .own (.slice (some ⟨b3, 0, none⟩) 1 1) 3 1 1 ([.int .i64 (((N : Nat) : Int))]), .blk bc 64 [vc, .int .i64 (((s2.1 : Nat) : Int)), .int .u64 (s2.2)], .own (.slice A_av11 (ni + 1) c_av11) 3 1 (ni + 1) (ints (is ++ [((N : Nat) : Int)])), .own (.slice A_av31 (no + 1) c_av31) 3 1 (no + 1) (ints (os ++ [((N2 : Nat) : Int)])), .blk b1 26 [.int .i64 0, .slice none 0 0, .slice none 0 0, .slice none 0 0]]
     refine Run.done ?_
     refine Run.blockEnd ?_
     refine Run.region ?_
     refine Run.p (.int .i64 (((w : Nat) : Int))) rfl rfl ?_
     refine Run.y (.int .i64 (((w + 1 : Nat) : Int))) rfl (OpY.add rfl rfl (by omega) (by omega) (by omega)) ?_
     refine Run.p (.int .i64 (((w + 1 : Nat) : Int))) rfl rfl ?_
     refine Run.done ?_
     refine Run.goal ⟨(by repeat (first | exact Same.refl _ _ | refine Same.put rfl ?_ | refine Same.over rfl rfl ?_)), (w + 1, N2 + 1, s2, (m2, ps2, vp2), (ni + 1, ((is ++ [((N : Nat) : Int)])), .slice A_av11 (ni + 1) c_av11), (no + 1, ((os ++ [((N2 : Nat) : Int)])), .slice A_av31 (no + 1) c_av31)), ?_, ?_, ?_, ?_⟩
     ·exact ⟨by omega, by omega, by omega, by omega, by omega, by omega⟩
     ·show K - (w + 1) < K - w; omega
     ·exact ⟨(by first | rfl | (congr 1; omega) | simp), (by first | rfl | (congr 1; omega) | simp), trivial⟩
     ·exact ((Weak.selF [1, 1, 3, 3, 3, 2]).trans (Some'.weak (.takeEq (by first | rfl | simp) (.takeEq (by first | rfl | simp) (.takeEq (by first | rfl | simp) (.takeEq (by first | rfl | simp) (.take (.takeEq (by first | rfl | simp) (.nil _)))))))))
  ·have p16 := h16; try simp only [bs] at p16
   obtain ⟨hw1, hw2, hw3, hw4, hw5, hw6⟩ := hinv
   refine Run.exit rfl ?_
   refine Run.seq ?_
   refine Run.sr ?_
   refine Run.p (.pointer (some ⟨bc, 0, none⟩)) rfl rfl ?_
   refine Run.step rfl (OpStep.callM (H1 := [.blk bc 64 [vc, .int .i64 (((sc.1 : Nat) : Int)), .int .u64 (sc.2)]]) (H2 := [.blk b2 26 [.int .i64 (((N : Nat) : Int)), .slice none 0 0, vi, vo], .own vp 98 2 m (ints ps), .own vi 3 1 ni (ints is), .own vo 3 1 no (ints os), .blk b1 26 [.int .i64 0, .slice none 0 0, .slice none 0 0, .slice none 0 0]]) (vs := [.pointer (some ⟨bc, 0, none⟩), .int .i64 5]) (caps := []) Tcall_43 rfl rfl (Weak.selF [5]) (fun w hs => pick_ex (by omega) (hc.go hs) (hs.sub (List.sublist_append_left _ _)).self) ?_)
   rintro _ _ ⟨x3, s3, hx3, hs3, rfl, rfl⟩
   show Run _ _ (putF _ _ _ (.int .i64 x3)) [.blk bc 64 [vc, .int .i64 (((s3.1 : Nat) : Int)), .int .u64 (s3.2)], .blk b2 26 [.int .i64 (((N : Nat) : Int)), .slice none 0 0, vi, vo], .own vp 98 2 m (ints ps), .own vi 3 1 ni (ints is), .own vo 3 1 no (ints os), .blk b1 26 [.int .i64 0, .slice none 0 0, .slice none 0 0, .slice none 0 0]]
   refine Run.p (.int .i64 x3) rfl rfl ?_
   refine Run.done ?_
   obtain ⟨i0, hi0⟩ : ∃ i0 : Nat, x3 = ((i0 : Nat) : Int) := ⟨(x3).toNat, by omega⟩
   rw [hi0]
   refine Run.block ?_
   refine Run.loop (ι := Nat × (Nat × Int) × Nat × List Int × Value) [5, 9, 60, 61, 62, 63, 64, 65, 66, 67, 68, 69, 70, 71, 72, 73, 74, 75] (fun ⟨i, sc, m, ps, vp⟩ => [(5, vp), (9, .int .i64 (((i : Nat) : Int)))]) (fun ⟨i, sc, m, ps, vp⟩ => [.own vp 98 2 m (ints ps), .blk b2 26 [.int .i64 (((N : Nat) : Int)), .slice none 0 0, vi, vo], .own vi 3 1 ni (ints is), .own vo 3 1 no (ints os), .blk b1 26 [.int .i64 0, .slice none 0 0, .slice none 0 0, .slice none 0 0], .blk bc 64 [vc, .int .i64 (((sc.1 : Nat) : Int)), .int .u64 (sc.2)]]) (fun ⟨i, sc, m, ps, vp⟩ => m + i ≤ 20 ∧ sc.1 + 4 * i ≤ s.1 + 50) (fun ⟨i, sc, m, ps, vp⟩ => i) (i0, s3, m, ps, vp) ?_ ?_ ?_ ?_
   ·exact ⟨by omega, by omega⟩
   ·exact ⟨rfl, rfl, trivial⟩
   ·exact ((Weak.selF [2, 1, 1, 1, 1, 0]).trans (Some'.weak (.take (.take (.take (.take (.take (.takeEq (by first | rfl | simp) (.nil _)))))))))
   ·rintro ⟨i, sc, m, ps, vp⟩ fr hinv
    show Run _ _ (over _ _ [(5, vp), (9, .int .i64 (((i : Nat) : Int)))] fr) [.own vp 98 2 m (ints ps), .blk b2 26 [.int .i64 (((N : Nat) : Int)), .slice none 0 0, vi, vo], .own vi 3 1 ni (ints is), .own vo 3 1 no (ints os), .blk b1 26 [.int .i64 0, .slice none 0 0, .slice none 0 0, .slice none 0 0], .blk bc 64 [vc, .int .i64 (((sc.1 : Nat) : Int)), .int .u64 (sc.2)]]
    try dsimp only at hinv
    refine Run.seq ?_
    refine Run.sr ?_
    refine Run.p (.int .i64 (((i : Nat) : Int))) rfl rfl ?_
    refine Run.p (.bool (decide ((((i : Nat) : Int)) > 0))) rfl rfl ?_
    refine Run.done ?_
    refine Run.cond (b := decide ((((i : Nat) : Int)) > 0)) rfl (fun h61 => ?_) (fun h61 => ?_)
    ·have p61 := h61; try simp only [bs] at p61
     obtain ⟨hi1, hi2⟩ := hinv
     refine Run.skip ?_
     refine Run.seq ?_
     refine Run.block ?_
     refine Run.heldB (base := [.blk b2 26 [.int .i64 (((N : Nat) : Int)), .slice none 0 0, vi, vo]]) (by kernel_rfl) ?_
     refine DW.take (i := 0) (v := vp) rfl (by kernel_rfl) (by kernel_rfl) (by kernel_rfl) (fun _ _ _ h => h) (Some'.weak (.skip (.take (.nil _)))) rfl (OpY.pure rfl) ?_
     refine DW.take (i := 1) (v := .pointer (some ⟨bc, 0, none⟩)) rfl (by kernel_rfl) (by kernel_rfl) (by kernel_rfl) (fun _ _ _ h => h) (Some'.weak (.skip (.take (.nil _)))) rfl (OpY.pure rfl) ?_
     refine DW.take (i := 2) (v := .pointer (some ⟨b2, 0, none⟩)) rfl (by kernel_rfl) (by kernel_rfl) (by kernel_rfl) (fun _ _ _ h => h) (Some'.weak (.skip (.take (.nil _)))) rfl (OpY.fieldAddr Tfo_26_0 rfl rfl) ?_
     refine DW.take (i := 3) (v := .int .i64 (((N : Nat) : Int))) rfl (by kernel_rfl) (by kernel_rfl) (by kernel_rfl) (fun _ _ _ h => h) (Some'.weak (.skip (.take (.nil _)))) rfl (OpY.load1 Tone_3 rfl (Cells.blk (.head _) ⟨rfl, trivial⟩)) ?_
     refine DW.take (i := 5) (v := .pointer (some ⟨bc, 0, none⟩)) rfl (by kernel_rfl) (by kernel_rfl) (by kernel_rfl) (fun _ _ _ h => h) (Some'.weak (.skip (.take (.nil _)))) rfl (OpY.pure rfl) ?_
     refine DW.take (i := 6) (v := .pointer (some ⟨b2, 0, none⟩)) rfl (by kernel_rfl) (by kernel_rfl) (by kernel_rfl) (fun _ _ _ h => h) (Some'.weak (.skip (.take (.nil _)))) rfl (OpY.fieldAddr Tfo_26_0 rfl rfl) ?_
     refine DW.take (i := 7) (v := .int .i64 (((N : Nat) : Int))) rfl (by kernel_rfl) (by kernel_rfl) (by kernel_rfl) (fun _ _ _ h => h) (Some'.weak (.skip (.take (.nil _)))) rfl (OpY.load1 Tone_3 rfl (Cells.blk (.head _) ⟨rfl, trivial⟩)) ?_
     refine DW.step (i := 4) (by kernel_rfl) rfl rfl (OpStep.callM (H1 := [.blk bc 64 [vc, .int .i64 (((sc.1 : Nat) : Int)), .int .u64 (sc.2)]]) (H2 := [.own vp 98 2 m (ints ps), .blk b2 26 [.int .i64 (((N : Nat) : Int)), .slice none 0 0, vi, vo], .own vi 3 1 ni (ints is), .own vo 3 1 no (ints os), .blk b1 26 [.int .i64 0, .slice none 0 0, .slice none 0 0, .slice none 0 0]]) (vs := [.pointer (some ⟨bc, 0, none⟩), .int .i64 (((N : Nat) : Int))]) (caps := []) Tcall_43 rfl rfl (Weak.selF [5]) (fun w hs => pick_ex (by omega) (hc.go hs) (hs.sub (List.sublist_append_left _ _)).self) ?_)
     rintro _ _ ⟨x4, s4, hx4, hs4, rfl, rfl⟩
     refine ⟨(Some'.weak (.skip (.skip (.take (.nil _))))), ?_⟩
     refine DW.step (i := 8) (by kernel_rfl) rfl rfl (OpStep.callM (H1 := [.blk bc 64 [vc, .int .i64 (((s4.1 : Nat) : Int)), .int .u64 (s4.2)]]) (H2 := [.own vp 98 2 m (ints ps), .blk b2 26 [.int .i64 (((N : Nat) : Int)), .slice none 0 0, vi, vo], .own vi 3 1 ni (ints is), .own vo 3 1 no (ints os), .blk b1 26 [.int .i64 0, .slice none 0 0, .slice none 0 0, .slice none 0 0]]) (vs := [.pointer (some ⟨bc, 0, none⟩), .int .i64 (((N : Nat) : Int))]) (caps := []) Tcall_43 rfl rfl (Weak.refl _) (fun w hs => pick_ex (by omega) (hc.go hs) (hs.sub (List.sublist_append_left _ _)).self) ?_)
     rintro _ _ ⟨x5, s5, hx5, hs5, rfl, rfl⟩
     refine ⟨(Some'.weak (.skip (.skip (.take (.nil _))))), ?_⟩
     refine DW.take (i := 9) (v := .agg #[.int .i64 x4, .int .i64 x5]) rfl (by kernel_rfl) (by kernel_rfl) (by kernel_rfl) (fun _ _ _ h => h) (Some'.weak (.skip (.skip (.take (.nil _))))) rfl (OpY.build (cs := [.int .i64 x4, .int .i64 x5]) (by kernel_rfl)) ?_
     refine DW.step (i := 10) (by kernel_rfl) rfl rfl (OpStep.buildSlice (us := [.int .i64 x4, .int .i64 x5]) Tsl_97 (by decide) (by decide) ⟨rfl, [.int .i64 x4, .int .i64 x5], _, rfl, rfl, rfl, rfl⟩ rfl fun b6 => ?_)
     refine ⟨(Some'.weak (.skip (.skip (.skip (.take (.nil _)))))), ?_⟩
     refine DW.step (i := 11) (by kernel_rfl) rfl rfl (OpStep.append (H1 := [.own (.slice (some ⟨b6, 0, none⟩) 1 1) 98 2 1 ([.int .i64 x4, .int .i64 x5]), .blk bc 64 [vc, .int .i64 (((s5.1 : Nat) : Int)), .int .u64 (s5.2)]]) (H2 := [.blk b2 26 [.int .i64 (((N : Nat) : Int)), .slice none 0 0, vi, vo], .own vi 3 1 ni (ints is), .own vo 3 1 no (ints os), .blk b1 26 [.int .i64 0, .slice none 0 0, .slice none 0 0, .slice none 0 0]]) (v := vp) (u := .slice (some ⟨b6, 0, none⟩) 1 1) (n := m) (m := 1) (xs := ints ps) (ys := [.int .i64 x4, .int .i64 x5]) Tsl_97 (by decide) rfl rfl rfl rfl (fun w hs => hs.slOwn (.head _)) (by simp [Value.oneCell']) (by omega) (by simp only [maxLen]; omega) fun av4 hnav4 => ?_)
     refine DW.weakS (H' := [.own (.slice (some ⟨b6, 0, none⟩) 1 1) 98 2 1 ([.int .i64 x4, .int .i64 x5]), .blk bc 64 [vc, .int .i64 (((s5.1 : Nat) : Int)), .int .u64 (s5.2)], .own av4 98 2 (m + 1) (ints (ps ++ [x4, x5])), .blk b2 26 [.int .i64 (((N : Nat) : Int)), .slice none 0 0, vi, vo], .own vi 3 1 ni (ints is), .own vo 3 1 no (ints os), .blk b1 26 [.int .i64 0, .slice none 0 0, .slice none 0 0, .slice none 0 0]]) (Some'.weak (.take (.take (.takeEq (by simp [ints]) (.take (.take (.take (.take (.nil _))))))))) ?_
     refine ⟨(Some'.weak (.skip (.skip (.skip (.take (.nil _)))))), ?_⟩
     refine DW.take (i := 12) (v := av4) rfl (by kernel_rfl) (by kernel_rfl) (by kernel_rfl) (fun _ _ _ h => h) (Some'.weak (.skip (.skip (.skip (.take (.nil _)))))) rfl (OpY.pure rfl) ?_
     refine DW.done (by kernel_rfl) ?_
     refine Run.blockEnd ?_
     refine Run.region ?_
     refine Run.p (.int .i64 (((i : Nat) : Int))) rfl rfl ?_
     refine Run.y (.int .i64 (((i - 1 : Nat) : Int))) rfl (OpY.sub rfl rfl (by omega) (by omega) (by omega)) ?_
     refine Run.p (.int .i64 (((i - 1 : Nat) : Int))) rfl rfl ?_
     refine Run.done ?_
     refine Run.goal ⟨(by repeat (first | exact Same.refl _ _ | refine Same.put rfl ?_ | refine Same.over rfl rfl ?_)), (i - 1, s5, m + 1, ((ps ++ [x4, x5])), av4), ?_, ?_, ?_, ?_⟩
     ·exact ⟨by omega, by omega⟩
     ·show i - 1 < i; omega
     ·exact ⟨(by first | rfl | (congr 1; omega) | simp), (by first | rfl | (congr 1; omega) | simp), trivial⟩
     ·exact ((Weak.selF [2, 2, 2, 2, 2, 1]).trans (Some'.weak (.takeEq (by first | rfl | simp) (.take (.takeEq (by first | rfl | simp) (.takeEq (by first | rfl | simp) (.take (.takeEq (by first | rfl | simp) (.nil _)))))))))
    ·have p61 := h61; try simp only [bs] at p61
     obtain ⟨hi1, hi2⟩ := hinv
     refine Run.exit rfl ?_
     refine Run.sr ?_
     refine Run.y (.pointer (some ⟨b2, 0, none⟩)) rfl (OpY.fieldAddr Tfo_26_0 rfl rfl) ?_
     refine Run.y (.int .i64 (((N : Nat) : Int))) rfl (OpY.load1 Tone_3 rfl (Cells.blk (.tail _ (List.Mem.head _)) ⟨rfl, trivial⟩)) ?_
     refine Run.p (vp) rfl rfl ?_
     refine Run.step rfl (OpStep.call (vs := [.int .i64 (((N : Nat) : Int)), vp]) (caps := []) Tcall_78 rfl rfl (fun w hs => l19Edges_spec (N := N) (by omega) (hs.slOwn (.head _))) ?_)
     rintro ve _ ⟨c, es, ⟨hc100, hsm⟩, rfl⟩
     show Run _ _ (putF _ _ _ ve) [.own ve 80 2 c (ints es), .own vp 98 2 m (ints ps), .blk b2 26 [.int .i64 (((N : Nat) : Int)), .slice none 0 0, vi, vo], .own vi 3 1 ni (ints is), .own vo 3 1 no (ints os), .blk b1 26 [.int .i64 0, .slice none 0 0, .slice none 0 0, .slice none 0 0], .blk bc 64 [vc, .int .i64 (((sc.1 : Nat) : Int)), .int .u64 (sc.2)]]
     refine Run.y (.pointer (some ⟨b2, 1, none⟩)) rfl (OpY.fieldAddr Tfo_26_1 rfl rfl) ?_
     refine Run.formOwn (.head _) (fun A_ve1 c_ve1 hv hcapc_ve1 hmaxc_ve1 => ?_) (fun _ _ _ => ⟨nofun, nofun, nofun⟩)
     subst hv
     refine Run.step rfl (OpStep.store (us := [.slice A_ve1 c c_ve1]) Tsize_23 rfl rfl rfl (.there _ (.there _ (.here _))) (by simp only [List.length_cons, List.length_nil]; omega) ?_)
     show Run _ _ _ [.own (.slice A_ve1 c c_ve1) 80 2 c (ints es), .own vp 98 2 m (ints ps), .blk b2 26 [.int .i64 (((N : Nat) : Int)), .slice A_ve1 c c_ve1, vi, vo], .own vi 3 1 ni (ints is), .own vo 3 1 no (ints os), .blk b1 26 [.int .i64 0, .slice none 0 0, .slice none 0 0, .slice none 0 0], .blk bc 64 [vc, .int .i64 (((sc.1 : Nat) : Int)), .int .u64 (sc.2)]]
     refine Run.dsr ?_
     refine Run.y (.agg #[.int .i64 (((N : Nat) : Int)), .slice A_ve1 c c_ve1, vi, vo]) rfl (OpY.loadN (cs := [.int .i64 (((N : Nat) : Int)), .slice A_ve1 c c_ve1, vi, vo]) Tagg_26 rfl (Cells.blk (.tail _ (.tail _ (List.Mem.head _))) ⟨rfl, rfl, rfl, rfl, trivial⟩)) ?_
     refine Run.formOwn (.tail _ (.tail _ (.tail _ (List.Mem.head _)))) (fun A_vi1 c_vi1 hv hcapc_vi1 hmaxc_vi1 => ?_) (fun _ _ _ => ⟨nofun, nofun, nofun⟩)
     subst hv
     refine Run.formOwn (.tail _ (.tail _ (.tail _ (.tail _ (List.Mem.head _))))) (fun A_vo1 c_vo1 hv hcapc_vo1 hmaxc_vo1 => ?_) (fun _ _ _ => ⟨nofun, nofun, nofun⟩)
     subst hv
     refine Run.step rfl (OpStep.storeAll (us := [.int .i64 (((N : Nat) : Int)), .slice A_ve1 c c_ve1, .slice A_vi1 ni c_vi1, .slice A_vo1 no c_vo1]) Tsize_26 rfl rfl rfl (.there _ (.there _ (.there _ (.there _ (.there _ (.here _)))))) rfl ?_)
     refine Run.done ?_
     refine Run.ret ?_
     refine ⟨.agg #[.int .i64 (((N : Nat) : Int)), .slice A_ve1 c c_ve1, .slice A_vi1 ni c_vi1, .slice A_vo1 no c_vo1], [.own (.slice A_ve1 c c_ve1) 80 2 c (ints es), .own (.slice A_vi1 ni c_vi1) 3 1 ni (ints is), .own (.slice A_vo1 no c_vo1) 3 1 no (ints os), .blk bc 64 [vc, .int .i64 (((sc.1 : Nat) : Int)), .int .u64 (sc.2)]], Out.cell1 (cs := [.int .i64 (((N : Nat) : Int)), .slice A_ve1 c c_ve1, .slice A_vi1 ni c_vi1, .slice A_vo1 no c_vo1]) rfl Tagg_26 rfl (Cells.blk (.tail _ (.tail _ (.tail _ (.tail _ (.tail _ (List.Mem.head _)))))) ⟨rfl, rfl, rfl, rfl, trivial⟩), (Some'.weak (.take (.skip (.skip (.take (.take (.skip (.take (.nil _))))))))), ?_⟩
     exact ⟨_, _, _, _, _, _, _, _, _, _, _, ⟨⟨by omega, by omega⟩, by omega, by omega, by omega, by omega, hsm⟩, rfl, rfl⟩

end Go.Proofs.Ytoiaibgcjfgbcaa
