/- Walks: the reference's symmetries of a coupling graph. -/
import Derived.Test.YtgghmjijjdboeaaSym
import Derived.Test.YtgghmjijjdboeaaProg
set_option linter.unusedSimpArgs false
set_option linter.unusedVariables false
namespace Go.Proofs.Ytgghmjijjdboeaa
open Go Go.RowKit
namespace SymrT
theorem Tagg_25 : aggOf Try.prog 25 = some 2 := by kernel_rfl
theorem Tbool_4 : Try.prog.underlying 4 = some .bool := by kernel_rfl
theorem Tcall_36 : callable Try.prog 36 = true := by kernel_rfl
theorem Tcall_37 : callable Try.prog 37 = true := by kernel_rfl
theorem Tcall_59 : callable Try.prog 59 = true := by kernel_rfl
theorem Tcall_68 : callable Try.prog 68 = true := by kernel_rfl
theorem Tcall_69 : callable Try.prog 69 = true := by kernel_rfl
theorem Tfo_25_0 : fieldOff Try.prog 25 0 = some 0 := by kernel_rfl
theorem Tone_3 : oneOf Try.prog 3 = true := by kernel_rfl
theorem Tsl_27 : sliceOf Try.prog 27 = some (34, 1, 24, [.slice none 0 0]) := by kernel_rfl
theorem Tsl_34 : sliceOf Try.prog 34 = some (3, 1, 8, [.int .i64 0]) := by kernel_rfl
end SymrT
open SymrT

def fitK (xs : List Int) (n : Nat) (l : List Int) (x : Int) (i : Nat) : Bool := !hasI l x l.length && allI (fun i => adj xs n i l.length == adj xs n (ix l i) x) i
theorem fitK_succ (xs : List Int) (n : Nat) (l : List Int) (x : Int) (i : Nat) : fitK xs n l x (i + 1) = (fitK xs n l x i && (adj xs n i l.length == adj xs n (ix l i) x)) := by
  simp only [fitK, allI_succ, Bool.and_assoc]
theorem fitK_zero (xs : List Int) (n : Nat) (l : List Int) (x : Int) : fitK xs n l x 0 = !hasI l x l.length := by simp [fitK, allI, anyI]

def ExtStmt (d : Nat) : Prop := ∀ {N : Nat} {va vp vo : Value} {n : Nat} {xs l : List Int} {ps : List (Value × List Int)} {w : World} (hN : 1 ≤ N ∧ N ≤ 6) (he : edgesOk (N : Int) xs n = true) (hd : l.length + d = N) (hb : ps.length + N ^ d ≤ 1000000) (hst : St (Of [.own vp 3 1 (l.length) (ints l), .own va 64 2 n (ints xs), .own vo 34 1 (ps.length) (oc ps), .grp 3 1 (gl ps)]) w w [.own vp 3 1 (l.length) (ints l), .own va 64 2 n (ints xs), .own vo 34 1 (ps.length) (oc ps), .grp 3 1 (gl ps)]), Calls Try.prog 37 #[.agg #[.int .i64 (N : Nat), va], vp, vo] w (Post (Of [.own vp 3 1 (l.length) (ints l), .own va 64 2 n (ints xs), .own vo 34 1 (ps.length) (oc ps), .grp 3 1 (gl ps)]) w fun v H => ∃ ps', ps'.map (·.2) = ps.map (·.2) ++ refF xs n N d l ∧ H = [.own vp 3 1 (l.length) (ints l), .own va 64 2 n (ints xs), .own v 34 1 (ps'.length) (oc ps'), .grp 3 1 (gl ps')])

set_option maxHeartbeats 1000000 in
set_option maxRecDepth 20000 in
theorem ext_step (d : Nat) (ih : ∀ d', d' < d → ExtStmt d') {N : Nat} {va vp vo : Value} {n : Nat} {xs l : List Int} {ps : List (Value × List Int)} {w : World} (hN : 1 ≤ N ∧ N ≤ 6) (he : edgesOk (N : Int) xs n = true) (hd : l.length + d = N) (hb : ps.length + N ^ d ≤ 1000000) (hst : St (Of [.own vp 3 1 (l.length) (ints l), .own va 64 2 n (ints xs), .own vo 34 1 (ps.length) (oc ps), .grp 3 1 (gl ps)]) w w [.own vp 3 1 (l.length) (ints l), .own va 64 2 n (ints xs), .own vo 34 1 (ps.length) (oc ps), .grp 3 1 (gl ps)]) : Calls Try.prog 37 #[.agg #[.int .i64 (N : Nat), va], vp, vo] w (Post (Of [.own vp 3 1 (l.length) (ints l), .own va 64 2 n (ints xs), .own vo 34 1 (ps.length) (oc ps), .grp 3 1 (gl ps)]) w fun v H => ∃ ps', ps'.map (·.2) = ps.map (·.2) ++ refF xs n N d l ∧ H = [.own vp 3 1 (l.length) (ints l), .own va 64 2 n (ints xs), .own v 34 1 (ps'.length) (oc ps'), .grp 3 1 (gl ps')]) := by
  refine enter (n := 62) (args := [.agg #[.int .i64 (((N : Nat) : Int)), va], vp, vo]) Try.func37 rfl rfl (hst) ?_
  refine Run.seq ?_
  refine Run.region ?_
  refine Run.step rfl (OpStep.box (us := [.int .i64 (((N : Nat) : Int)), va]) rfl fun b1 => ?_)
  refine Run.q (v := .slice none 0 0) rfl (OpQ.y (OpY.pure rfl)) ?_
  refine Run.done ?_
  refine Run.seq ?_
  refine Run.seq ?_
  refine Run.region ?_
  refine Run.q (v := vp) rfl (OpQ.y (OpY.pure rfl)) ?_
  refine Run.formOwn (.tail _ (List.Mem.head _)) (fun A_vp1 c_vp1 hv hcapc_vp1 hmaxc_vp1 => ?_) (fun _ _ _ => ⟨nofun, nofun, nofun⟩)
  subst hv
  refine Run.q (v := .int .i64 (((l.length : Nat) : Int))) rfl (OpQ.y (OpY.len Tsl_34 rfl)) ?_
  refine Run.q (v := .pointer (some ⟨b1, 0, none⟩)) rfl (OpQ.y (OpY.fieldAddr Tfo_25_0 rfl rfl)) ?_
  refine Run.q (v := .int .i64 (((N : Nat) : Int))) rfl (OpQ.y (OpY.load1 Tone_3 rfl (Cells.blk (.head _) ⟨rfl, trivial⟩))) ?_
  refine Run.q (v := .bool ((((l.length : Nat) : Int)) == (((N : Nat) : Int)))) rfl (OpQ.y (OpY.pure rfl)) ?_
  refine Run.done ?_
  refine Run.cond (b := (((l.length : Nat) : Int)) == (((N : Nat) : Int))) rfl (fun h15 => ?_) (fun h15 => ?_)
  · have p15 := h15; try simp only [decide_eq_true_eq, decide_eq_false_iff_not, beq_iff_eq, bne_iff_ne, beq_eq_false_iff_ne, ne_eq, gt_iff_lt, ge_iff_le, Int.not_lt, Int.not_le, bne_eq_false_iff_eq, Bool.not_eq_true', Bool.not_eq_false', Bool.and_eq_true, Bool.and_eq_false_iff, Bool.or_eq_true, Bool.or_eq_false_iff, Decidable.not_not, List.cons.injEq, and_true] at p15
    have hd0 : d = 0 := by omega
    subst hd0
    have hp0 : N ^ 0 = 1 := Nat.pow_zero N
    refine Run.seq ?_
    refine Run.region ?_
    refine Run.q (v := vo) rfl (OpQ.y (OpY.pure rfl)) ?_
    refine Run.q (v := .slice A_vp1 (l.length) c_vp1) rfl (OpQ.y (OpY.pure rfl)) ?_
    refine Run.step rfl (OpStep.call (vs := [.slice A_vp1 (l.length) c_vp1]) (caps := []) Tcall_68 rfl rfl (fun w hs => l1Own_spec (n := l.length) (by omega) (hs.slOwn (.tail _ (List.Mem.head _)))) ?_)
    rintro uo _ rfl
    show Run _ _ (putF _ _ _ uo) [.own uo 3 1 (l.length) (ints l), .blk b1 25 [.int .i64 (((N : Nat) : Int)), va], .own (.slice A_vp1 (l.length) c_vp1) 3 1 (l.length) (ints l), .own va 64 2 n (ints xs), .own vo 34 1 (ps.length) (oc ps), .grp 3 1 (gl ps)]
    refine Run.formOwn (.head _) (fun A_uo1 c_uo1 hv hcapc_uo1 hmaxc_uo1 => ?_) (fun _ _ _ => ⟨nofun, nofun, nofun⟩)
    subst hv
    refine Run.step rfl (OpStep.buildSlice (us := [.slice A_uo1 (l.length) c_uo1]) Tsl_27 (by decide) (by decide) ⟨rfl, [.slice A_uo1 (l.length) c_uo1], _, rfl, rfl, rfl, rfl⟩ rfl fun b2 => ?_)
    refine Run.step rfl (OpStep.append (H1 := [.own (.slice (some ⟨b2, 0, none⟩) 1 1) 34 1 1 ([.slice A_uo1 (l.length) c_uo1]), .own (.slice A_uo1 (l.length) c_uo1) 3 1 (l.length) (ints l), .blk b1 25 [.int .i64 (((N : Nat) : Int)), va], .own (.slice A_vp1 (l.length) c_vp1) 3 1 (l.length) (ints l), .own va 64 2 n (ints xs)]) (H2 := [.grp 3 1 (gl ps)]) (v := vo) (u := .slice (some ⟨b2, 0, none⟩) 1 1) (n := ps.length) (m := 1) (xs := oc ps) (ys := [.slice A_uo1 (l.length) c_uo1]) Tsl_27 (by decide) rfl rfl rfl rfl (fun w hs => hs.slOwn (.head _)) (by simp [Value.oneCell']) (by omega) (by simp only [maxLen]; omega) fun av1 hnav1 => ?_)
    refine Run.weak (H' := [.own (.slice (some ⟨b2, 0, none⟩) 1 1) 34 1 1 ([.slice A_uo1 (l.length) c_uo1]), .own (.slice A_uo1 (l.length) c_uo1) 3 1 (l.length) (ints l), .blk b1 25 [.int .i64 (((N : Nat) : Int)), va], .own (.slice A_vp1 (l.length) c_vp1) 3 1 (l.length) (ints l), .own va 64 2 n (ints xs), .own av1 34 1 ((ps ++ [((.slice A_uo1 (l.length) c_uo1 : Value), l)]).length) (oc (ps ++ [((.slice A_uo1 (l.length) c_uo1 : Value), l)])), .grp 3 1 (gl ps)]) (Some'.weak (.take (.take (.take (.take (.take (.takeEq (by simp [oc]) (.take (.nil _))))))))) ?_ ⟨_, _, rfl, fun _ => nofun, fun _ => nofun⟩
    refine Run.weak (H' := [.grp 3 1 (gl (ps ++ [((.slice A_uo1 (l.length) c_uo1 : Value), l)])), .own (.slice (some ⟨b2, 0, none⟩) 1 1) 34 1 1 ([.slice A_uo1 (l.length) c_uo1]), .blk b1 25 [.int .i64 (((N : Nat) : Int)), va], .own (.slice A_vp1 (l.length) c_vp1) 3 1 (l.length) (ints l), .own va 64 2 n (ints xs), .own av1 34 1 ((ps ++ [((.slice A_uo1 (l.length) c_uo1 : Value), l)]).length) (oc (ps ++ [((.slice A_uo1 (l.length) c_uo1 : Value), l)]))]) (((Weak.front [.own (.slice (some ⟨b2, 0, none⟩) 1 1) 34 1 1 ([.slice A_uo1 (l.length) c_uo1]), .own (.slice A_uo1 (l.length) c_uo1) 3 1 (l.length) (ints l), .blk b1 25 [.int .i64 (((N : Nat) : Int)), va], .own (.slice A_vp1 (l.length) c_vp1) 3 1 (l.length) (ints l), .own va 64 2 n (ints xs), .own av1 34 1 ((ps ++ [((.slice A_uo1 (l.length) c_uo1 : Value), l)]).length) (oc (ps ++ [((.slice A_uo1 (l.length) c_uo1 : Value), l)]))] (.grp 3 1 (gl ps)) []).trans (Weak.front [.grp 3 1 (gl ps), .own (.slice (some ⟨b2, 0, none⟩) 1 1) 34 1 1 ([.slice A_uo1 (l.length) c_uo1])] (.own (.slice A_uo1 (l.length) c_uo1) 3 1 (l.length) (ints l)) [.blk b1 25 [.int .i64 (((N : Nat) : Int)), va], .own (.slice A_vp1 (l.length) c_vp1) 3 1 (l.length) (ints l), .own va 64 2 n (ints xs), .own av1 34 1 ((ps ++ [((.slice A_uo1 (l.length) c_uo1 : Value), l)]).length) (oc (ps ++ [((.slice A_uo1 (l.length) c_uo1 : Value), l)]))])).trans Weak.grpSnoc) ?_ ⟨_, _, rfl, fun _ => nofun, fun _ => nofun⟩
    refine Run.q (v := av1) rfl (OpQ.y (OpY.pure rfl)) ?_
    refine Run.done ?_
    refine Run.ret ?_
    refine ⟨av1, [.own (.slice A_vp1 (l.length) c_vp1) 3 1 (l.length) (ints l), .own va 64 2 n (ints xs), .own av1 34 1 ((ps ++ [((.slice A_uo1 (l.length) c_uo1 : Value), l)]).length) (oc (ps ++ [((.slice A_uo1 (l.length) c_uo1 : Value), l)])), .grp 3 1 (gl (ps ++ [((.slice A_uo1 (l.length) c_uo1 : Value), l)]))], Out.one rfl rfl, ((((Weak.front [.grp 3 1 (gl (ps ++ [((.slice A_uo1 (l.length) c_uo1 : Value), l)])), .own (.slice (some ⟨b2, 0, none⟩) 1 1) 34 1 1 ([.slice A_uo1 (l.length) c_uo1]), .blk b1 25 [.int .i64 (((N : Nat) : Int)), va], .own (.slice A_vp1 (l.length) c_vp1) 3 1 (l.length) (ints l), .own va 64 2 n (ints xs)] (.own av1 34 1 ((ps ++ [((.slice A_uo1 (l.length) c_uo1 : Value), l)]).length) (oc (ps ++ [((.slice A_uo1 (l.length) c_uo1 : Value), l)]))) []).trans (Weak.front [.own av1 34 1 ((ps ++ [((.slice A_uo1 (l.length) c_uo1 : Value), l)]).length) (oc (ps ++ [((.slice A_uo1 (l.length) c_uo1 : Value), l)])), .grp 3 1 (gl (ps ++ [((.slice A_uo1 (l.length) c_uo1 : Value), l)])), .own (.slice (some ⟨b2, 0, none⟩) 1 1) 34 1 1 ([.slice A_uo1 (l.length) c_uo1]), .blk b1 25 [.int .i64 (((N : Nat) : Int)), va], .own (.slice A_vp1 (l.length) c_vp1) 3 1 (l.length) (ints l)] (.own va 64 2 n (ints xs)) [])).trans (Weak.front [.own va 64 2 n (ints xs), .own av1 34 1 ((ps ++ [((.slice A_uo1 (l.length) c_uo1 : Value), l)]).length) (oc (ps ++ [((.slice A_uo1 (l.length) c_uo1 : Value), l)])), .grp 3 1 (gl (ps ++ [((.slice A_uo1 (l.length) c_uo1 : Value), l)])), .own (.slice (some ⟨b2, 0, none⟩) 1 1) 34 1 1 ([.slice A_uo1 (l.length) c_uo1]), .blk b1 25 [.int .i64 (((N : Nat) : Int)), va]] (.own (.slice A_vp1 (l.length) c_vp1) 3 1 (l.length) (ints l)) [])).trans (Some'.weak (.take (.take (.take (.take (.nil _))))))), ?_⟩
    first | exact ⟨_, by rw [refF, List.map_append]; rfl, rfl⟩ | exact ⟨_, by
        have h := hinv.2
        rw [hxn] at h
        rw [refF_succ]; exact h, rfl⟩
  · have p15 := h15; try simp only [decide_eq_true_eq, decide_eq_false_iff_not, beq_iff_eq, bne_iff_ne, beq_eq_false_iff_ne, ne_eq, gt_iff_lt, ge_iff_le, Int.not_lt, Int.not_le, bne_eq_false_iff_eq, Bool.not_eq_true', Bool.not_eq_false', Bool.and_eq_true, Bool.and_eq_false_iff, Bool.or_eq_true, Bool.or_eq_false_iff, Decidable.not_not, List.cons.injEq, and_true] at p15
    obtain ⟨d, rfl⟩ : ∃ q, d = q + 1 := ⟨d - 1, by omega⟩
    refine Run.skip ?_
    refine Run.seq ?_
    refine Run.seq ?_
    refine Run.region ?_
    refine Run.q (v := .int .i64 0) rfl (OpQ.y (OpY.pure rfl)) ?_
    refine Run.done ?_
    refine Run.block ?_
    refine Run.loop (ι := Nat × Value × List (Value × List Int)) [2, 7, 8, 9, 10, 21, 22, 23, 24, 25, 26, 27, 28, 29, 30, 31, 32, 33, 34, 35, 36, 37, 38, 39, 40, 41, 42, 43, 44, 45, 46, 47, 48, 49, 50, 51, 52, 53, 54, 55, 56, 57, 58, 59, 60] (fun ⟨x, vo2, ps2⟩ => [(2, vo2), (7, .int .i64 (((x : Nat) : Int)))]) (fun ⟨x, vo2, ps2⟩ => [.blk b1 25 [.int .i64 (((N : Nat) : Int)), va], .own (.slice A_vp1 (l.length) c_vp1) 3 1 (l.length) (ints l), .own va 64 2 n (ints xs), .own vo2 34 1 (ps2.length) (oc ps2), .grp 3 1 (gl ps2)]) (fun ⟨x, vo2, ps2⟩ => x ≤ N ∧ ps2.map (·.2) = ps.map (·.2) ++ refK xs n N d l x) (fun ⟨x, vo2, ps2⟩ => N - x) (0, vo, ps) ?_ ?_ ?_ ?_
    · exact ⟨Nat.zero_le _, by simp [refK, stepsL]⟩
    · exact ⟨rfl, rfl, trivial⟩
    · exact ((((((Weak.front [.blk b1 25 [.int .i64 (((N : Nat) : Int)), va], .own (.slice A_vp1 (l.length) c_vp1) 3 1 (l.length) (ints l), .own va 64 2 n (ints xs), .own vo 34 1 (ps.length) (oc ps)] (.grp 3 1 (gl ps)) []).trans (Weak.front [.grp 3 1 (gl ps), .blk b1 25 [.int .i64 (((N : Nat) : Int)), va], .own (.slice A_vp1 (l.length) c_vp1) 3 1 (l.length) (ints l), .own va 64 2 n (ints xs)] (.own vo 34 1 (ps.length) (oc ps)) [])).trans (Weak.front [.own vo 34 1 (ps.length) (oc ps), .grp 3 1 (gl ps), .blk b1 25 [.int .i64 (((N : Nat) : Int)), va], .own (.slice A_vp1 (l.length) c_vp1) 3 1 (l.length) (ints l)] (.own va 64 2 n (ints xs)) [])).trans (Weak.front [.own va 64 2 n (ints xs), .own vo 34 1 (ps.length) (oc ps), .grp 3 1 (gl ps), .blk b1 25 [.int .i64 (((N : Nat) : Int)), va]] (.own (.slice A_vp1 (l.length) c_vp1) 3 1 (l.length) (ints l)) [])).trans (Weak.front [.own (.slice A_vp1 (l.length) c_vp1) 3 1 (l.length) (ints l), .own va 64 2 n (ints xs), .own vo 34 1 (ps.length) (oc ps), .grp 3 1 (gl ps)] (.blk b1 25 [.int .i64 (((N : Nat) : Int)), va]) [])).trans (Some'.weak (.take (.take (.take (.takeEq (by first | rfl | simp) (.takeEq (by first | rfl | simp) (.nil _))))))))
    · rintro ⟨x, vo2, ps2⟩ fr hinv
      show Run _ _ (over _ _ [(2, vo2), (7, .int .i64 (((x : Nat) : Int)))] fr) [.blk b1 25 [.int .i64 (((N : Nat) : Int)), va], .own (.slice A_vp1 (l.length) c_vp1) 3 1 (l.length) (ints l), .own va 64 2 n (ints xs), .own vo2 34 1 (ps2.length) (oc ps2), .grp 3 1 (gl ps2)]
      try dsimp only at hinv
      refine Run.seq ?_
      refine Run.seq ?_
      refine Run.region ?_
      refine Run.q (v := .int .i64 (((x : Nat) : Int))) rfl (OpQ.y (OpY.pure rfl)) ?_
      refine Run.q (v := .pointer (some ⟨b1, 0, none⟩)) rfl (OpQ.y (OpY.fieldAddr Tfo_25_0 rfl rfl)) ?_
      refine Run.q (v := .int .i64 (((N : Nat) : Int))) rfl (OpQ.y (OpY.load1 Tone_3 rfl (Cells.blk (.head _) ⟨rfl, trivial⟩))) ?_
      refine Run.q (v := .bool (decide ((((x : Nat) : Int)) < (((N : Nat) : Int))))) rfl (OpQ.y (OpY.pure rfl)) ?_
      refine Run.done ?_
      refine Run.cond (b := decide ((((x : Nat) : Int)) < (((N : Nat) : Int)))) rfl (fun h24 => ?_) (fun h24 => ?_)
      · have p24 := h24; try simp only [decide_eq_true_eq, decide_eq_false_iff_not, beq_iff_eq, bne_iff_ne, beq_eq_false_iff_ne, ne_eq, gt_iff_lt, ge_iff_le, Int.not_lt, Int.not_le, bne_eq_false_iff_eq, Bool.not_eq_true', Bool.not_eq_false', Bool.and_eq_true, Bool.and_eq_false_iff, Bool.or_eq_true, Bool.or_eq_false_iff, Decidable.not_not, List.cons.injEq, and_true] at p24
        have hx : x < N := by omega
        obtain ⟨hxN, hps2⟩ := hinv
        have hpl : ps2.length ≤ ps.length + x * N ^ d := by
          have h1 := congrArg List.length hps2
          simp only [List.length_map, List.length_append] at h1
          have h2 := refK_le xs n N d l x
          omega
        have hroom := room_next hx hb hpl
        have hlk : (l ++ [(x : Int)]).length = l.length + 1 := by simp
        refine Run.skip ?_
        refine Run.seq ?_
        refine Run.block ?_
        refine Run.seq ?_
        refine Run.region ?_
        refine Run.q (v := .slice A_vp1 (l.length) c_vp1) rfl (OpQ.y (OpY.pure rfl)) ?_
        refine Run.q (v := .int .i64 (((x : Nat) : Int))) rfl (OpQ.y (OpY.pure rfl)) ?_
        refine Run.q (v := .bool (hasI l x l.length)) rfl (OpQ.call (vs := [.slice A_vp1 (l.length) c_vp1, .int .i64 (((x : Nat) : Int))]) (caps := []) Tcall_59 rfl rfl (fun w hs => l1Has_spec (hs.slOwn (.tail _ (List.Mem.head _))))) ?_
        refine Run.q (v := .bool (!(hasI l x l.length))) rfl (OpQ.y (OpY.pure rfl)) ?_
        refine Run.q (v := .bool (!(hasI l x l.length))) rfl (OpQ.y (OpY.pure rfl)) ?_
        refine Run.done ?_
        refine Run.seq ?_
        refine Run.seq ?_
        refine Run.region ?_
        refine Run.q (v := .slice A_vp1 (l.length) c_vp1) rfl (OpQ.y (OpY.pure rfl)) ?_
        refine Run.q (v := .int .i64 (((l.length : Nat) : Int))) rfl (OpQ.y (OpY.len Tsl_34 rfl)) ?_
        refine Run.q (v := .int .i64 0) rfl (OpQ.y (OpY.pure rfl)) ?_
        refine Run.done ?_
        refine Run.block ?_
        refine Run.loop (ι := Nat) [8, 9, 10, 33, 34, 35, 36, 37, 38, 39, 40, 41, 42, 43, 44, 45, 46, 47, 48, 49, 50, 51] (fun i => [(8, .bool (fitK xs n l x i)), (33, .int .i64 (((i : Nat) : Int)))]) (fun i => [.blk b1 25 [.int .i64 (((N : Nat) : Int)), va], .own (.slice A_vp1 (l.length) c_vp1) 3 1 (l.length) (ints l), .own va 64 2 n (ints xs), .own vo2 34 1 (ps2.length) (oc ps2), .grp 3 1 (gl ps2)]) (fun i => i ≤ l.length) (fun i => l.length - i) 0 ?_ ?_ ?_ ?_
        · exact Nat.zero_le _
        · exact ⟨(by show Value.bool _ = Value.bool _; rw [fitK_zero]), rfl, trivial⟩
        · exact (Some'.weak (.take (.take (.take (.take (.take (.nil _)))))))
        · rintro i fr hinv
          show Run _ _ (over _ _ [(8, .bool (fitK xs n l x i)), (33, .int .i64 (((i : Nat) : Int)))] fr) [.blk b1 25 [.int .i64 (((N : Nat) : Int)), va], .own (.slice A_vp1 (l.length) c_vp1) 3 1 (l.length) (ints l), .own va 64 2 n (ints xs), .own vo2 34 1 (ps2.length) (oc ps2), .grp 3 1 (gl ps2)]
          try dsimp only at hinv
          refine Run.seq ?_
          refine Run.region ?_
          refine Run.q (v := .bool (decide ((((i : Nat) : Int)) < (((l.length : Nat) : Int))))) rfl (OpQ.y (OpY.pure rfl)) ?_
          refine Run.done ?_
          refine Run.seq ?_
          refine Run.cond (b := decide ((((i : Nat) : Int)) < (((l.length : Nat) : Int)))) rfl (fun h34 => ?_) (fun h34 => ?_)
          · have p34 := h34; try simp only [decide_eq_true_eq, decide_eq_false_iff_not, beq_iff_eq, bne_iff_ne, beq_eq_false_iff_ne, ne_eq, gt_iff_lt, ge_iff_le, Int.not_lt, Int.not_le, bne_eq_false_iff_eq, Bool.not_eq_true', Bool.not_eq_false', Bool.and_eq_true, Bool.and_eq_false_iff, Bool.or_eq_true, Bool.or_eq_false_iff, Decidable.not_not, List.cons.injEq, and_true] at p34
            have hlti : i < l.length := by omega
            refine Run.openOwn (.tail _ (List.Mem.head _)) (by omega) (fun gl cl hvgl hcapgl _ => ?_) (fun _ _ _ => ⟨nofun, nofun, nofun⟩)
            injection hvgl with hAgl _ hcgl; subst hAgl; subst hcgl
            refine Run.skip ?_
            refine Run.seq ?_
            refine Run.block ?_
            refine Run.seq ?_
            refine Run.region ?_
            refine Run.q (v := .int .i64 (((i : Nat) : Int))) rfl (OpQ.y (OpY.pure rfl)) ?_
            refine Run.q (v := .pointer (some ⟨gl, i, none⟩)) rfl (OpQ.y (OpY.index (kk := i) Tsl_34 rfl rfl (by omega) (by omega) (by first | rfl | omega))) ?_
            refine Run.q (v := .int .i64 (ix l (i))) rfl (OpQ.y (OpY.load1 Tone_3 rfl (Cells.own0 (.tail _ (List.Mem.head _)) (pre1 (by omega))))) ?_
            refine Run.q (v := .int .i64 (((i : Nat) : Int))) rfl (OpQ.y (OpY.pure rfl)) ?_
            refine Run.q (v := .int .i64 (ix l (i))) rfl (OpQ.y (OpY.pure rfl)) ?_
            refine Run.done ?_
            refine Run.draws (by kernel_rfl) (by kernel_rfl) ?_
            refine Lex.q (v := .bool (fitK xs n l x i)) rfl (OpQ.y (OpY.pure rfl)) ?_
            rcases Bool.eq_false_or_eq_true (fitK xs n l x i) with h39 | h39
            · refine Lex.q (v := .bool true) rfl (OpQ.y (OpY.moveB rfl h39)) ?_
              have p39 := h39; try simp only [decide_eq_true_eq, decide_eq_false_iff_not, beq_iff_eq, bne_iff_ne, beq_eq_false_iff_ne, ne_eq, gt_iff_lt, ge_iff_le, Int.not_lt, Int.not_le, bne_eq_false_iff_eq, Bool.not_eq_true', Bool.not_eq_false', Bool.and_eq_true, Bool.and_eq_false_iff, Bool.or_eq_true, Bool.or_eq_false_iff, Decidable.not_not, List.cons.injEq, and_true] at p39
              refine Lex.q (v := .agg #[.int .i64 (((N : Nat) : Int)), va]) rfl (OpQ.y (OpY.loadN (cs := [.int .i64 (((N : Nat) : Int)), va]) Tagg_25 rfl (Cells.blk (.head _) ⟨rfl, rfl, trivial⟩))) ?_
              refine Lex.q (v := .int .i64 (((i : Nat) : Int))) rfl (OpQ.y (OpY.pure rfl)) ?_
              refine Lex.q (v := .slice (some ⟨gl, 0, none⟩) (l.length) c_vp1) rfl (OpQ.y (OpY.pure rfl)) ?_
              refine Lex.q (v := .int .i64 (((l.length : Nat) : Int))) rfl (OpQ.y (OpY.len Tsl_34 rfl)) ?_
              refine Lex.q (v := .bool (adj xs n (((i : Nat) : Int)) (((l.length : Nat) : Int)))) rfl (OpQ.call (vs := [.agg #[.int .i64 (((N : Nat) : Int)), va], .int .i64 (((i : Nat) : Int)), .int .i64 (((l.length : Nat) : Int))]) (caps := []) Tcall_69 rfl rfl (fun w hs => l22Edge_spec (hs.slOwn (.tail _ (.tail _ (List.Mem.head _)))))) ?_
              refine Lex.q (v := .agg #[.int .i64 (((N : Nat) : Int)), va]) rfl (OpQ.y (OpY.loadN (cs := [.int .i64 (((N : Nat) : Int)), va]) Tagg_25 rfl (Cells.blk (.head _) ⟨rfl, rfl, trivial⟩))) ?_
              refine Lex.q (v := .int .i64 (ix l (i))) rfl (OpQ.y (OpY.pure rfl)) ?_
              refine Lex.q (v := .int .i64 (((x : Nat) : Int))) rfl (OpQ.y (OpY.pure rfl)) ?_
              refine Lex.q (v := .bool (adj xs n (ix l (i)) (((x : Nat) : Int)))) rfl (OpQ.call (vs := [.agg #[.int .i64 (((N : Nat) : Int)), va], .int .i64 (ix l (i)), .int .i64 (((x : Nat) : Int))]) (caps := []) Tcall_69 rfl rfl (fun w hs => l22Edge_spec (hs.slOwn (.tail _ (.tail _ (List.Mem.head _)))))) ?_
              refine Lex.q (v := .bool ((adj xs n (((i : Nat) : Int)) (((l.length : Nat) : Int))) == (adj xs n (ix l (i)) (((x : Nat) : Int))))) rfl (OpQ.y (OpY.eqB Tbool_4 rfl rfl)) ?_
              refine Lex.q (v := .bool ((adj xs n (((i : Nat) : Int)) (((l.length : Nat) : Int))) == (adj xs n (ix l (i)) (((x : Nat) : Int))))) rfl (OpQ.y (OpY.pure rfl)) ?_
              refine Lex.q (v := .bool ((adj xs n (((i : Nat) : Int)) (((l.length : Nat) : Int))) == (adj xs n (ix l (i)) (((x : Nat) : Int))))) rfl (OpQ.y (OpY.pure rfl)) ?_
              refine Lex.done ?_
              refine Run.blockEnd ?_
              refine Run.region ?_
              refine Run.q (v := .int .i64 ((((i : Nat) : Int)) + 1)) rfl (OpQ.y (OpY.add rfl rfl rfl (by omega) (by omega))) ?_
              refine Run.q (v := .int .i64 ((((i : Nat) : Int)) + 1)) rfl (OpQ.y (OpY.pure rfl)) ?_
              refine Run.done ?_
              refine Run.goal ⟨(by repeat (first | exact Same.refl _ _ | refine Same.put rfl ?_ | refine Same.over rfl rfl ?_)), i + 1, ?_, ?_, ?_, ?_⟩
              · exact hlti
              · omega
              · exact ⟨(by show Value.bool _ = Value.bool _; rw [fitK_succ]; simp_all), (by first | rfl | (congr 1; omega) | simp), trivial⟩
              · exact (Some'.weak (.take (.takeEq (by first | rfl | simp) (.takeEq (by first | rfl | simp) (.takeEq (by first | rfl | simp) (.takeEq (by first | rfl | simp) (.nil _)))))))
            · refine Lex.q (v := .bool false) rfl (OpQ.y (OpY.moveB rfl h39)) ?_
              have p39 := h39; try simp only [decide_eq_true_eq, decide_eq_false_iff_not, beq_iff_eq, bne_iff_ne, beq_eq_false_iff_ne, ne_eq, gt_iff_lt, ge_iff_le, Int.not_lt, Int.not_le, bne_eq_false_iff_eq, Bool.not_eq_true', Bool.not_eq_false', Bool.and_eq_true, Bool.and_eq_false_iff, Bool.or_eq_true, Bool.or_eq_false_iff, Decidable.not_not, List.cons.injEq, and_true] at p39
              refine Lex.pass rfl ?_
              refine Lex.pass rfl ?_
              refine Lex.pass rfl ?_
              refine Lex.pass rfl ?_
              refine Lex.pass rfl ?_
              refine Lex.pass rfl ?_
              refine Lex.pass rfl ?_
              refine Lex.pass rfl ?_
              refine Lex.pass rfl ?_
              refine Lex.pass rfl ?_
              refine Lex.q (v := .bool false) rfl (OpQ.y (OpY.pure rfl)) ?_
              refine Lex.q (v := .bool false) rfl (OpQ.y (OpY.pure rfl)) ?_
              refine Lex.done ?_
              refine Run.blockEnd ?_
              refine Run.region ?_
              refine Run.q (v := .int .i64 ((((i : Nat) : Int)) + 1)) rfl (OpQ.y (OpY.add rfl rfl rfl (by omega) (by omega))) ?_
              refine Run.q (v := .int .i64 ((((i : Nat) : Int)) + 1)) rfl (OpQ.y (OpY.pure rfl)) ?_
              refine Run.done ?_
              refine Run.goal ⟨(by repeat (first | exact Same.refl _ _ | refine Same.put rfl ?_ | refine Same.over rfl rfl ?_)), i + 1, ?_, ?_, ?_, ?_⟩
              · exact hlti
              · omega
              · exact ⟨(by show Value.bool _ = Value.bool _; rw [fitK_succ]; simp_all), (by first | rfl | (congr 1; omega) | simp), trivial⟩
              · exact (Some'.weak (.take (.takeEq (by first | rfl | simp) (.takeEq (by first | rfl | simp) (.takeEq (by first | rfl | simp) (.takeEq (by first | rfl | simp) (.nil _)))))))
          · have p34 := h34; try simp only [decide_eq_true_eq, decide_eq_false_iff_not, beq_iff_eq, bne_iff_ne, beq_eq_false_iff_ne, ne_eq, gt_iff_lt, ge_iff_le, Int.not_lt, Int.not_le, bne_eq_false_iff_eq, Bool.not_eq_true', Bool.not_eq_false', Bool.and_eq_true, Bool.and_eq_false_iff, Bool.or_eq_true, Bool.or_eq_false_iff, Decidable.not_not, List.cons.injEq, and_true] at p34
            have hfk : fitK xs n l x i = fitB xs n l x := by rw [show i = l.length by omega]; rfl
            refine Run.exit rfl ?_
            refine Run.seq ?_
            refine Run.region ?_
            refine Run.q (v := .bool (fitK xs n l x i)) rfl (OpQ.y (OpY.pure rfl)) ?_
            refine Run.done ?_
            refine Run.cond (b := fitK xs n l x i) rfl (fun h52 => ?_) (fun h52 => ?_)
            · have p52 := h52; try simp only [decide_eq_true_eq, decide_eq_false_iff_not, beq_iff_eq, bne_iff_ne, beq_eq_false_iff_ne, ne_eq, gt_iff_lt, ge_iff_le, Int.not_lt, Int.not_le, bne_eq_false_iff_eq, Bool.not_eq_true', Bool.not_eq_false', Bool.and_eq_true, Bool.and_eq_false_iff, Bool.or_eq_true, Bool.or_eq_false_iff, Decidable.not_not, List.cons.injEq, and_true] at p52
              have hfit : fitB xs n l (x : Int) = true := by rw [← hfk]; exact p52
              refine Run.heldB (base := [.blk b1 25 [.int .i64 (((N : Nat) : Int)), va], .own (.slice A_vp1 (l.length) c_vp1) 3 1 (l.length) (ints l)]) (by kernel_rfl) ?_
              refine DW.take (i := 0) (v := .agg #[.int .i64 (((N : Nat) : Int)), va]) rfl (by kernel_rfl) (by kernel_rfl) (by kernel_rfl) (fun _ _ _ h => h) (Some'.weak (.take (.take (.nil _)))) rfl (OpY.loadN (cs := [.int .i64 (((N : Nat) : Int)), va]) Tagg_25 rfl (Cells.blk (.head _) ⟨rfl, rfl, trivial⟩)) ?_
              refine DW.take (i := 1) (v := .slice A_vp1 (l.length) c_vp1) rfl (by kernel_rfl) (by kernel_rfl) (by kernel_rfl) (fun _ _ _ h => h) (Some'.weak (.take (.take (.nil _)))) rfl (OpY.pure rfl) ?_
              refine DW.take (i := 3) (v := .int .i64 (((x : Nat) : Int))) rfl (by kernel_rfl) (by kernel_rfl) (by kernel_rfl) (fun _ _ _ h => h) (Some'.weak (.take (.take (.nil _)))) rfl (OpY.pure rfl) ?_
              refine DW.take (i := 6) (v := vo2) rfl (by kernel_rfl) (by kernel_rfl) (by kernel_rfl) (fun _ _ _ h => h) (Some'.weak (.take (.take (.nil _)))) rfl (OpY.pure rfl) ?_
              refine DW.two (i := 2) (j := 4) (by kernel_rfl) rfl rfl rfl rfl ?_ ?_
              · refine OpStep.call (vs := [.slice A_vp1 (l.length) c_vp1]) (caps := []) Tcall_68 rfl rfl (fun w hs => l1Own_spec (n := l.length) (by omega) (hs.slOwn (.tail _ (List.Mem.head _)))) ?_
                rintro uo _ rfl
                refine ⟨(Some'.weak (.skip (.take (.take (.nil _))))), ?_⟩
                refine DW.step (i := 4) (by kernel_rfl) rfl rfl (OpStep.buildSlice (us := [.int .i64 (((x : Nat) : Int))]) Tsl_34 (by decide) (by decide) ⟨rfl, [.int .i64 (((x : Nat) : Int))], _, rfl, rfl, rfl, rfl⟩ rfl fun b3 => ?_)
                refine ⟨(Some'.weak (.skip (.skip (.take (.take (.nil _)))))), ?_⟩
                refine DW.step (i := 5) (by kernel_rfl) rfl rfl (OpStep.append (H1 := [.own (.slice (some ⟨b3, 0, none⟩) 1 1) 3 1 1 ([.int .i64 (((x : Nat) : Int))])]) (H2 := [.blk b1 25 [.int .i64 (((N : Nat) : Int)), va], .own (.slice A_vp1 (l.length) c_vp1) 3 1 (l.length) (ints l), .own va 64 2 n (ints xs), .own vo2 34 1 (ps2.length) (oc ps2), .grp 3 1 (gl ps2)]) (v := uo) (u := .slice (some ⟨b3, 0, none⟩) 1 1) (n := l.length) (m := 1) (xs := ints l) (ys := [.int .i64 (((x : Nat) : Int))]) Tsl_34 (by decide) rfl rfl rfl rfl (fun w hs => hs.slOwn (.head _)) (by simp [Value.oneCell']) (by omega) (by simp only [maxLen]; omega) fun av2 hnav2 => ?_)
                refine DW.weakS (H' := [.own (.slice (some ⟨b3, 0, none⟩) 1 1) 3 1 1 ([.int .i64 (((x : Nat) : Int))]), .own av2 3 1 ((l ++ [(x : Int)]).length) (ints (l ++ [(x : Int)])), .blk b1 25 [.int .i64 (((N : Nat) : Int)), va], .own (.slice A_vp1 (l.length) c_vp1) 3 1 (l.length) (ints l), .own va 64 2 n (ints xs), .own vo2 34 1 (ps2.length) (oc ps2), .grp 3 1 (gl ps2)]) (Some'.weak (.take (.takeEq (by simp [ints]) (.take (.take (.take (.take (.take (.nil _))))))))) ?_
                refine ⟨(Some'.weak (.skip (.skip (.take (.take (.nil _)))))), ?_⟩
                refine DW.step (i := 7) (by kernel_rfl) rfl rfl (OpStep.callM (H1 := [.own av2 3 1 ((l ++ [(x : Int)]).length) (ints (l ++ [(x : Int)])), .own va 64 2 n (ints xs), .own vo2 34 1 (ps2.length) (oc ps2), .grp 3 1 (gl ps2)]) (H2 := [.own (.slice (some ⟨b3, 0, none⟩) 1 1) 3 1 1 ([.int .i64 (((x : Nat) : Int))]), .blk b1 25 [.int .i64 (((N : Nat) : Int)), va], .own (.slice A_vp1 (l.length) c_vp1) 3 1 (l.length) (ints l)]) (vs := [.agg #[.int .i64 (((N : Nat) : Int)), va], av2, vo2]) (caps := []) Tcall_37 rfl rfl ((((Weak.front [.own (.slice (some ⟨b3, 0, none⟩) 1 1) 3 1 1 ([.int .i64 (((x : Nat) : Int))]), .own av2 3 1 ((l ++ [(x : Int)]).length) (ints (l ++ [(x : Int)])), .blk b1 25 [.int .i64 (((N : Nat) : Int)), va], .own (.slice A_vp1 (l.length) c_vp1) 3 1 (l.length) (ints l), .own va 64 2 n (ints xs), .own vo2 34 1 (ps2.length) (oc ps2)] (.grp 3 1 (gl ps2)) []).trans (Weak.front [.grp 3 1 (gl ps2), .own (.slice (some ⟨b3, 0, none⟩) 1 1) 3 1 1 ([.int .i64 (((x : Nat) : Int))]), .own av2 3 1 ((l ++ [(x : Int)]).length) (ints (l ++ [(x : Int)])), .blk b1 25 [.int .i64 (((N : Nat) : Int)), va], .own (.slice A_vp1 (l.length) c_vp1) 3 1 (l.length) (ints l), .own va 64 2 n (ints xs)] (.own vo2 34 1 (ps2.length) (oc ps2)) [])).trans (Weak.front [.own vo2 34 1 (ps2.length) (oc ps2), .grp 3 1 (gl ps2), .own (.slice (some ⟨b3, 0, none⟩) 1 1) 3 1 1 ([.int .i64 (((x : Nat) : Int))]), .own av2 3 1 ((l ++ [(x : Int)]).length) (ints (l ++ [(x : Int)])), .blk b1 25 [.int .i64 (((N : Nat) : Int)), va], .own (.slice A_vp1 (l.length) c_vp1) 3 1 (l.length) (ints l)] (.own va 64 2 n (ints xs)) [])).trans (Weak.front [.own va 64 2 n (ints xs), .own vo2 34 1 (ps2.length) (oc ps2), .grp 3 1 (gl ps2), .own (.slice (some ⟨b3, 0, none⟩) 1 1) 3 1 1 ([.int .i64 (((x : Nat) : Int))])] (.own av2 3 1 ((l ++ [(x : Int)]).length) (ints (l ++ [(x : Int)]))) [.blk b1 25 [.int .i64 (((N : Nat) : Int)), va], .own (.slice A_vp1 (l.length) c_vp1) 3 1 (l.length) (ints l)])) (fun w hs => ih d (by omega) hN he (by omega) hroom (hs.sub (List.sublist_append_left _ _)).self) ?_)
                rintro vo3 _ ⟨ps3, hps3, rfl⟩
                refine ⟨(Some'.weak (.skip (.skip (.skip (.skip (.skip (.take (.take (.nil _))))))))), ?_⟩
                refine DW.take (i := 8) (v := vo3) rfl (by kernel_rfl) (by kernel_rfl) (by kernel_rfl) (fun _ _ _ h => h) (Some'.weak (.skip (.skip (.skip (.skip (.skip (.take (.take (.nil _))))))))) rfl (OpY.pure rfl) ?_
                refine DW.done (by kernel_rfl) ?_
                refine Run.blockEnd ?_
                refine Run.region ?_
                refine Run.q (v := .int .i64 (((x : Nat) : Int))) rfl (OpQ.y (OpY.pure rfl)) ?_
                refine Run.q (v := .int .i64 ((((x : Nat) : Int)) + 1)) rfl (OpQ.y (OpY.add rfl rfl rfl (by omega) (by omega))) ?_
                refine Run.q (v := .int .i64 ((((x : Nat) : Int)) + 1)) rfl (OpQ.y (OpY.pure rfl)) ?_
                refine Run.done ?_
                refine Run.goal ⟨(by repeat (first | exact Same.refl _ _ | refine Same.put rfl ?_ | refine Same.over rfl rfl ?_)), (x + 1, vo3, ps3), ?_, ?_, ?_, ?_⟩
                · exact ⟨hx, by first | (rw [refK_next hfit, hps3, hps2, List.append_assoc]) | (rw [refK_skip hfit]; exact hps2)⟩
                · show N - (x + 1) < N - x; omega
                · exact ⟨(by first | rfl | (congr 1; omega) | simp), (by first | rfl | (congr 1; omega) | simp), trivial⟩
                · exact ((((((Weak.front [.own av2 3 1 ((l ++ [(x : Int)]).length) (ints (l ++ [(x : Int)])), .own va 64 2 n (ints xs), .own vo3 34 1 (ps3.length) (oc ps3)] (.grp 3 1 (gl ps3)) [.own (.slice (some ⟨b3, 0, none⟩) 1 1) 3 1 1 ([.int .i64 (((x : Nat) : Int))]), .blk b1 25 [.int .i64 (((N : Nat) : Int)), va], .own (.slice A_vp1 (l.length) c_vp1) 3 1 (l.length) (ints l)]).trans (Weak.front [.grp 3 1 (gl ps3), .own av2 3 1 ((l ++ [(x : Int)]).length) (ints (l ++ [(x : Int)])), .own va 64 2 n (ints xs)] (.own vo3 34 1 (ps3.length) (oc ps3)) [.own (.slice (some ⟨b3, 0, none⟩) 1 1) 3 1 1 ([.int .i64 (((x : Nat) : Int))]), .blk b1 25 [.int .i64 (((N : Nat) : Int)), va], .own (.slice A_vp1 (l.length) c_vp1) 3 1 (l.length) (ints l)])).trans (Weak.front [.own vo3 34 1 (ps3.length) (oc ps3), .grp 3 1 (gl ps3), .own av2 3 1 ((l ++ [(x : Int)]).length) (ints (l ++ [(x : Int)]))] (.own va 64 2 n (ints xs)) [.own (.slice (some ⟨b3, 0, none⟩) 1 1) 3 1 1 ([.int .i64 (((x : Nat) : Int))]), .blk b1 25 [.int .i64 (((N : Nat) : Int)), va], .own (.slice A_vp1 (l.length) c_vp1) 3 1 (l.length) (ints l)])).trans (Weak.front [.own va 64 2 n (ints xs), .own vo3 34 1 (ps3.length) (oc ps3), .grp 3 1 (gl ps3), .own av2 3 1 ((l ++ [(x : Int)]).length) (ints (l ++ [(x : Int)])), .own (.slice (some ⟨b3, 0, none⟩) 1 1) 3 1 1 ([.int .i64 (((x : Nat) : Int))]), .blk b1 25 [.int .i64 (((N : Nat) : Int)), va]] (.own (.slice A_vp1 (l.length) c_vp1) 3 1 (l.length) (ints l)) [])).trans (Weak.front [.own (.slice A_vp1 (l.length) c_vp1) 3 1 (l.length) (ints l), .own va 64 2 n (ints xs), .own vo3 34 1 (ps3.length) (oc ps3), .grp 3 1 (gl ps3), .own av2 3 1 ((l ++ [(x : Int)]).length) (ints (l ++ [(x : Int)])), .own (.slice (some ⟨b3, 0, none⟩) 1 1) 3 1 1 ([.int .i64 (((x : Nat) : Int))])] (.blk b1 25 [.int .i64 (((N : Nat) : Int)), va]) [])).trans (Some'.weak (.take (.takeEq (by first | rfl | simp) (.takeEq (by first | rfl | simp) (.takeEq (by first | rfl | simp) (.takeEq (by first | rfl | simp) (.nil _))))))))
              · refine OpStep.buildSlice (us := [.int .i64 (((x : Nat) : Int))]) Tsl_34 (by decide) (by decide) ⟨rfl, [.int .i64 (((x : Nat) : Int))], _, rfl, rfl, rfl, rfl⟩ rfl fun b4 => ?_
                refine ⟨(Some'.weak (.skip (.take (.take (.nil _))))), ?_⟩
                refine DW.step (i := 2) (by kernel_rfl) rfl rfl (OpStep.call (vs := [.slice A_vp1 (l.length) c_vp1]) (caps := []) Tcall_68 rfl rfl (fun w hs => l1Own_spec (n := l.length) (by omega) (hs.slOwn (.tail _ (.tail _ (List.Mem.head _))))) ?_)
                rintro uo _ rfl
                refine ⟨(Some'.weak (.skip (.skip (.take (.take (.nil _)))))), ?_⟩
                refine DW.step (i := 5) (by kernel_rfl) rfl rfl (OpStep.append (H1 := []) (H2 := [.own (.slice (some ⟨b4, 0, none⟩) 1 1) 3 1 1 ([.int .i64 (((x : Nat) : Int))]), .blk b1 25 [.int .i64 (((N : Nat) : Int)), va], .own (.slice A_vp1 (l.length) c_vp1) 3 1 (l.length) (ints l), .own va 64 2 n (ints xs), .own vo2 34 1 (ps2.length) (oc ps2), .grp 3 1 (gl ps2)]) (v := uo) (u := .slice (some ⟨b4, 0, none⟩) 1 1) (n := l.length) (m := 1) (xs := ints l) (ys := [.int .i64 (((x : Nat) : Int))]) Tsl_34 (by decide) rfl rfl rfl rfl (fun w hs => hs.slOwn (.tail _ (List.Mem.head _))) (by simp [Value.oneCell']) (by omega) (by simp only [maxLen]; omega) fun av3 hnav3 => ?_)
                refine DW.weakS (H' := [.own av3 3 1 ((l ++ [(x : Int)]).length) (ints (l ++ [(x : Int)])), .own (.slice (some ⟨b4, 0, none⟩) 1 1) 3 1 1 ([.int .i64 (((x : Nat) : Int))]), .blk b1 25 [.int .i64 (((N : Nat) : Int)), va], .own (.slice A_vp1 (l.length) c_vp1) 3 1 (l.length) (ints l), .own va 64 2 n (ints xs), .own vo2 34 1 (ps2.length) (oc ps2), .grp 3 1 (gl ps2)]) (Some'.weak (.takeEq (by simp [ints]) (.take (.take (.take (.take (.take (.take (.nil _))))))))) ?_
                refine ⟨(Some'.weak (.skip (.skip (.take (.take (.nil _)))))), ?_⟩
                refine DW.step (i := 7) (by kernel_rfl) rfl rfl (OpStep.callM (H1 := [.own av3 3 1 ((l ++ [(x : Int)]).length) (ints (l ++ [(x : Int)])), .own va 64 2 n (ints xs), .own vo2 34 1 (ps2.length) (oc ps2), .grp 3 1 (gl ps2)]) (H2 := [.own (.slice (some ⟨b4, 0, none⟩) 1 1) 3 1 1 ([.int .i64 (((x : Nat) : Int))]), .blk b1 25 [.int .i64 (((N : Nat) : Int)), va], .own (.slice A_vp1 (l.length) c_vp1) 3 1 (l.length) (ints l)]) (vs := [.agg #[.int .i64 (((N : Nat) : Int)), va], av3, vo2]) (caps := []) Tcall_37 rfl rfl ((((Weak.front [.own av3 3 1 ((l ++ [(x : Int)]).length) (ints (l ++ [(x : Int)])), .own (.slice (some ⟨b4, 0, none⟩) 1 1) 3 1 1 ([.int .i64 (((x : Nat) : Int))]), .blk b1 25 [.int .i64 (((N : Nat) : Int)), va], .own (.slice A_vp1 (l.length) c_vp1) 3 1 (l.length) (ints l), .own va 64 2 n (ints xs), .own vo2 34 1 (ps2.length) (oc ps2)] (.grp 3 1 (gl ps2)) []).trans (Weak.front [.grp 3 1 (gl ps2), .own av3 3 1 ((l ++ [(x : Int)]).length) (ints (l ++ [(x : Int)])), .own (.slice (some ⟨b4, 0, none⟩) 1 1) 3 1 1 ([.int .i64 (((x : Nat) : Int))]), .blk b1 25 [.int .i64 (((N : Nat) : Int)), va], .own (.slice A_vp1 (l.length) c_vp1) 3 1 (l.length) (ints l), .own va 64 2 n (ints xs)] (.own vo2 34 1 (ps2.length) (oc ps2)) [])).trans (Weak.front [.own vo2 34 1 (ps2.length) (oc ps2), .grp 3 1 (gl ps2), .own av3 3 1 ((l ++ [(x : Int)]).length) (ints (l ++ [(x : Int)])), .own (.slice (some ⟨b4, 0, none⟩) 1 1) 3 1 1 ([.int .i64 (((x : Nat) : Int))]), .blk b1 25 [.int .i64 (((N : Nat) : Int)), va], .own (.slice A_vp1 (l.length) c_vp1) 3 1 (l.length) (ints l)] (.own va 64 2 n (ints xs)) [])).trans (Weak.front [.own va 64 2 n (ints xs), .own vo2 34 1 (ps2.length) (oc ps2), .grp 3 1 (gl ps2)] (.own av3 3 1 ((l ++ [(x : Int)]).length) (ints (l ++ [(x : Int)]))) [.own (.slice (some ⟨b4, 0, none⟩) 1 1) 3 1 1 ([.int .i64 (((x : Nat) : Int))]), .blk b1 25 [.int .i64 (((N : Nat) : Int)), va], .own (.slice A_vp1 (l.length) c_vp1) 3 1 (l.length) (ints l)])) (fun w hs => ih d (by omega) hN he (by omega) hroom (hs.sub (List.sublist_append_left _ _)).self) ?_)
                rintro vo3 _ ⟨ps3, hps3, rfl⟩
                refine ⟨(Some'.weak (.skip (.skip (.skip (.skip (.skip (.take (.take (.nil _))))))))), ?_⟩
                refine DW.take (i := 8) (v := vo3) rfl (by kernel_rfl) (by kernel_rfl) (by kernel_rfl) (fun _ _ _ h => h) (Some'.weak (.skip (.skip (.skip (.skip (.skip (.take (.take (.nil _))))))))) rfl (OpY.pure rfl) ?_
                refine DW.done (by kernel_rfl) ?_
                refine Run.blockEnd ?_
                refine Run.region ?_
                refine Run.q (v := .int .i64 (((x : Nat) : Int))) rfl (OpQ.y (OpY.pure rfl)) ?_
                refine Run.q (v := .int .i64 ((((x : Nat) : Int)) + 1)) rfl (OpQ.y (OpY.add rfl rfl rfl (by omega) (by omega))) ?_
                refine Run.q (v := .int .i64 ((((x : Nat) : Int)) + 1)) rfl (OpQ.y (OpY.pure rfl)) ?_
                refine Run.done ?_
                refine Run.goal ⟨(by repeat (first | exact Same.refl _ _ | refine Same.put rfl ?_ | refine Same.over rfl rfl ?_)), (x + 1, vo3, ps3), ?_, ?_, ?_, ?_⟩
                · exact ⟨hx, by first | (rw [refK_next hfit, hps3, hps2, List.append_assoc]) | (rw [refK_skip hfit]; exact hps2)⟩
                · show N - (x + 1) < N - x; omega
                · exact ⟨(by first | rfl | (congr 1; omega) | simp), (by first | rfl | (congr 1; omega) | simp), trivial⟩
                · exact ((((((Weak.front [.own av3 3 1 ((l ++ [(x : Int)]).length) (ints (l ++ [(x : Int)])), .own va 64 2 n (ints xs), .own vo3 34 1 (ps3.length) (oc ps3)] (.grp 3 1 (gl ps3)) [.own (.slice (some ⟨b4, 0, none⟩) 1 1) 3 1 1 ([.int .i64 (((x : Nat) : Int))]), .blk b1 25 [.int .i64 (((N : Nat) : Int)), va], .own (.slice A_vp1 (l.length) c_vp1) 3 1 (l.length) (ints l)]).trans (Weak.front [.grp 3 1 (gl ps3), .own av3 3 1 ((l ++ [(x : Int)]).length) (ints (l ++ [(x : Int)])), .own va 64 2 n (ints xs)] (.own vo3 34 1 (ps3.length) (oc ps3)) [.own (.slice (some ⟨b4, 0, none⟩) 1 1) 3 1 1 ([.int .i64 (((x : Nat) : Int))]), .blk b1 25 [.int .i64 (((N : Nat) : Int)), va], .own (.slice A_vp1 (l.length) c_vp1) 3 1 (l.length) (ints l)])).trans (Weak.front [.own vo3 34 1 (ps3.length) (oc ps3), .grp 3 1 (gl ps3), .own av3 3 1 ((l ++ [(x : Int)]).length) (ints (l ++ [(x : Int)]))] (.own va 64 2 n (ints xs)) [.own (.slice (some ⟨b4, 0, none⟩) 1 1) 3 1 1 ([.int .i64 (((x : Nat) : Int))]), .blk b1 25 [.int .i64 (((N : Nat) : Int)), va], .own (.slice A_vp1 (l.length) c_vp1) 3 1 (l.length) (ints l)])).trans (Weak.front [.own va 64 2 n (ints xs), .own vo3 34 1 (ps3.length) (oc ps3), .grp 3 1 (gl ps3), .own av3 3 1 ((l ++ [(x : Int)]).length) (ints (l ++ [(x : Int)])), .own (.slice (some ⟨b4, 0, none⟩) 1 1) 3 1 1 ([.int .i64 (((x : Nat) : Int))]), .blk b1 25 [.int .i64 (((N : Nat) : Int)), va]] (.own (.slice A_vp1 (l.length) c_vp1) 3 1 (l.length) (ints l)) [])).trans (Weak.front [.own (.slice A_vp1 (l.length) c_vp1) 3 1 (l.length) (ints l), .own va 64 2 n (ints xs), .own vo3 34 1 (ps3.length) (oc ps3), .grp 3 1 (gl ps3), .own av3 3 1 ((l ++ [(x : Int)]).length) (ints (l ++ [(x : Int)])), .own (.slice (some ⟨b4, 0, none⟩) 1 1) 3 1 1 ([.int .i64 (((x : Nat) : Int))])] (.blk b1 25 [.int .i64 (((N : Nat) : Int)), va]) [])).trans (Some'.weak (.take (.takeEq (by first | rfl | simp) (.takeEq (by first | rfl | simp) (.takeEq (by first | rfl | simp) (.takeEq (by first | rfl | simp) (.nil _))))))))
            · have p52 := h52; try simp only [decide_eq_true_eq, decide_eq_false_iff_not, beq_iff_eq, bne_iff_ne, beq_eq_false_iff_ne, ne_eq, gt_iff_lt, ge_iff_le, Int.not_lt, Int.not_le, bne_eq_false_iff_eq, Bool.not_eq_true', Bool.not_eq_false', Bool.and_eq_true, Bool.and_eq_false_iff, Bool.or_eq_true, Bool.or_eq_false_iff, Decidable.not_not, List.cons.injEq, and_true] at p52
              have hfit : fitB xs n l (x : Int) = false := by rw [← hfk]; exact p52
              refine Run.skip ?_
              refine Run.blockEnd ?_
              refine Run.region ?_
              refine Run.q (v := .int .i64 (((x : Nat) : Int))) rfl (OpQ.y (OpY.pure rfl)) ?_
              refine Run.q (v := .int .i64 ((((x : Nat) : Int)) + 1)) rfl (OpQ.y (OpY.add rfl rfl rfl (by omega) (by omega))) ?_
              refine Run.q (v := .int .i64 ((((x : Nat) : Int)) + 1)) rfl (OpQ.y (OpY.pure rfl)) ?_
              refine Run.done ?_
              refine Run.goal ⟨(by repeat (first | exact Same.refl _ _ | refine Same.put rfl ?_ | refine Same.over rfl rfl ?_)), (x + 1, vo2, ps2), ?_, ?_, ?_, ?_⟩
              · exact ⟨hx, by first | (rw [refK_next hfit, hps3, hps2, List.append_assoc]) | (rw [refK_skip hfit]; exact hps2)⟩
              · show N - (x + 1) < N - x; omega
              · exact ⟨(by first | rfl | (congr 1; omega) | simp), (by first | rfl | (congr 1; omega) | simp), trivial⟩
              · exact ((((((Weak.front [.blk b1 25 [.int .i64 (((N : Nat) : Int)), va], .own (.slice A_vp1 (l.length) c_vp1) 3 1 (l.length) (ints l), .own va 64 2 n (ints xs), .own vo2 34 1 (ps2.length) (oc ps2)] (.grp 3 1 (gl ps2)) []).trans (Weak.front [.grp 3 1 (gl ps2), .blk b1 25 [.int .i64 (((N : Nat) : Int)), va], .own (.slice A_vp1 (l.length) c_vp1) 3 1 (l.length) (ints l), .own va 64 2 n (ints xs)] (.own vo2 34 1 (ps2.length) (oc ps2)) [])).trans (Weak.front [.own vo2 34 1 (ps2.length) (oc ps2), .grp 3 1 (gl ps2), .blk b1 25 [.int .i64 (((N : Nat) : Int)), va], .own (.slice A_vp1 (l.length) c_vp1) 3 1 (l.length) (ints l)] (.own va 64 2 n (ints xs)) [])).trans (Weak.front [.own va 64 2 n (ints xs), .own vo2 34 1 (ps2.length) (oc ps2), .grp 3 1 (gl ps2), .blk b1 25 [.int .i64 (((N : Nat) : Int)), va]] (.own (.slice A_vp1 (l.length) c_vp1) 3 1 (l.length) (ints l)) [])).trans (Weak.front [.own (.slice A_vp1 (l.length) c_vp1) 3 1 (l.length) (ints l), .own va 64 2 n (ints xs), .own vo2 34 1 (ps2.length) (oc ps2), .grp 3 1 (gl ps2)] (.blk b1 25 [.int .i64 (((N : Nat) : Int)), va]) [])).trans (Some'.weak (.take (.takeEq (by first | rfl | simp) (.takeEq (by first | rfl | simp) (.takeEq (by first | rfl | simp) (.takeEq (by first | rfl | simp) (.nil _))))))))
      · have p24 := h24; try simp only [decide_eq_true_eq, decide_eq_false_iff_not, beq_iff_eq, bne_iff_ne, beq_eq_false_iff_ne, ne_eq, gt_iff_lt, ge_iff_le, Int.not_lt, Int.not_le, bne_eq_false_iff_eq, Bool.not_eq_true', Bool.not_eq_false', Bool.and_eq_true, Bool.and_eq_false_iff, Bool.or_eq_true, Bool.or_eq_false_iff, Decidable.not_not, List.cons.injEq, and_true] at p24
        have hxn : x = N := by omega
        refine Run.exit rfl ?_
        refine Run.seq ?_
        refine Run.region ?_
        refine Run.q (v := vo2) rfl (OpQ.y (OpY.pure rfl)) ?_
        refine Run.q (v := vo2) rfl (OpQ.y (OpY.pure rfl)) ?_
        refine Run.done ?_
        refine Run.ret ?_
        refine ⟨vo2, [.own (.slice A_vp1 (l.length) c_vp1) 3 1 (l.length) (ints l), .own va 64 2 n (ints xs), .own vo2 34 1 (ps2.length) (oc ps2), .grp 3 1 (gl ps2)], Out.one rfl rfl, (Some'.weak (.skip (.take (.take (.take (.take (.nil _))))))), ?_⟩
        first | exact ⟨_, by rw [refF, List.map_append]; rfl, rfl⟩ | exact ⟨_, by
            have h := hinv.2
            rw [hxn] at h
            rw [refF_succ]; exact h, rfl⟩

theorem ext_spec (d : Nat) : ExtStmt d := by
  induction d using Nat.strongRecOn with
  | _ d ih =>
    unfold ExtStmt
    intro N va vp vo n xs l ps w hN he hd hb hst
    exact ext_step d ih hN he hd hb hst

set_option maxHeartbeats 1000000 in
set_option maxRecDepth 20000 in
theorem sSymmetriesOf_nat {N : Nat} {va : Value} {n : Nat} {xs : List Int} {w : World} (hN : In64 ((N : Nat) : Int)) (hw : ∀ x ∈ xs, In64 x) (ho : (Res.own va 64 2 n (ints xs)).holds w) : Calls Try.prog 8 #[.agg #[.int .i64 ((N : Nat) : Int), va]] w (Post (Of [.own va 64 2 n (ints xs)]) w fun v H => ∃ u ps, ps.map (·.2) = symR ((N : Nat) : Int) xs n ∧ v = .tuple #[u, .bool (symOk ((N : Nat) : Int) xs n)] ∧ H = [.own va 64 2 n (ints xs), .own u 34 1 ps.length (oc ps), .grp 3 1 (gl ps)]) := by
  refine enter (n := 14) (args := [.agg #[.int .i64 (((N : Nat) : Int)), va]]) Try.func8 rfl rfl (St.start1 ho) ?_
  refine Run.seq ?_
  refine Run.region ?_
  refine Run.step rfl (OpStep.box (us := [.int .i64 (((N : Nat) : Int)), va]) rfl fun b1 => ?_)
  refine Run.q (v := .slice none 0 0) rfl (OpQ.y (OpY.pure rfl)) ?_
  refine Run.q (v := .bool false) rfl (OpQ.y (OpY.pure rfl)) ?_
  refine Run.done ?_
  refine Run.seq ?_
  refine Run.seq ?_
  refine Run.region ?_
  refine Run.q (v := .agg #[.int .i64 (((N : Nat) : Int)), va]) rfl (OpQ.y (OpY.loadN (cs := [.int .i64 (((N : Nat) : Int)), va]) Tagg_25 rfl (Cells.blk (.head _) ⟨rfl, rfl, trivial⟩))) ?_
  refine Run.q (v := .bool (cgOk ((N : Nat) : Int) xs n)) rfl (OpQ.call (vs := [.agg #[.int .i64 (((N : Nat) : Int)), va]]) (caps := []) Tcall_36 rfl rfl (fun w hs => l22Valid_spec hN (hs.slOwn (.tail _ (List.Mem.head _))) hw)) ?_
  refine Run.q (v := .bool (!(cgOk ((N : Nat) : Int) xs n))) rfl (OpQ.y (OpY.pure rfl)) ?_
  rcases Bool.eq_false_or_eq_true (!(cgOk ((N : Nat) : Int) xs n)) with h7 | h7
  · refine Run.q (v := .bool true) rfl (OpQ.y (OpY.moveB rfl h7)) ?_
    have p7 := h7; try simp only [decide_eq_true_eq, decide_eq_false_iff_not, beq_iff_eq, bne_iff_ne, beq_eq_false_iff_ne, ne_eq, gt_iff_lt, ge_iff_le, Int.not_lt, Int.not_le, bne_eq_false_iff_eq, Bool.not_eq_true', Bool.not_eq_false', Bool.and_eq_true, Bool.and_eq_false_iff, Bool.or_eq_true, Bool.or_eq_false_iff, Decidable.not_not, List.cons.injEq, and_true] at p7
    refine Run.pass rfl ?_
    refine Run.pass rfl ?_
    refine Run.pass rfl ?_
    refine Run.q (v := .bool true) rfl (OpQ.y (OpY.pure rfl)) ?_
    refine Run.done ?_
    refine Run.cond (b := true) rfl (fun _ => ?_) (fun h => nomatch h)
    refine Run.seq ?_
    have hbad : symOk ((N : Nat) : Int) xs n = false := by simp_all [symOk]
    refine Run.weak (H' := [.grp 3 1 (gl ([])), .blk b1 25 [.int .i64 (((N : Nat) : Int)), va], .own va 64 2 n (ints xs)]) (Weak.grpNil _ _) ?_ ⟨_, _, rfl, fun _ => nofun, fun _ => nofun⟩
    refine Run.region ?_
    refine Run.q (v := .slice none 0 0) rfl (OpQ.y (OpY.pure rfl)) ?_
    refine Run.q (v := .bool false) rfl (OpQ.y (OpY.pure rfl)) ?_
    refine Run.done ?_
    refine Run.ret ?_
    refine ⟨.tuple #[.slice none 0 0, .bool false], [.own va 64 2 n (ints xs), .own (.slice none 0 0) 34 1 0 ([]), .grp 3 1 (gl ([]))], Out.two rfl rfl rfl, ((Weak.nilOwn 34 1).trans ((((Weak.front [.own (.slice none 0 0) 34 1 0 ([])] (.grp 3 1 (gl ([]))) [.blk b1 25 [.int .i64 (((N : Nat) : Int)), va], .own va 64 2 n (ints xs)]).trans (Weak.front [.grp 3 1 (gl ([]))] (.own (.slice none 0 0) 34 1 0 ([])) [.blk b1 25 [.int .i64 (((N : Nat) : Int)), va], .own va 64 2 n (ints xs)])).trans (Weak.front [.own (.slice none 0 0) 34 1 0 ([]), .grp 3 1 (gl ([])), .blk b1 25 [.int .i64 (((N : Nat) : Int)), va]] (.own va 64 2 n (ints xs)) [])).trans (Some'.weak (.take (.take (.take (.nil _))))))), ?_⟩
    exact ⟨_, [], by rw [symR, hbad]; rfl, by rw [hbad], rfl⟩
  · refine Run.q (v := .bool false) rfl (OpQ.y (OpY.moveB rfl h7)) ?_
    have p7 := h7; try simp only [decide_eq_true_eq, decide_eq_false_iff_not, beq_iff_eq, bne_iff_ne, beq_eq_false_iff_ne, ne_eq, gt_iff_lt, ge_iff_le, Int.not_lt, Int.not_le, bne_eq_false_iff_eq, Bool.not_eq_true', Bool.not_eq_false', Bool.and_eq_true, Bool.and_eq_false_iff, Bool.or_eq_true, Bool.or_eq_false_iff, Decidable.not_not, List.cons.injEq, and_true] at p7
    have hcg : cgOk ((N : Nat) : Int) xs n = true := by simpa using p7
    have hcN := cgOk_N hcg
    refine Run.q (v := .pointer (some ⟨b1, 0, none⟩)) rfl (OpQ.y (OpY.fieldAddr Tfo_25_0 rfl rfl)) ?_
    refine Run.q (v := .int .i64 (((N : Nat) : Int))) rfl (OpQ.y (OpY.load1 Tone_3 rfl (Cells.blk (.head _) ⟨rfl, trivial⟩))) ?_
    refine Run.q (v := .bool (decide ((((N : Nat) : Int)) > 6))) rfl (OpQ.y (OpY.pure rfl)) ?_
    refine Run.q (v := .bool (decide ((((N : Nat) : Int)) > 6))) rfl (OpQ.y (OpY.pure rfl)) ?_
    refine Run.done ?_
    refine Run.cond (b := decide ((((N : Nat) : Int)) > 6)) rfl (fun h11 => ?_) (fun h11 => ?_)
    · have p11 := h11; try simp only [decide_eq_true_eq, decide_eq_false_iff_not, beq_iff_eq, bne_iff_ne, beq_eq_false_iff_ne, ne_eq, gt_iff_lt, ge_iff_le, Int.not_lt, Int.not_le, bne_eq_false_iff_eq, Bool.not_eq_true', Bool.not_eq_false', Bool.and_eq_true, Bool.and_eq_false_iff, Bool.or_eq_true, Bool.or_eq_false_iff, Decidable.not_not, List.cons.injEq, and_true] at p11
      refine Run.seq ?_
      have hbad : symOk ((N : Nat) : Int) xs n = false := by simp_all [symOk]
      refine Run.weak (H' := [.grp 3 1 (gl ([])), .blk b1 25 [.int .i64 (((N : Nat) : Int)), va], .own va 64 2 n (ints xs)]) (Weak.grpNil _ _) ?_ ⟨_, _, rfl, fun _ => nofun, fun _ => nofun⟩
      refine Run.region ?_
      refine Run.q (v := .slice none 0 0) rfl (OpQ.y (OpY.pure rfl)) ?_
      refine Run.q (v := .bool false) rfl (OpQ.y (OpY.pure rfl)) ?_
      refine Run.done ?_
      refine Run.ret ?_
      refine ⟨.tuple #[.slice none 0 0, .bool false], [.own va 64 2 n (ints xs), .own (.slice none 0 0) 34 1 0 ([]), .grp 3 1 (gl ([]))], Out.two rfl rfl rfl, ((Weak.nilOwn 34 1).trans ((((Weak.front [.own (.slice none 0 0) 34 1 0 ([])] (.grp 3 1 (gl ([]))) [.blk b1 25 [.int .i64 (((N : Nat) : Int)), va], .own va 64 2 n (ints xs)]).trans (Weak.front [.grp 3 1 (gl ([]))] (.own (.slice none 0 0) 34 1 0 ([])) [.blk b1 25 [.int .i64 (((N : Nat) : Int)), va], .own va 64 2 n (ints xs)])).trans (Weak.front [.own (.slice none 0 0) 34 1 0 ([]), .grp 3 1 (gl ([])), .blk b1 25 [.int .i64 (((N : Nat) : Int)), va]] (.own va 64 2 n (ints xs)) [])).trans (Some'.weak (.take (.take (.take (.nil _))))))), ?_⟩
      exact ⟨_, [], by rw [symR, hbad]; rfl, by rw [hbad], rfl⟩
    · have p11 := h11; try simp only [decide_eq_true_eq, decide_eq_false_iff_not, beq_iff_eq, bne_iff_ne, beq_eq_false_iff_ne, ne_eq, gt_iff_lt, ge_iff_le, Int.not_lt, Int.not_le, bne_eq_false_iff_eq, Bool.not_eq_true', Bool.not_eq_false', Bool.and_eq_true, Bool.and_eq_false_iff, Bool.or_eq_true, Bool.or_eq_false_iff, Decidable.not_not, List.cons.injEq, and_true] at p11
      have hcg : cgOk ((N : Nat) : Int) xs n = true := by simp_all
      have hcN := cgOk_N hcg
      have h6 : ((N : Nat) : Int) ≤ 6 := by simp_all
      have hok : symOk ((N : Nat) : Int) xs n = true := by simp_all [symOk]
      refine Run.skip ?_
      refine Run.seq ?_
      refine Run.weak (H' := [.own (.slice none 0 0) 34 1 0 ([]), .blk b1 25 [.int .i64 (((N : Nat) : Int)), va], .own va 64 2 n (ints xs)]) (Weak.nilOwn _ _) ?_ ⟨_, _, rfl, fun _ => nofun, fun _ => nofun⟩
      refine Run.weak (H' := [.own (.slice none 0 0) 3 1 0 ([]), .own (.slice none 0 0) 34 1 0 ([]), .blk b1 25 [.int .i64 (((N : Nat) : Int)), va], .own va 64 2 n (ints xs)]) (Weak.nilOwn _ _) ?_ ⟨_, _, rfl, fun _ => nofun, fun _ => nofun⟩
      refine Run.weak (H' := [.grp 3 1 (gl ([])), .own (.slice none 0 0) 3 1 0 ([]), .own (.slice none 0 0) 34 1 0 ([]), .blk b1 25 [.int .i64 (((N : Nat) : Int)), va], .own va 64 2 n (ints xs)]) (Weak.grpNil _ _) ?_ ⟨_, _, rfl, fun _ => nofun, fun _ => nofun⟩
      refine Run.region ?_
      refine Run.q (v := .agg #[.int .i64 (((N : Nat) : Int)), va]) rfl (OpQ.y (OpY.loadN (cs := [.int .i64 (((N : Nat) : Int)), va]) Tagg_25 rfl (Cells.blk (.tail _ (.tail _ (.tail _ (List.Mem.head _)))) ⟨rfl, rfl, trivial⟩))) ?_
      refine Run.step rfl (OpStep.callM (H1 := [.own (.slice none 0 0) 3 1 0 ([]), .own va 64 2 n (ints xs), .own (.slice none 0 0) 34 1 0 ([]), .grp 3 1 (gl ([]))]) (H2 := [.blk b1 25 [.int .i64 (((N : Nat) : Int)), va]]) (vs := [.agg #[.int .i64 (((N : Nat) : Int)), va], .slice none 0 0, .slice none 0 0]) (caps := []) Tcall_37 rfl rfl (((Weak.front [.grp 3 1 (gl ([])), .own (.slice none 0 0) 3 1 0 ([])] (.own (.slice none 0 0) 34 1 0 ([])) [.blk b1 25 [.int .i64 (((N : Nat) : Int)), va], .own va 64 2 n (ints xs)]).trans (Weak.front [.own (.slice none 0 0) 34 1 0 ([]), .grp 3 1 (gl ([])), .own (.slice none 0 0) 3 1 0 ([]), .blk b1 25 [.int .i64 (((N : Nat) : Int)), va]] (.own va 64 2 n (ints xs)) [])).trans (Weak.front [.own va 64 2 n (ints xs), .own (.slice none 0 0) 34 1 0 ([]), .grp 3 1 (gl ([]))] (.own (.slice none 0 0) 3 1 0 ([])) [.blk b1 25 [.int .i64 (((N : Nat) : Int)), va]])) (fun w hs => (show ExtStmt N from ext_spec N) (show 1 ≤ N ∧ N ≤ 6 by omega) (cgOk_edges hcg) (show ([] : List Int).length + N = N by simp) (show ([] : List (Value × List Int)).length + N ^ N ≤ 1000000 by simpa using room6 (N := N) (by omega)) (hs.sub (List.sublist_append_left _ _)).self) ?_)
      rintro vo3 _ ⟨ps3, hps3, rfl⟩
      show Run _ _ (putF _ _ _ vo3) [.own (.slice none 0 0) 3 1 0 ([]), .own va 64 2 n (ints xs), .own vo3 34 1 (ps3.length) (oc ps3), .grp 3 1 (gl ps3), .blk b1 25 [.int .i64 (((N : Nat) : Int)), va]]
      refine Run.q (v := vo3) rfl (OpQ.y (OpY.pure rfl)) ?_
      refine Run.q (v := .bool true) rfl (OpQ.y (OpY.pure rfl)) ?_
      refine Run.done ?_
      refine Run.ret ?_
      refine ⟨.tuple #[vo3, .bool true], [.own va 64 2 n (ints xs), .own vo3 34 1 (ps3.length) (oc ps3), .grp 3 1 (gl ps3)], Out.two rfl rfl rfl, (Some'.weak (.skip (.take (.take (.take (.nil _)))))), ?_⟩
      exact ⟨_, _, by rw [hps3, List.map_nil, List.nil_append, symR, if_pos hok]; rfl, by rw [hok], rfl⟩

set_option maxHeartbeats 1000000 in
set_option maxRecDepth 20000 in
theorem sSymmetriesOf_neg {N : Int} {va : Value} {n : Nat} {xs : List Int} {w : World} (hN : In64 N) (hw : ∀ x ∈ xs, In64 x) (hneg : N < 0) (ho : (Res.own va 64 2 n (ints xs)).holds w) : Calls Try.prog 8 #[.agg #[.int .i64 N, va]] w (Post (Of [.own va 64 2 n (ints xs)]) w fun v H => ∃ u ps, ps.map (·.2) = symR N xs n ∧ v = .tuple #[u, .bool (symOk N xs n)] ∧ H = [.own va 64 2 n (ints xs), .own u 34 1 ps.length (oc ps), .grp 3 1 (gl ps)]) := by
  refine enter (n := 14) (args := [.agg #[.int .i64 N, va]]) Try.func8 rfl rfl (St.start1 ho) ?_
  refine Run.seq ?_
  refine Run.region ?_
  refine Run.step rfl (OpStep.box (us := [.int .i64 N, va]) rfl fun b1 => ?_)
  refine Run.q (v := .slice none 0 0) rfl (OpQ.y (OpY.pure rfl)) ?_
  refine Run.q (v := .bool false) rfl (OpQ.y (OpY.pure rfl)) ?_
  refine Run.done ?_
  refine Run.seq ?_
  refine Run.seq ?_
  refine Run.region ?_
  refine Run.q (v := .agg #[.int .i64 N, va]) rfl (OpQ.y (OpY.loadN (cs := [.int .i64 N, va]) Tagg_25 rfl (Cells.blk (.head _) ⟨rfl, rfl, trivial⟩))) ?_
  refine Run.q (v := .bool (cgOk N xs n)) rfl (OpQ.call (vs := [.agg #[.int .i64 N, va]]) (caps := []) Tcall_36 rfl rfl (fun w hs => l22Valid_spec hN (hs.slOwn (.tail _ (List.Mem.head _))) hw)) ?_
  refine Run.q (v := .bool (!(cgOk N xs n))) rfl (OpQ.y (OpY.pure rfl)) ?_
  rcases Bool.eq_false_or_eq_true (!(cgOk N xs n)) with h7 | h7
  · refine Run.q (v := .bool true) rfl (OpQ.y (OpY.moveB rfl h7)) ?_
    have p7 := h7; try simp only [decide_eq_true_eq, decide_eq_false_iff_not, beq_iff_eq, bne_iff_ne, beq_eq_false_iff_ne, ne_eq, gt_iff_lt, ge_iff_le, Int.not_lt, Int.not_le, bne_eq_false_iff_eq, Bool.not_eq_true', Bool.not_eq_false', Bool.and_eq_true, Bool.and_eq_false_iff, Bool.or_eq_true, Bool.or_eq_false_iff, Decidable.not_not, List.cons.injEq, and_true] at p7
    refine Run.pass rfl ?_
    refine Run.pass rfl ?_
    refine Run.pass rfl ?_
    refine Run.q (v := .bool true) rfl (OpQ.y (OpY.pure rfl)) ?_
    refine Run.done ?_
    refine Run.cond (b := true) rfl (fun _ => ?_) (fun h => nomatch h)
    refine Run.seq ?_
    have hbad : symOk N xs n = false := by simp_all [symOk]
    refine Run.weak (H' := [.grp 3 1 (gl ([])), .blk b1 25 [.int .i64 N, va], .own va 64 2 n (ints xs)]) (Weak.grpNil _ _) ?_ ⟨_, _, rfl, fun _ => nofun, fun _ => nofun⟩
    refine Run.region ?_
    refine Run.q (v := .slice none 0 0) rfl (OpQ.y (OpY.pure rfl)) ?_
    refine Run.q (v := .bool false) rfl (OpQ.y (OpY.pure rfl)) ?_
    refine Run.done ?_
    refine Run.ret ?_
    refine ⟨.tuple #[.slice none 0 0, .bool false], [.own va 64 2 n (ints xs), .own (.slice none 0 0) 34 1 0 ([]), .grp 3 1 (gl ([]))], Out.two rfl rfl rfl, ((Weak.nilOwn 34 1).trans ((((Weak.front [.own (.slice none 0 0) 34 1 0 ([])] (.grp 3 1 (gl ([]))) [.blk b1 25 [.int .i64 N, va], .own va 64 2 n (ints xs)]).trans (Weak.front [.grp 3 1 (gl ([]))] (.own (.slice none 0 0) 34 1 0 ([])) [.blk b1 25 [.int .i64 N, va], .own va 64 2 n (ints xs)])).trans (Weak.front [.own (.slice none 0 0) 34 1 0 ([]), .grp 3 1 (gl ([])), .blk b1 25 [.int .i64 N, va]] (.own va 64 2 n (ints xs)) [])).trans (Some'.weak (.take (.take (.take (.nil _))))))), ?_⟩
    exact ⟨_, [], by rw [symR, hbad]; rfl, by rw [hbad], rfl⟩
  · refine Run.q (v := .bool false) rfl (OpQ.y (OpY.moveB rfl h7)) ?_
    have p7 := h7; try simp only [decide_eq_true_eq, decide_eq_false_iff_not, beq_iff_eq, bne_iff_ne, beq_eq_false_iff_ne, ne_eq, gt_iff_lt, ge_iff_le, Int.not_lt, Int.not_le, bne_eq_false_iff_eq, Bool.not_eq_true', Bool.not_eq_false', Bool.and_eq_true, Bool.and_eq_false_iff, Bool.or_eq_true, Bool.or_eq_false_iff, Decidable.not_not, List.cons.injEq, and_true] at p7
    have hcg : cgOk N xs n = true := by simpa using p7
    have hcN := cgOk_N hcg
    refine Run.q (v := .pointer (some ⟨b1, 0, none⟩)) rfl (OpQ.y (OpY.fieldAddr Tfo_25_0 rfl rfl)) ?_
    refine Run.q (v := .int .i64 N) rfl (OpQ.y (OpY.load1 Tone_3 rfl (Cells.blk (.head _) ⟨rfl, trivial⟩))) ?_
    refine Run.q (v := .bool (decide (N > 6))) rfl (OpQ.y (OpY.pure rfl)) ?_
    refine Run.q (v := .bool (decide (N > 6))) rfl (OpQ.y (OpY.pure rfl)) ?_
    refine Run.done ?_
    refine Run.cond (b := decide (N > 6)) rfl (fun h11 => ?_) (fun h11 => ?_)
    · have p11 := h11; try simp only [decide_eq_true_eq, decide_eq_false_iff_not, beq_iff_eq, bne_iff_ne, beq_eq_false_iff_ne, ne_eq, gt_iff_lt, ge_iff_le, Int.not_lt, Int.not_le, bne_eq_false_iff_eq, Bool.not_eq_true', Bool.not_eq_false', Bool.and_eq_true, Bool.and_eq_false_iff, Bool.or_eq_true, Bool.or_eq_false_iff, Decidable.not_not, List.cons.injEq, and_true] at p11
      refine Run.seq ?_
      have hbad : symOk N xs n = false := by simp_all [symOk]
      refine Run.weak (H' := [.grp 3 1 (gl ([])), .blk b1 25 [.int .i64 N, va], .own va 64 2 n (ints xs)]) (Weak.grpNil _ _) ?_ ⟨_, _, rfl, fun _ => nofun, fun _ => nofun⟩
      refine Run.region ?_
      refine Run.q (v := .slice none 0 0) rfl (OpQ.y (OpY.pure rfl)) ?_
      refine Run.q (v := .bool false) rfl (OpQ.y (OpY.pure rfl)) ?_
      refine Run.done ?_
      refine Run.ret ?_
      refine ⟨.tuple #[.slice none 0 0, .bool false], [.own va 64 2 n (ints xs), .own (.slice none 0 0) 34 1 0 ([]), .grp 3 1 (gl ([]))], Out.two rfl rfl rfl, ((Weak.nilOwn 34 1).trans ((((Weak.front [.own (.slice none 0 0) 34 1 0 ([])] (.grp 3 1 (gl ([]))) [.blk b1 25 [.int .i64 N, va], .own va 64 2 n (ints xs)]).trans (Weak.front [.grp 3 1 (gl ([]))] (.own (.slice none 0 0) 34 1 0 ([])) [.blk b1 25 [.int .i64 N, va], .own va 64 2 n (ints xs)])).trans (Weak.front [.own (.slice none 0 0) 34 1 0 ([]), .grp 3 1 (gl ([])), .blk b1 25 [.int .i64 N, va]] (.own va 64 2 n (ints xs)) [])).trans (Some'.weak (.take (.take (.take (.nil _))))))), ?_⟩
      exact ⟨_, [], by rw [symR, hbad]; rfl, by rw [hbad], rfl⟩
    · have p11 := h11; try simp only [decide_eq_true_eq, decide_eq_false_iff_not, beq_iff_eq, bne_iff_ne, beq_eq_false_iff_ne, ne_eq, gt_iff_lt, ge_iff_le, Int.not_lt, Int.not_le, bne_eq_false_iff_eq, Bool.not_eq_true', Bool.not_eq_false', Bool.and_eq_true, Bool.and_eq_false_iff, Bool.or_eq_true, Bool.or_eq_false_iff, Decidable.not_not, List.cons.injEq, and_true] at p11
      have hcg : cgOk N xs n = true := by simp_all
      have hcN := cgOk_N hcg
      have h6 : N ≤ 6 := by simp_all
      have hok : symOk N xs n = true := by simp_all [symOk]
      omega --DONE

theorem sSymmetriesOf_spec {N : Int} {va : Value} {n : Nat} {xs : List Int} {w : World} (hN : In64 N) (hw : ∀ x ∈ xs, In64 x) (ho : (Res.own va 64 2 n (ints xs)).holds w) : Calls Try.prog 8 #[.agg #[.int .i64 N, va]] w (Post (Of [.own va 64 2 n (ints xs)]) w fun v H => ∃ u ps, ps.map (·.2) = symR N xs n ∧ v = .tuple #[u, .bool (symOk N xs n)] ∧ H = [.own va 64 2 n (ints xs), .own u 34 1 ps.length (oc ps), .grp 3 1 (gl ps)]) := by
  by_cases h : 0 ≤ N
  · obtain ⟨m, rfl⟩ : ∃ m : Nat, N = m := ⟨N.toNat, by omega⟩
    exact sSymmetriesOf_nat hN hw ho
  · exact sSymmetriesOf_neg hN hw (by omega) ho

end Go.Proofs.Ytgghmjijjdboeaa
