/- Walks: shortest circuits of linear maps, by the reference. -/
import Derived.Test.YteehfidjofcfmaaSly
import Derived.Test.YteehfidjofcfmaaProg
set_option linter.unusedSimpArgs false
set_option linter.unusedVariables false
namespace Go.Proofs.Yteehfidjofcfmaa
open Go Go.RowKit
namespace SlzT
theorem Tagg_28 : aggOf Try.prog 28 = some 1 := by kernel_rfl
theorem Tagg_38 : aggOf Try.prog 38 = some 2 := by kernel_rfl
theorem Tcall_46 : callable Try.prog 46 = true := by kernel_rfl
theorem Tcall_47 : callable Try.prog 47 = true := by kernel_rfl
theorem Tcall_48 : callable Try.prog 48 = true := by kernel_rfl
theorem Tcall_51 : callable Try.prog 51 = true := by kernel_rfl
theorem Tfo_28_0 : fieldOff Try.prog 28 0 = some 0 := by kernel_rfl
theorem Tfo_38_1 : fieldOff Try.prog 38 1 = some 1 := by kernel_rfl
theorem Tone_22 : oneOf Try.prog 22 = true := by kernel_rfl
theorem Tone_3 : oneOf Try.prog 3 = true := by kernel_rfl
theorem Tone_36 : oneOf Try.prog 36 = true := by kernel_rfl
theorem Tsize_28 : (Try.prog.info? 28).map (·.size) = some 1 := by kernel_rfl
theorem Tsize_36 : (Try.prog.info? 36).map (·.size) = some 1 := by kernel_rfl
theorem Tsize_38 : (Try.prog.info? 38).map (·.size) = some 2 := by kernel_rfl
theorem Tsl_22 : sliceOf Try.prog 22 = some (3, 1, 8, [.int .i64 0]) := by kernel_rfl
theorem Tsl_36 : sliceOf Try.prog 36 = some (71, 3, 24, [.int .i64 0, .int .i64 0, .int .i64 0]) := by kernel_rfl
theorem Tzero_28 : zeroOf Try.prog 28 = some [.slice none 0 0] := by kernel_rfl
theorem Tzero_38 : zeroOf Try.prog 38 = some [.int .i64 0, .slice none 0 0] := by kernel_rfl
end SlzT
open SlzT

theorem far_val {n N i0 : Nat} (hN : N = 65536) (h4 : n ≤ 4) {k p : List Nat} (h : ((k, 0), p) ∈ lq n i0) : ix (farL N (lq n i0)) (cdK (k, 0)) = (p.length : Int) + 1 :=
  farL_hit hN h4 (fun y hy => lq_fK h4 hy) lq_nd h
theorem far_ent {n N i0 : Nat} (h4 : n ≤ 4) {k : List Nat} (hk : fK n (k, 0)) (h : 0 < ix (farL N (lq n i0)) (cdK (k, 0))) : ∃ p, ((k, 0), p) ∈ lq n i0 := by
  by_cases hm : (k, 0) ∈ (lq n i0).map (·.1)
  · obtain ⟨y, hy, he⟩ := List.mem_map.1 hm
    exact ⟨y.2, by rw [← he]; exact hy⟩
  · rw [farL_miss (fun y hy => lq_fK h4 hy) hk hm] at h; exact absurd h (by decide)
/-- A first letter that leads nearer is that of the least word, if no smaller one does. -/
theorem near_eq {n N i0 k e : Nat} {mj lt : List Nat} (hN : N = 65536) (h4 : n ≤ 4) (hw : LW n mj (e :: lt)) (hml : mj.length = n) (hmb : ∀ j, nx mj j < 2 ^ n) (hk : k < n * n ∧ lok n k = true) (hke : k ≤ e)
    (h0 : 0 < ix (farL N (lq n i0)) (cdK (aft mj (k / n) (k % n), 0))) (h1 : ix (farL N (lq n i0)) (cdK (aft mj (k / n) (k % n), 0)) < (lt.length : Int) + 1 + 1) : k = e := by
  obtain ⟨g1, g2, _⟩ := edge_of hk
  have hfk : fK n (aft mj (k / n) (k % n), 0) := ⟨by simp [hml], fun j => Nat.lt_of_lt_of_le (aft_lt g1 hmb j) (pow16 h4), rfl⟩
  obtain ⟨q, hq⟩ := far_ent h4 hfk h0
  rw [far_val hN h4 hq] at h1
  rcases Nat.lt_or_eq_of_le hke with h | h
  · have h3 : lt.length < q.length := hw.head hk h (lq_LW h4 hq); omega
  · exact h
/-- The first letter of the least word leads nearer. -/
theorem near_hit {n N i0 e : Nat} {mj lt : List Nat} (hN : N = 65536) (h4 : n ≤ 4) (hw : LW n mj (e :: lt)) (hm : ((mj, 0), e :: lt) ∈ lq n i0) : ((aft mj (e / n) (e % n), 0), lt) ∈ lq n i0 ∧ ix (farL N (lq n i0)) (cdK (aft mj (e / n) (e % n), 0)) = (lt.length : Int) + 1 := by
  have h1 := lq_before h4 hm hw.tail (by simp)
  exact ⟨h1, far_val hN h4 h1⟩

set_option maxHeartbeats 4000000 in
set_option maxRecDepth 20000 in
theorem sShortestLinear_spec {va : Value} {n : Nat} {xs : List Int} {w : World} (ha : Sl w va 1 n (ints xs)) : Calls Try.prog 18 #[.agg #[va]] w (Post No w fun v H => ∃ u, v = .tuple #[.agg #[.int .i64 (slN n xs), u], .bool (slB n xs)] ∧ H = [.own u 71 3 (slG n xs).length (ints (flCX (dcw n (slG n xs))))]) := by
  have hxl := ha.len
  rw [Nat.mul_one] at hxl
  have hxl : xs.length = n := by simpa [ints] using hxl
  have hn := ha.le
  obtain ⟨Av, cv, rfl, hnc, _⟩ := ha.form0
  obtain ⟨N, hN⟩ : ∃ N : Nat, N = 65536 := ⟨_, rfl⟩
  refine enter (n := 84) (args := [.agg #[.slice Av n cv]]) Try.func18 rfl rfl (St.empty _ _) ?_
  refine Run.seq ?_
  refine Run.region ?_
  refine Run.step rfl (OpStep.box (us := [.slice Av n cv]) rfl fun b1 => ?_)
  refine Run.step rfl (OpStep.alloc (zs := [.int .i64 0, .slice none 0 0]) Tzero_38 fun b2 => ?_)
  refine Run.q (v := .bool false) rfl (OpQ.y (OpY.pure rfl)) ?_
  refine Run.done ?_
  refine Run.seq ?_
  refine Run.seq ?_
  refine Run.region ?_
  refine Run.q (v := .agg #[.slice Av n cv]) rfl (OpQ.y (OpY.loadN (cs := [.slice Av n cv]) Tagg_28 rfl (Cells.blk (.tail _ (List.Mem.head _)) ⟨rfl, trivial⟩))) ?_
  refine Run.q (v := .bool (decide (n ≤ 4) && linOk xs n)) rfl (OpQ.call (vs := [.agg #[.slice Av n cv]]) (caps := []) Tcall_46 rfl rfl (fun w hs => l12Small_spec (hs.sl ha))) ?_
  refine Run.q (v := .bool (!(decide (n ≤ 4) && linOk xs n))) rfl (OpQ.y (OpY.pure rfl)) ?_
  refine Run.done ?_
  refine Run.cond (b := !(decide (n ≤ 4) && linOk xs n)) rfl (fun h14 => ?_) (fun h14 => ?_)
  · have p14 := h14; try simp only [decide_eq_true_eq, decide_eq_false_iff_not, beq_iff_eq, bne_iff_ne, beq_eq_false_iff_ne, ne_eq, gt_iff_lt, ge_iff_le, Int.not_lt, Int.not_le, bne_eq_false_iff_eq, Bool.not_eq_true', Bool.not_eq_false', Bool.and_eq_true, Bool.and_eq_false_iff, Bool.or_eq_true, Bool.or_eq_false_iff, Decidable.not_not, List.cons.injEq, and_true] at p14
    refine Run.seq ?_
    have hbad : slB n xs = false := by
      cases hb : slB n xs with
      | false => rfl
      | true =>
        exfalso
        obtain ⟨h4, hlk⟩ : n ≤ 4 ∧ linOk xs n = true := by simpa [slB] using hb
        first | (simp_all; done) | (simp_all; omega) | omega
    refine Run.region ?_
    refine Run.q (v := .agg #[.int .i64 0, .slice none 0 0]) rfl (OpQ.y (OpY.build (cs := [.int .i64 0, .slice none 0 0]) (by kernel_rfl))) ?_
    refine Run.step rfl (OpStep.storeAll (us := [.int .i64 0, .slice none 0 0]) Tsize_38 rfl rfl rfl (.here _) rfl ?_)
    refine Run.q (v := .bool false) rfl (OpQ.y (OpY.pure rfl)) ?_
    refine Run.done ?_
    refine Run.ret ?_
    refine ⟨.tuple #[.agg #[.int .i64 0, .slice none 0 0], .bool false], [.own (.slice none 0 0) 71 3 0 ([])], Out.cell2 (cs := [.int .i64 0, .slice none 0 0]) rfl Tagg_38 rfl (Cells.blk (.head _) ⟨rfl, rfl, trivial⟩) rfl, ((Weak.nilOwn 71 3).trans (Some'.weak (.take (.nil _)))), ?_⟩
    exact ⟨_, by rw [(sl_bad hbad).2, hbad], by rw [(sl_bad hbad).1]; rfl⟩
  · have p14 := h14; try simp only [decide_eq_true_eq, decide_eq_false_iff_not, beq_iff_eq, bne_iff_ne, beq_eq_false_iff_ne, ne_eq, gt_iff_lt, ge_iff_le, Int.not_lt, Int.not_le, bne_eq_false_iff_eq, Bool.not_eq_true', Bool.not_eq_false', Bool.and_eq_true, Bool.and_eq_false_iff, Bool.or_eq_true, Bool.or_eq_false_iff, Decidable.not_not, List.cons.injEq, and_true] at p14
    refine Run.skip ?_
    refine Run.seq ?_
    have hgood : slB n xs = true := by
      rw [slB, Bool.and_eq_true, decide_eq_true_eq]
      refine ⟨?_, ?_⟩ <;> first | omega | (simp_all; done) | (simp_all; omega)
    obtain ⟨h4, hlk⟩ : n ≤ 4 ∧ linOk xs n = true := by simpa [slB] using hgood
    obtain ⟨h1n, h5n, hnl, hml, hmb, hmi⟩ := lin_facts hxl hlk
    obtain ⟨m, hm⟩ : ∃ m, m = nats xs := ⟨_, rfl⟩
    rw [← hm] at hnl hml hmb hmi
    have hm16 : ∀ j, nx m j < 16 := fun j => Nat.lt_of_lt_of_le (hmb j) (pow16 h4)
    have hgoal : ∀ i, (lq n i).length ≤ i → (m, 0) ∈ (lq n i).map (·.1) := fun i hi => lq_found_all h4 hml (fun i _ => hmb i) hmi hi
    have hlw : LW n m (slG n xs) := hm ▸ sl_LW hxl hgood
    have hsl28 := sl_len hxl hgood
    have h16n : n * n ≤ 16 := Nat.le_trans (Nat.mul_le_mul h4 h4) (by omega)
    obtain ⟨p0, hp0⟩ : ∃ p, p = slG n xs := ⟨_, rfl⟩
    rw [← hp0] at hlw hsl28
    refine Run.region ?_
    refine Run.q (v := .agg #[.slice Av n cv]) rfl (OpQ.y (OpY.loadN (cs := [.slice Av n cv]) Tagg_28 rfl (Cells.blk (.tail _ (List.Mem.head _)) ⟨rfl, trivial⟩))) ?_
    refine Run.step rfl (OpStep.call (vs := [.agg #[.slice Av n cv]]) (caps := []) Tcall_47 rfl rfl (fun w hs => l12Distances_spec (N := N) (m := m) hN (by omega) h4 hml hm16 hgoal (by rw [hnl]; exact hs.sl ha)) ?_)
    rintro uD _ ⟨i0, hi0, rfl⟩
    show Run _ _ (putF _ _ _ uD) [.own uD 3 1 N (ints (farL N (lq n i0))), .blk b2 38 [.int .i64 0, .slice none 0 0], .blk b1 28 [.slice Av n cv]]
    obtain ⟨hpm, hfm⟩ := far_slG (i := i0) hN hxl hgood (by rw [← hm]; exact hi0)
    rw [← hm] at hpm hfm
    rw [← hp0] at hpm
    refine Run.q (v := uD) rfl (OpQ.y (OpY.pure rfl)) ?_
    refine Run.done ?_
    refine Run.openOwn (.head _) (by omega) (fun gf cf hvgf hcapgf _ => ?_) (fun _ _ _ => ⟨nofun, nofun, nofun⟩)
    subst hvgf
    have hcN : ∀ {k : List Nat × Nat}, fK n k → cdK k < N := fun h => by rw [hN]; exact fK_lt h4 h
    refine Run.seq ?_
    refine Run.region ?_
    refine Run.q (v := .pointer (some ⟨b1, 0, none⟩)) rfl (OpQ.y (OpY.fieldAddr Tfo_28_0 rfl rfl)) ?_
    refine Run.q (v := .slice Av n cv) rfl (OpQ.y (OpY.load1 Tone_22 rfl (Cells.blk (.tail _ (.tail _ (List.Mem.head _))) ⟨rfl, trivial⟩))) ?_
    refine Run.q (v := .int .i64 (((n : Nat) : Int))) rfl (OpQ.y (OpY.len Tsl_22 rfl)) ?_
    refine Run.q (v := .int .i64 (((n : Nat) : Int))) rfl (OpQ.y (OpY.pure rfl)) ?_
    refine Run.done ?_
    refine Run.seq ?_
    refine Run.region ?_
    refine Run.q (v := .int .i64 (((n : Nat) : Int))) rfl (OpQ.y (OpY.pure rfl)) ?_
    refine Run.q (v := .agg #[.int .i64 (((n : Nat) : Int)), .slice none 0 0]) rfl (OpQ.y (OpY.build (cs := [.int .i64 (((n : Nat) : Int)), .slice none 0 0]) (by kernel_rfl))) ?_
    refine Run.step rfl (OpStep.alloc (zs := [.int .i64 0, .slice none 0 0]) Tzero_38 fun b3 => ?_)
    refine Run.step rfl (OpStep.storeAll (us := [.int .i64 (((n : Nat) : Int)), .slice none 0 0]) Tsize_38 rfl rfl rfl (.here _) rfl ?_)
    refine Run.done ?_
    refine Run.seq ?_
    refine Run.block ?_
    refine Run.weak (H' := [.own (.slice none 0 0) 71 3 0 ([]), .blk b3 38 [.int .i64 (((n : Nat) : Int)), .slice none 0 0], .own (.slice (some ⟨gf, 0, none⟩) N cf) 3 1 N (ints (farL N (lq n i0))), .blk b2 38 [.int .i64 0, .slice none 0 0], .blk b1 28 [.slice Av n cv]]) (Weak.nilOwn _ _) ?_ ⟨_, _, rfl, fun _ => nofun, fun _ => nofun⟩
    refine Run.weak (H' := [.grp 3 1 (gl ([])), .own (.slice none 0 0) 71 3 0 ([]), .blk b3 38 [.int .i64 (((n : Nat) : Int)), .slice none 0 0], .own (.slice (some ⟨gf, 0, none⟩) N cf) 3 1 N (ints (farL N (lq n i0))), .blk b2 38 [.int .i64 0, .slice none 0 0], .blk b1 28 [.slice Av n cv]]) (Weak.grpNil _ _) ?_ ⟨_, _, rfl, fun _ => nofun, fun _ => nofun⟩
    refine Run.loop (ι := List Nat × List Nat × List Nat × Value × Value × List (Value × Nat × List Value)) ([7, 8, 9, 10, 11, 23, 24, 25, 26, 27, 28, 29, 30, 31, 32, 33, 34, 35, 36, 37, 38, 39, 40, 41, 42, 43, 44, 45, 46, 47, 48, 49, 50, 51, 52, 53, 54, 55, 56, 57, 58, 59, 60, 61, 62, 63, 64, 65, 66, 67] ++ [68, 69, 70, 71, 72, 73, 74, 75, 76, 77, 78, 79, 80, 81, 82]) (fun ⟨dn, lf, mj, vr, vg, lg⟩ => []) (fun ⟨dn, lf, mj, vr, vg, lg⟩ => [.own vg 71 3 ((dn).length) (ints (flCX (dcw n dn))), .grp 3 1 lg, .own (.slice (some ⟨gf, 0, none⟩) N cf) 3 1 N (ints (farL N (lq n i0))), .blk b1 28 [vr], .blk b3 38 [.int .i64 (((n : Nat) : Int)), vg], .blk b2 38 [.int .i64 0, .slice none 0 0]]) (fun ⟨dn, lf, mj, vr, vg, lg⟩ => p0 = dn ++ lf ∧ LW n mj lf ∧ ((mj, 0), lf) ∈ lq n i0 ∧ (∀ j, nx mj j < 2 ^ n) ∧ ((vr = (Value.slice Av n cv) ∧ mj = m) ∨ (vr, n, ints (nl mj)) ∈ lg)) (fun ⟨dn, lf, mj, vr, vg, lg⟩ => lf.length) ([], p0, m, (Value.slice Av n cv), .slice none 0 0, []) ?_ ?_ ?_ ?_
    · exact ⟨rfl, hlw, hpm, hmb, .inl ⟨rfl, rfl⟩⟩
    · exact trivial
    · exact (((((((Weak.front [.grp 3 1 (gl ([])), .own (.slice none 0 0) 71 3 0 ([]), .blk b3 38 [.int .i64 (((n : Nat) : Int)), .slice none 0 0], .own (.slice (some ⟨gf, 0, none⟩) N cf) 3 1 N (ints (farL N (lq n i0)))] (.blk b2 38 [.int .i64 0, .slice none 0 0]) [.blk b1 28 [.slice Av n cv]]).trans (Weak.front [.blk b2 38 [.int .i64 0, .slice none 0 0], .grp 3 1 (gl ([])), .own (.slice none 0 0) 71 3 0 ([])] (.blk b3 38 [.int .i64 (((n : Nat) : Int)), .slice none 0 0]) [.own (.slice (some ⟨gf, 0, none⟩) N cf) 3 1 N (ints (farL N (lq n i0))), .blk b1 28 [.slice Av n cv]])).trans (Weak.front [.blk b3 38 [.int .i64 (((n : Nat) : Int)), .slice none 0 0], .blk b2 38 [.int .i64 0, .slice none 0 0], .grp 3 1 (gl ([])), .own (.slice none 0 0) 71 3 0 ([]), .own (.slice (some ⟨gf, 0, none⟩) N cf) 3 1 N (ints (farL N (lq n i0)))] (.blk b1 28 [.slice Av n cv]) [])).trans (Weak.front [.blk b1 28 [.slice Av n cv], .blk b3 38 [.int .i64 (((n : Nat) : Int)), .slice none 0 0], .blk b2 38 [.int .i64 0, .slice none 0 0], .grp 3 1 (gl ([])), .own (.slice none 0 0) 71 3 0 ([])] (.own (.slice (some ⟨gf, 0, none⟩) N cf) 3 1 N (ints (farL N (lq n i0)))) [])).trans (Weak.front [.own (.slice (some ⟨gf, 0, none⟩) N cf) 3 1 N (ints (farL N (lq n i0))), .blk b1 28 [.slice Av n cv], .blk b3 38 [.int .i64 (((n : Nat) : Int)), .slice none 0 0], .blk b2 38 [.int .i64 0, .slice none 0 0]] (.grp 3 1 (gl ([]))) [.own (.slice none 0 0) 71 3 0 ([])])).trans (Weak.front [.grp 3 1 (gl ([])), .own (.slice (some ⟨gf, 0, none⟩) N cf) 3 1 N (ints (farL N (lq n i0))), .blk b1 28 [.slice Av n cv], .blk b3 38 [.int .i64 (((n : Nat) : Int)), .slice none 0 0], .blk b2 38 [.int .i64 0, .slice none 0 0]] (.own (.slice none 0 0) 71 3 0 ([])) [])).trans (Some'.weak (.takeEq (by first | rfl | simp) (.takeEq (by first | rfl | simp) (.take (.takeEq (by first | rfl | simp) (.takeEq (by first | rfl | simp) (.take (.nil _)))))))))
    · rintro ⟨dn, lf, mj, vr, vg, lg⟩ fr hinv
      show Run _ _ (over _ _ [] fr) [.own vg 71 3 ((dn).length) (ints (flCX (dcw n dn))), .grp 3 1 lg, .own (.slice (some ⟨gf, 0, none⟩) N cf) 3 1 N (ints (farL N (lq n i0))), .blk b1 28 [vr], .blk b3 38 [.int .i64 (((n : Nat) : Int)), vg], .blk b2 38 [.int .i64 0, .slice none 0 0]]
      try dsimp only at hinv
      refine Run.seq ?_
      refine Run.seq ?_
      obtain ⟨hpd, hlj, hjm, hjb, hcur⟩ := hinv
      have hjf := lq_fK h4 hjm
      have hjl : mj.length = n := hjf.1
      have hj16 : ∀ j, nx mj j < 16 := hjf.2.1
      have hjc : cdK (mj, 0) < N := hcN hjf
      have hfj : ix (farL N (lq n i0)) (cdK (mj, 0)) = ((lf.length : Nat) : Int) + 1 := far_val hN h4 hjm
      have hpl : p0.length = dn.length + lf.length := by rw [hpd, List.length_append]
      refine Run.region ?_
      refine Run.q (v := .slice (some ⟨gf, 0, none⟩) N cf) rfl (OpQ.y (OpY.pure rfl)) ?_
      refine Run.q (v := .agg #[vr]) rfl (OpQ.y (OpY.loadN (cs := [vr]) Tagg_28 rfl (Cells.blk (.tail _ (.tail _ (.tail _ (List.Mem.head _)))) ⟨rfl, trivial⟩))) ?_
      refine Run.q (v := .int .i64 (((cdK (mj, 0) : Nat) : Int))) rfl (OpQ.call (vs := [.agg #[vr]]) (caps := []) Tcall_48 rfl rfl (fun w hs => (by have h := l12Code_spec (va := vr) (l := mj) (by omega) hj16 (by rw [hjl]; exact (hcur.elim (fun h => by rw [h.1, h.2, hnl]; exact hs.sl ha) (fun hg => hs.slGrpR (p := (vr, n, ints (nl mj))) (.tail _ (List.Mem.head _)) hg))); rw [code_of rfl] at h; exact h))) ?_
      refine Run.q (v := .pointer (some ⟨gf, cdK (mj, 0), none⟩)) rfl (OpQ.y (OpY.index (kk := cdK (mj, 0)) Tsl_22 rfl rfl (by omega) (by omega) (by first | rfl | omega))) ?_
      refine Run.q (v := .int .i64 (((lf.length : Nat) : Int) + 1)) rfl (OpQ.y (OpY.load1 Tone_3 rfl (by rw [← hfj]; exact Cells.own0 (.tail _ (.tail _ (List.Mem.head _))) (pre1 (by rw [farL_length]; omega))))) ?_
      refine Run.q (v := .bool (decide ((((lf.length : Nat) : Int) + 1) > 1))) rfl (OpQ.y (OpY.pure rfl)) ?_
      refine Run.done ?_
      refine Run.cond (b := decide ((((lf.length : Nat) : Int) + 1) > 1)) rfl (fun h28 => ?_) (fun h28 => ?_)
      · have p28 := h28; try simp only [decide_eq_true_eq, decide_eq_false_iff_not, beq_iff_eq, bne_iff_ne, beq_eq_false_iff_ne, ne_eq, gt_iff_lt, ge_iff_le, Int.not_lt, Int.not_le, bne_eq_false_iff_eq, Bool.not_eq_true', Bool.not_eq_false', Bool.and_eq_true, Bool.and_eq_false_iff, Bool.or_eq_true, Bool.or_eq_false_iff, Decidable.not_not, List.cons.injEq, and_true] at p28
        obtain ⟨e, lt, rfl⟩ : ∃ e lt, lf = e :: lt := by
          cases lf with
          | nil => exact absurd p28 (by simp)
          | cons e lt => exact ⟨e, lt, rfl⟩
        have hee := (BW.cons.1 hlj.1).1
        refine Run.skip ?_
        refine Run.block ?_
        refine Run.seq ?_
        refine Run.region ?_
        refine Run.q (v := .bool false) rfl (OpQ.y (OpY.pure rfl)) ?_
        refine Run.done ?_
        refine Run.seq ?_
        refine Run.region ?_
        refine Run.q (v := .int .i64 0) rfl (OpQ.y (OpY.pure rfl)) ?_
        refine Run.done ?_
        refine Run.block ?_
        refine Run.loop (ι := Nat × Bool × List Nat × List Nat × List Nat × Value × Value × List (Value × Nat × List Value)) ([7, 8, 9, 10, 11, 29, 30, 31, 32, 33, 34, 35, 36, 37, 38, 39, 40, 41, 42, 43, 44, 45, 46, 47, 48, 49, 50, 51, 52, 53, 54, 55, 56, 57, 58, 59, 60, 61, 62, 63, 64, 65, 66, 67, 68, 69, 70, 71, 72, 73] ++ [74, 75, 76, 77, 78, 79, 80, 81, 82]) (fun ⟨k, fd, dn2, lf2, mj2, vr2, vg2, lg2⟩ => [(7, .bool fd), (8, .int .i64 (((k : Nat) : Int)))]) (fun ⟨k, fd, dn2, lf2, mj2, vr2, vg2, lg2⟩ => [.own vg2 71 3 ((dn2).length) (ints (flCX (dcw n dn2))), .grp 3 1 lg2, .own (.slice (some ⟨gf, 0, none⟩) N cf) 3 1 N (ints (farL N (lq n i0))), .blk b1 28 [vr2], .blk b3 38 [.int .i64 (((n : Nat) : Int)), vg2], .blk b2 38 [.int .i64 0, .slice none 0 0]]) (fun ⟨k, fd, dn2, lf2, mj2, vr2, vg2, lg2⟩ => k ≤ n * n ∧ (fd = false → k ≤ e ∧ dn = dn2 ∧ (e :: lt) = lf2 ∧ mj = mj2 ∧ vr = vr2 ∧ vg = vg2 ∧ lg = lg2) ∧ (fd = true → lf2 = lt ∧ p0 = dn2 ++ lf2 ∧ LW n mj2 lf2 ∧ ((mj2, 0), lf2) ∈ lq n i0 ∧ (∀ j, nx mj2 j < 2 ^ n) ∧ ((vr2 = (Value.slice Av n cv) ∧ mj2 = m) ∨ (vr2, n, ints (nl mj2)) ∈ lg2))) (fun ⟨k, fd, dn2, lf2, mj2, vr2, vg2, lg2⟩ => n * n - k) (0, false, dn, e :: lt, mj, vr, vg, lg) ?_ ?_ ?_ ?_
        · exact ⟨Nat.zero_le _, fun _ => ⟨Nat.zero_le _, rfl, rfl, rfl, rfl, rfl, rfl⟩, fun h => nomatch h⟩
        · exact ⟨rfl, rfl, trivial⟩
        · exact (((((((Weak.front [.own vg 71 3 ((dn).length) (ints (flCX (dcw n dn))), .grp 3 1 lg, .own (.slice (some ⟨gf, 0, none⟩) N cf) 3 1 N (ints (farL N (lq n i0))), .blk b1 28 [vr], .blk b3 38 [.int .i64 (((n : Nat) : Int)), vg]] (.blk b2 38 [.int .i64 0, .slice none 0 0]) []).trans (Weak.front [.blk b2 38 [.int .i64 0, .slice none 0 0], .own vg 71 3 ((dn).length) (ints (flCX (dcw n dn))), .grp 3 1 lg, .own (.slice (some ⟨gf, 0, none⟩) N cf) 3 1 N (ints (farL N (lq n i0))), .blk b1 28 [vr]] (.blk b3 38 [.int .i64 (((n : Nat) : Int)), vg]) [])).trans (Weak.front [.blk b3 38 [.int .i64 (((n : Nat) : Int)), vg], .blk b2 38 [.int .i64 0, .slice none 0 0], .own vg 71 3 ((dn).length) (ints (flCX (dcw n dn))), .grp 3 1 lg, .own (.slice (some ⟨gf, 0, none⟩) N cf) 3 1 N (ints (farL N (lq n i0)))] (.blk b1 28 [vr]) [])).trans (Weak.front [.blk b1 28 [vr], .blk b3 38 [.int .i64 (((n : Nat) : Int)), vg], .blk b2 38 [.int .i64 0, .slice none 0 0], .own vg 71 3 ((dn).length) (ints (flCX (dcw n dn))), .grp 3 1 lg] (.own (.slice (some ⟨gf, 0, none⟩) N cf) 3 1 N (ints (farL N (lq n i0)))) [])).trans (Weak.front [.own (.slice (some ⟨gf, 0, none⟩) N cf) 3 1 N (ints (farL N (lq n i0))), .blk b1 28 [vr], .blk b3 38 [.int .i64 (((n : Nat) : Int)), vg], .blk b2 38 [.int .i64 0, .slice none 0 0], .own vg 71 3 ((dn).length) (ints (flCX (dcw n dn)))] (.grp 3 1 lg) [])).trans (Weak.front [.grp 3 1 lg, .own (.slice (some ⟨gf, 0, none⟩) N cf) 3 1 N (ints (farL N (lq n i0))), .blk b1 28 [vr], .blk b3 38 [.int .i64 (((n : Nat) : Int)), vg], .blk b2 38 [.int .i64 0, .slice none 0 0]] (.own vg 71 3 ((dn).length) (ints (flCX (dcw n dn)))) [])).trans (Some'.weak (.takeEq (by first | rfl | simp) (.takeEq (by first | rfl | simp) (.take (.takeEq (by first | rfl | simp) (.takeEq (by first | rfl | simp) (.take (.nil _)))))))))
        · rintro ⟨k, fd, dn2, lf2, mj2, vr2, vg2, lg2⟩ fr hinv
          show Run _ _ (over _ _ [(7, .bool fd), (8, .int .i64 (((k : Nat) : Int)))] fr) [.own vg2 71 3 ((dn2).length) (ints (flCX (dcw n dn2))), .grp 3 1 lg2, .own (.slice (some ⟨gf, 0, none⟩) N cf) 3 1 N (ints (farL N (lq n i0))), .blk b1 28 [vr2], .blk b3 38 [.int .i64 (((n : Nat) : Int)), vg2], .blk b2 38 [.int .i64 0, .slice none 0 0]]
          try dsimp only at hinv
          refine Run.seq ?_
          refine Run.seq ?_
          refine Run.region ?_
          refine Run.q (v := .int .i64 (((k : Nat) : Int))) rfl (OpQ.y (OpY.pure rfl)) ?_
          refine Run.q (v := .int .i64 (((n : Nat) : Int))) rfl (OpQ.y (OpY.pure rfl)) ?_
          refine Run.q (v := .int .i64 (((n : Nat) : Int))) rfl (OpQ.y (OpY.pure rfl)) ?_
          refine Run.q (v := .int .i64 (((n * n : Nat) : Int))) rfl (OpQ.y (OpY.mul rfl rfl (by push_cast; rfl) (by omega) (by omega))) ?_
          refine Run.q (v := .bool (decide ((((k : Nat) : Int)) < (((n * n : Nat) : Int))))) rfl (OpQ.y (OpY.pure rfl)) ?_
          rcases Bool.eq_false_or_eq_true (decide ((((k : Nat) : Int)) < (((n * n : Nat) : Int)))) with h34 | h34
          · refine Run.q (v := .bool true) rfl (OpQ.y (OpY.moveB rfl h34)) ?_
            have p34 := h34; try simp only [decide_eq_true_eq, decide_eq_false_iff_not, beq_iff_eq, bne_iff_ne, beq_eq_false_iff_ne, ne_eq, gt_iff_lt, ge_iff_le, Int.not_lt, Int.not_le, bne_eq_false_iff_eq, Bool.not_eq_true', Bool.not_eq_false', Bool.and_eq_true, Bool.and_eq_false_iff, Bool.or_eq_true, Bool.or_eq_false_iff, Decidable.not_not, List.cons.injEq, and_true] at p34
            refine Run.q (v := .bool fd) rfl (OpQ.y (OpY.pure rfl)) ?_
            refine Run.q (v := .bool (!fd)) rfl (OpQ.y (OpY.pure rfl)) ?_
            refine Run.q (v := .bool (!fd)) rfl (OpQ.y (OpY.pure rfl)) ?_
            refine Run.done ?_
            refine Run.cond (b := !fd) rfl (fun h37 => ?_) (fun h37 => ?_)
            · have p37 := h37; try simp only [decide_eq_true_eq, decide_eq_false_iff_not, beq_iff_eq, bne_iff_ne, beq_eq_false_iff_ne, ne_eq, gt_iff_lt, ge_iff_le, Int.not_lt, Int.not_le, bne_eq_false_iff_eq, Bool.not_eq_true', Bool.not_eq_false', Bool.and_eq_true, Bool.and_eq_false_iff, Bool.or_eq_true, Bool.or_eq_false_iff, Decidable.not_not, List.cons.injEq, and_true] at p37
              have hfd : fd = false := by simpa using p37
              subst hfd
              obtain ⟨_, hf1, _⟩ := hinv
              obtain ⟨hke0, rfl, rfl, rfl, rfl, rfl, rfl⟩ := hf1 rfl
              have hkn : k < n * n := by omega
              have hg1 : k / n < n := (Nat.div_lt_iff_lt_mul (by omega)).2 hkn
              have hg2 : k % n < n := Nat.mod_lt _ (by omega)
              have hx16 : ∀ j, nx (aft mj (k / n) (k % n)) j < 16 := fun j => Nat.lt_of_lt_of_le (aft_lt hg1 hjb j) (pow16 h4)
              have hxf : fK n (aft mj (k / n) (k % n), 0) := ⟨by simp [hjl], hx16, rfl⟩
              have hxc : cdK (aft mj (k / n) (k % n), 0) < N := hcN hxf
              have hnear := near_hit hN h4 hlj hjm
              have hlt1 : ((e :: lt).length : Int) = (lt.length : Int) + 1 := by simp
              have hfj2 : ix (farL N (lq n i0)) (cdK (mj, 0)) = ((lt.length : Nat) : Int) + 1 + 1 := by rw [hfj, hlt1]
              have hgl : (dn ++ [k]).length = dn.length + 1 := by simp
              have hgx : ints (flCX (dcw n dn)) ++ [.int .i64 9, .int .i64 ((k / n : Nat) : Int), .int .i64 ((k % n : Nat) : Int)] = ints (flCX (dcw n (dn ++ [k]))) := by rw [ints_flCX]; simp only [dcw, List.map_append, List.map_cons, List.map_nil]
              refine Run.skip ?_
              refine Run.seq ?_
              refine Run.block ?_
              refine Run.seq ?_
              refine Run.draws (by kernel_rfl) (by kernel_rfl) ?_
              refine Lex.q (v := .int .i64 (((k : Nat) : Int))) rfl (OpQ.y (OpY.pure rfl)) ?_
              refine Lex.q (v := .int .i64 (((n : Nat) : Int))) rfl (OpQ.y (OpY.pure rfl)) ?_
              refine Lex.q (v := .int .i64 (((k / n : Nat) : Int))) rfl (OpQ.y (OpY.quoNat rfl rfl (by omega) (by omega))) ?_
              refine Lex.q (v := .int .i64 (((k : Nat) : Int))) rfl (OpQ.y (OpY.pure rfl)) ?_
              refine Lex.q (v := .int .i64 (((n : Nat) : Int))) rfl (OpQ.y (OpY.pure rfl)) ?_
              refine Lex.q (v := .int .i64 (((k % n : Nat) : Int))) rfl (OpQ.y (OpY.remNat rfl rfl (by omega))) ?_
              refine Lex.q (v := .int .i64 (((k / n : Nat) : Int))) rfl (OpQ.y (OpY.pure rfl)) ?_
              refine Lex.q (v := .int .i64 (((k % n : Nat) : Int))) rfl (OpQ.y (OpY.pure rfl)) ?_
              refine Lex.done ?_
              refine Run.seq ?_
              refine Run.region ?_
              refine Run.q (v := .agg #[vr]) rfl (OpQ.y (OpY.loadN (cs := [vr]) Tagg_28 rfl (Cells.blk (.tail _ (.tail _ (.tail _ (List.Mem.head _)))) ⟨rfl, trivial⟩))) ?_
              refine Run.q (v := .int .i64 (((k / n : Nat) : Int))) rfl (OpQ.y (OpY.pure rfl)) ?_
              refine Run.q (v := .int .i64 (((k % n : Nat) : Int))) rfl (OpQ.y (OpY.pure rfl)) ?_
              refine Run.step rfl (OpStep.call (vs := [.agg #[vr], .int .i64 (((k / n : Nat) : Int)), .int .i64 (((k % n : Nat) : Int))]) (caps := []) Tcall_51 rfl rfl (fun w hs => (by have h := l12After_spec (va := vr) (l := mj) (a := k / n) (b := k % n) (by omega) (by omega) (by omega) (fun j => by have h := hj16 j; omega) (by rw [hjl]; exact (hcur.elim (fun h => by rw [h.1, h.2, hnl]; exact hs.sl ha) (fun hg => hs.slGrpR (p := (vr, n, ints (nl mj))) (.tail _ (List.Mem.head _)) hg))); rw [hjl] at h; exact h)) ?_)
              rintro _ _ ⟨ux, rfl, rfl⟩
              show Run _ _ (putF _ _ _ (.agg #[ux])) [.own ux 3 1 n (ints (nl (aft mj (k / n) (k % n)))), .own vg 71 3 ((dn).length) (ints (flCX (dcw n dn))), .grp 3 1 lg, .own (.slice (some ⟨gf, 0, none⟩) N cf) 3 1 N (ints (farL N (lq n i0))), .blk b1 28 [vr], .blk b3 38 [.int .i64 (((n : Nat) : Int)), vg], .blk b2 38 [.int .i64 0, .slice none 0 0]]
              refine Run.step rfl (OpStep.alloc (zs := [.slice none 0 0]) Tzero_28 fun b4 => ?_)
              refine Run.formOwn (.tail _ (List.Mem.head _)) (fun A_ux1 c_ux1 hv hcapc_ux1 hmaxc_ux1 => ?_) (fun _ _ _ => ⟨nofun, nofun, nofun⟩)
              subst hv
              refine Run.step rfl (OpStep.storeAll (us := [.slice A_ux1 n c_ux1]) Tsize_28 rfl rfl rfl (.here _) rfl ?_)
              refine Run.done ?_
              refine Run.seq ?_
              refine Run.draws (by kernel_rfl) (by kernel_rfl) ?_
              refine Lex.q (v := .int .i64 (((k / n : Nat) : Int))) rfl (OpQ.y (OpY.pure rfl)) ?_
              refine Lex.q (v := .int .i64 (((k % n : Nat) : Int))) rfl (OpQ.y (OpY.pure rfl)) ?_
              refine Lex.q (v := .bool ((((k / n : Nat) : Int)) != (((k % n : Nat) : Int)))) rfl (OpQ.y (OpY.pure rfl)) ?_
              rcases Bool.eq_false_or_eq_true ((((k / n : Nat) : Int)) != (((k % n : Nat) : Int))) with h53 | h53
              · refine Lex.q (v := .bool true) rfl (OpQ.y (OpY.moveB rfl h53)) ?_
                have p53 := h53; try simp only [decide_eq_true_eq, decide_eq_false_iff_not, beq_iff_eq, bne_iff_ne, beq_eq_false_iff_ne, ne_eq, gt_iff_lt, ge_iff_le, Int.not_lt, Int.not_le, bne_eq_false_iff_eq, Bool.not_eq_true', Bool.not_eq_false', Bool.and_eq_true, Bool.and_eq_false_iff, Bool.or_eq_true, Bool.or_eq_false_iff, Decidable.not_not, List.cons.injEq, and_true] at p53
                refine Lex.q (v := .slice (some ⟨gf, 0, none⟩) N cf) rfl (OpQ.y (OpY.pure rfl)) ?_
                refine Lex.q (v := .agg #[.slice A_ux1 n c_ux1]) rfl (OpQ.y (OpY.loadN (cs := [.slice A_ux1 n c_ux1]) Tagg_28 rfl (Cells.blk (.head _) ⟨rfl, trivial⟩))) ?_
                refine Lex.q (v := .int .i64 (((cdK (aft mj (k / n) (k % n), 0) : Nat) : Int))) rfl (OpQ.call (vs := [.agg #[.slice A_ux1 n c_ux1]]) (caps := []) Tcall_48 rfl rfl (fun w hs => (by have h := l12Code_spec (l := aft mj (k / n) (k % n)) (by rw [aft_length, hjl]; omega) hx16 (by rw [aft_length, hjl]; exact hs.slOwn (.tail _ (List.Mem.head _))); rw [code_of rfl] at h; exact h))) ?_
                refine Lex.q (v := .pointer (some ⟨gf, cdK (aft mj (k / n) (k % n), 0), none⟩)) rfl (OpQ.y (OpY.index (kk := cdK (aft mj (k / n) (k % n), 0)) Tsl_22 rfl rfl (by omega) (by omega) (by first | rfl | omega))) ?_
                refine Lex.q (v := .int .i64 (ix (farL N (lq n i0)) (cdK (aft mj (k / n) (k % n), 0)))) rfl (OpQ.y (OpY.load1 Tone_3 rfl (Cells.own0 (.tail _ (.tail _ (.tail _ (.tail _ (List.Mem.head _))))) (pre1 (by first | omega | (rw [farL_length]; omega)))))) ?_
                refine Lex.q (v := .bool (decide ((ix (farL N (lq n i0)) (cdK (aft mj (k / n) (k % n), 0))) > 0))) rfl (OpQ.y (OpY.pure rfl)) ?_
                refine Lex.q (v := .bool (decide ((ix (farL N (lq n i0)) (cdK (aft mj (k / n) (k % n), 0))) > 0))) rfl (OpQ.y (OpY.pure rfl)) ?_
                rcases Bool.eq_false_or_eq_true (decide ((ix (farL N (lq n i0)) (cdK (aft mj (k / n) (k % n), 0))) > 0)) with h61 | h61
                · refine Lex.q (v := .bool true) rfl (OpQ.y (OpY.moveB rfl h61)) ?_
                  have p61 := h61; try simp only [decide_eq_true_eq, decide_eq_false_iff_not, beq_iff_eq, bne_iff_ne, beq_eq_false_iff_ne, ne_eq, gt_iff_lt, ge_iff_le, Int.not_lt, Int.not_le, bne_eq_false_iff_eq, Bool.not_eq_true', Bool.not_eq_false', Bool.and_eq_true, Bool.and_eq_false_iff, Bool.or_eq_true, Bool.or_eq_false_iff, Decidable.not_not, List.cons.injEq, and_true] at p61
                  refine Lex.q (v := .slice (some ⟨gf, 0, none⟩) N cf) rfl (OpQ.y (OpY.pure rfl)) ?_
                  refine Lex.q (v := .agg #[.slice A_ux1 n c_ux1]) rfl (OpQ.y (OpY.loadN (cs := [.slice A_ux1 n c_ux1]) Tagg_28 rfl (Cells.blk (.head _) ⟨rfl, trivial⟩))) ?_
                  refine Lex.q (v := .int .i64 (((cdK (aft mj (k / n) (k % n), 0) : Nat) : Int))) rfl (OpQ.call (vs := [.agg #[.slice A_ux1 n c_ux1]]) (caps := []) Tcall_48 rfl rfl (fun w hs => (by have h := l12Code_spec (l := aft mj (k / n) (k % n)) (by rw [aft_length, hjl]; omega) hx16 (by rw [aft_length, hjl]; exact hs.slOwn (.tail _ (List.Mem.head _))); rw [code_of rfl] at h; exact h))) ?_
                  refine Lex.q (v := .pointer (some ⟨gf, cdK (aft mj (k / n) (k % n), 0), none⟩)) rfl (OpQ.y (OpY.index (kk := cdK (aft mj (k / n) (k % n), 0)) Tsl_22 rfl rfl (by omega) (by omega) (by first | rfl | omega))) ?_
                  refine Lex.q (v := .int .i64 (ix (farL N (lq n i0)) (cdK (aft mj (k / n) (k % n), 0)))) rfl (OpQ.y (OpY.load1 Tone_3 rfl (Cells.own0 (.tail _ (.tail _ (.tail _ (.tail _ (List.Mem.head _))))) (pre1 (by first | omega | (rw [farL_length]; omega)))))) ?_
                  refine Lex.q (v := .slice (some ⟨gf, 0, none⟩) N cf) rfl (OpQ.y (OpY.pure rfl)) ?_
                  refine Lex.q (v := .agg #[vr]) rfl (OpQ.y (OpY.loadN (cs := [vr]) Tagg_28 rfl (Cells.blk (.tail _ (.tail _ (.tail _ (.tail _ (.tail _ (List.Mem.head _)))))) ⟨rfl, trivial⟩))) ?_
                  refine Lex.q (v := .int .i64 (((cdK (mj, 0) : Nat) : Int))) rfl (OpQ.call (vs := [.agg #[vr]]) (caps := []) Tcall_48 rfl rfl (fun w hs => (by have h := l12Code_spec (va := vr) (l := mj) (by omega) hj16 (by rw [hjl]; exact (hcur.elim (fun h => by rw [h.1, h.2, hnl]; exact hs.sl ha) (fun hg => hs.slGrpR (p := (vr, n, ints (nl mj))) (.tail _ (.tail _ (.tail _ (List.Mem.head _)))) hg))); rw [code_of rfl] at h; exact h))) ?_
                  refine Lex.q (v := .pointer (some ⟨gf, cdK (mj, 0), none⟩)) rfl (OpQ.y (OpY.index (kk := cdK (mj, 0)) Tsl_22 rfl rfl (by omega) (by omega) (by first | rfl | omega))) ?_
                  refine Lex.q (v := .int .i64 (((lt.length : Nat) : Int) + 1 + 1)) rfl (OpQ.y (OpY.load1 Tone_3 rfl (by rw [← hfj2]; exact Cells.own0 (.tail _ (.tail _ (.tail _ (.tail _ (List.Mem.head _))))) (pre1 (by rw [farL_length]; omega))))) ?_
                  refine Lex.q (v := .bool (decide ((ix (farL N (lq n i0)) (cdK (aft mj (k / n) (k % n), 0))) < (((lt.length : Nat) : Int) + 1 + 1)))) rfl (OpQ.y (OpY.pure rfl)) ?_
                  refine Lex.q (v := .bool (decide ((ix (farL N (lq n i0)) (cdK (aft mj (k / n) (k % n), 0))) < (((lt.length : Nat) : Int) + 1 + 1)))) rfl (OpQ.y (OpY.pure rfl)) ?_
                  refine Lex.done ?_
                  refine Run.cond (b := decide ((ix (farL N (lq n i0)) (cdK (aft mj (k / n) (k % n), 0))) < (((lt.length : Nat) : Int) + 1 + 1))) rfl (fun h73 => ?_) (fun h73 => ?_)
                  · have p73 := h73; try simp only [decide_eq_true_eq, decide_eq_false_iff_not, beq_iff_eq, bne_iff_ne, beq_eq_false_iff_ne, ne_eq, gt_iff_lt, ge_iff_le, Int.not_lt, Int.not_le, bne_eq_false_iff_eq, Bool.not_eq_true', Bool.not_eq_false', Bool.and_eq_true, Bool.and_eq_false_iff, Bool.or_eq_true, Bool.or_eq_false_iff, Decidable.not_not, List.cons.injEq, and_true] at p73
                    have hke : k = e := near_eq hN h4 hlj hjl hjb ⟨hkn, by rw [lok, decide_eq_true_eq]; omega⟩ hke0 (by omega) (by omega)
                    refine Run.seq ?_
                    refine Run.region ?_
                    refine Run.q (v := .pointer (some ⟨b3, 1, none⟩)) rfl (OpQ.y (OpY.fieldAddr Tfo_38_1 rfl rfl)) ?_
                    refine Run.q (v := vg) rfl (OpQ.y (OpY.load1 Tone_36 rfl (Cells.blk (.tail _ (.tail _ (.tail _ (.tail _ (.tail _ (.tail _ (List.Mem.head _))))))) ⟨rfl, trivial⟩))) ?_
                    refine Run.q (v := .int .i64 (((k / n : Nat) : Int))) rfl (OpQ.y (OpY.pure rfl)) ?_
                    refine Run.q (v := .int .i64 (((k % n : Nat) : Int))) rfl (OpQ.y (OpY.pure rfl)) ?_
                    refine Run.q (v := .agg #[.int .i64 9, .int .i64 (((k / n : Nat) : Int)), .int .i64 (((k % n : Nat) : Int))]) rfl (OpQ.y (OpY.build (cs := [.int .i64 9, .int .i64 (((k / n : Nat) : Int)), .int .i64 (((k % n : Nat) : Int))]) (by kernel_rfl))) ?_
                    refine Run.step rfl (OpStep.buildSlice (us := [.int .i64 9, .int .i64 (((k / n : Nat) : Int)), .int .i64 (((k % n : Nat) : Int))]) Tsl_36 (by decide) (by decide) ⟨rfl, [.int .i64 9, .int .i64 (((k / n : Nat) : Int)), .int .i64 (((k % n : Nat) : Int))], _, rfl, rfl, rfl, rfl⟩ rfl fun b5 => ?_)
                    refine Run.step rfl (OpStep.append (H1 := [.own (.slice (some ⟨b5, 0, none⟩) 1 1) 71 3 1 ([.int .i64 9, .int .i64 (((k / n : Nat) : Int)), .int .i64 (((k % n : Nat) : Int))]), .blk b4 28 [.slice A_ux1 n c_ux1], .own (.slice A_ux1 n c_ux1) 3 1 n (ints (nl (aft mj (k / n) (k % n))))]) (H2 := [.grp 3 1 lg, .own (.slice (some ⟨gf, 0, none⟩) N cf) 3 1 N (ints (farL N (lq n i0))), .blk b1 28 [vr], .blk b3 38 [.int .i64 (((n : Nat) : Int)), vg], .blk b2 38 [.int .i64 0, .slice none 0 0]]) (v := vg) (u := .slice (some ⟨b5, 0, none⟩) 1 1) (n := (dn).length) (m := 1) (xs := ints (flCX (dcw n dn))) (ys := [.int .i64 9, .int .i64 (((k / n : Nat) : Int)), .int .i64 (((k % n : Nat) : Int))]) Tsl_36 (by decide) rfl rfl rfl rfl (fun w hs => hs.slOwn (.head _)) (by simp [Value.oneCell']) (by omega) (by simp only [maxLen]; omega) fun av1 hnav1 => ?_)
                    refine Run.weak (H' := [.own (.slice (some ⟨b5, 0, none⟩) 1 1) 71 3 1 ([.int .i64 9, .int .i64 (((k / n : Nat) : Int)), .int .i64 (((k % n : Nat) : Int))]), .blk b4 28 [.slice A_ux1 n c_ux1], .own (.slice A_ux1 n c_ux1) 3 1 n (ints (nl (aft mj (k / n) (k % n)))), .own av1 71 3 ((dn ++ [k]).length) (ints (flCX (dcw n (dn ++ [k])))), .grp 3 1 lg, .own (.slice (some ⟨gf, 0, none⟩) N cf) 3 1 N (ints (farL N (lq n i0))), .blk b1 28 [vr], .blk b3 38 [.int .i64 (((n : Nat) : Int)), vg], .blk b2 38 [.int .i64 0, .slice none 0 0]]) (Some'.weak (.take (.take (.take (.takeEq (by rw [hgl, ← hgx]) (.take (.take (.take (.take (.take (.nil _))))))))))) ?_ ⟨_, _, rfl, fun _ => nofun, fun _ => nofun⟩
                    refine Run.q (v := .pointer (some ⟨b3, 1, none⟩)) rfl (OpQ.y (OpY.fieldAddr Tfo_38_1 rfl rfl)) ?_
                    refine Run.formOwn (.tail _ (.tail _ (.tail _ (List.Mem.head _)))) (fun A_av11 c_av11 hv hcapc_av11 hmaxc_av11 => ?_) (fun _ _ _ => ⟨nofun, nofun, nofun⟩)
                    subst hv
                    refine Run.step rfl (OpStep.store (us := [.slice A_av11 ((dn ++ [k]).length) c_av11]) Tsize_36 rfl rfl rfl (.there _ (.there _ (.there _ (.there _ (.there _ (.there _ (.there _ (.here _)))))))) (by simp only [List.length_cons, List.length_nil]; omega) ?_)
                    show Run _ _ _ [.own (.slice (some ⟨b5, 0, none⟩) 1 1) 71 3 1 ([.int .i64 9, .int .i64 (((k / n : Nat) : Int)), .int .i64 (((k % n : Nat) : Int))]), .blk b4 28 [.slice A_ux1 n c_ux1], .own (.slice A_ux1 n c_ux1) 3 1 n (ints (nl (aft mj (k / n) (k % n)))), .own (.slice A_av11 ((dn ++ [k]).length) c_av11) 71 3 ((dn ++ [k]).length) (ints (flCX (dcw n (dn ++ [k])))), .grp 3 1 lg, .own (.slice (some ⟨gf, 0, none⟩) N cf) 3 1 N (ints (farL N (lq n i0))), .blk b1 28 [vr], .blk b3 38 [.int .i64 (((n : Nat) : Int)), .slice A_av11 ((dn ++ [k]).length) c_av11], .blk b2 38 [.int .i64 0, .slice none 0 0]]
                    refine Run.done ?_
                    refine Run.seq ?_
                    refine Run.region ?_
                    refine Run.weak (H' := [.grp 3 1 (lg ++ [((.slice A_ux1 n c_ux1 : Value), n, ints (nl (aft mj (k / n) (k % n))))]), .own (.slice (some ⟨b5, 0, none⟩) 1 1) 71 3 1 ([.int .i64 9, .int .i64 (((k / n : Nat) : Int)), .int .i64 (((k % n : Nat) : Int))]), .blk b4 28 [.slice A_ux1 n c_ux1], .own (.slice A_av11 ((dn ++ [k]).length) c_av11) 71 3 ((dn ++ [k]).length) (ints (flCX (dcw n (dn ++ [k])))), .own (.slice (some ⟨gf, 0, none⟩) N cf) 3 1 N (ints (farL N (lq n i0))), .blk b1 28 [vr], .blk b3 38 [.int .i64 (((n : Nat) : Int)), .slice A_av11 ((dn ++ [k]).length) c_av11], .blk b2 38 [.int .i64 0, .slice none 0 0]]) (((Weak.front [.own (.slice (some ⟨b5, 0, none⟩) 1 1) 71 3 1 ([.int .i64 9, .int .i64 (((k / n : Nat) : Int)), .int .i64 (((k % n : Nat) : Int))]), .blk b4 28 [.slice A_ux1 n c_ux1], .own (.slice A_ux1 n c_ux1) 3 1 n (ints (nl (aft mj (k / n) (k % n)))), .own (.slice A_av11 ((dn ++ [k]).length) c_av11) 71 3 ((dn ++ [k]).length) (ints (flCX (dcw n (dn ++ [k]))))] (.grp 3 1 lg) [.own (.slice (some ⟨gf, 0, none⟩) N cf) 3 1 N (ints (farL N (lq n i0))), .blk b1 28 [vr], .blk b3 38 [.int .i64 (((n : Nat) : Int)), .slice A_av11 ((dn ++ [k]).length) c_av11], .blk b2 38 [.int .i64 0, .slice none 0 0]]).trans (Weak.front [.grp 3 1 lg, .own (.slice (some ⟨b5, 0, none⟩) 1 1) 71 3 1 ([.int .i64 9, .int .i64 (((k / n : Nat) : Int)), .int .i64 (((k % n : Nat) : Int))]), .blk b4 28 [.slice A_ux1 n c_ux1]] (.own (.slice A_ux1 n c_ux1) 3 1 n (ints (nl (aft mj (k / n) (k % n))))) [.own (.slice A_av11 ((dn ++ [k]).length) c_av11) 71 3 ((dn ++ [k]).length) (ints (flCX (dcw n (dn ++ [k])))), .own (.slice (some ⟨gf, 0, none⟩) N cf) 3 1 N (ints (farL N (lq n i0))), .blk b1 28 [vr], .blk b3 38 [.int .i64 (((n : Nat) : Int)), .slice A_av11 ((dn ++ [k]).length) c_av11], .blk b2 38 [.int .i64 0, .slice none 0 0]])).trans Weak.grpSnocR) ?_ ⟨_, _, rfl, fun _ => nofun, fun _ => nofun⟩
                    refine Run.q (v := .agg #[.slice A_ux1 n c_ux1]) rfl (OpQ.y (OpY.loadN (cs := [.slice A_ux1 n c_ux1]) Tagg_28 rfl (Cells.blk (.tail _ (.tail _ (List.Mem.head _))) ⟨rfl, trivial⟩))) ?_
                    refine Run.step rfl (OpStep.storeAll (us := [.slice A_ux1 n c_ux1]) Tsize_28 rfl rfl rfl (.there _ (.there _ (.there _ (.there _ (.there _ (.here _)))))) rfl ?_)
                    refine Run.done ?_
                    refine Run.region ?_
                    refine Run.q (v := .bool true) rfl (OpQ.y (OpY.pure rfl)) ?_
                    refine Run.done ?_
                    refine Run.blockEnd ?_
                    refine Run.region ?_
                    refine Run.q (v := .int .i64 (((k : Nat) : Int))) rfl (OpQ.y (OpY.pure rfl)) ?_
                    refine Run.q (v := .int .i64 ((((k : Nat) : Int)) + 1)) rfl (OpQ.y (OpY.add rfl rfl rfl (by omega) (by omega))) ?_
                    refine Run.q (v := .int .i64 ((((k : Nat) : Int)) + 1)) rfl (OpQ.y (OpY.pure rfl)) ?_
                    refine Run.done ?_
                    refine Run.goal ⟨(by repeat (first | exact Same.refl _ _ | refine Same.put rfl ?_ | refine Same.over rfl rfl ?_)), (k + 1, true, dn ++ [k], lt, aft mj (k / n) (k % n), .slice A_ux1 n c_ux1, .slice A_av11 ((dn ++ [k]).length) c_av11, lg ++ [((.slice A_ux1 n c_ux1 : Value), n, ints (nl (aft mj (k / n) (k % n))))]), ?_, ?_, ?_, ?_⟩
                    · first | exact ⟨hkn, fun _ => ⟨hke2, rfl, rfl, rfl, rfl, rfl, rfl⟩, fun h => nomatch h⟩ | exact ⟨hkn, fun h => (nomatch h), fun _ => ⟨rfl, by rw [hpd, hke]; simp, by rw [hke]; exact hlj.tail, by rw [hke]; exact hnear.1, by rw [hke]; exact aft_lt (edge_of hee).1 hjb, .inr (by simp)⟩⟩
                    · show n * n - (k + 1) < n * n - k; omega
                    · exact ⟨(by first | rfl | (congr 1; omega) | simp), (by first | rfl | (congr 1; omega) | simp), trivial⟩
                    · exact (((((((Weak.front [.grp 3 1 (lg ++ [((.slice A_ux1 n c_ux1 : Value), n, ints (nl (aft mj (k / n) (k % n))))]), .own (.slice (some ⟨b5, 0, none⟩) 1 1) 71 3 1 ([.int .i64 9, .int .i64 (((k / n : Nat) : Int)), .int .i64 (((k % n : Nat) : Int))]), .blk b4 28 [.slice A_ux1 n c_ux1], .own (.slice A_av11 ((dn ++ [k]).length) c_av11) 71 3 ((dn ++ [k]).length) (ints (flCX (dcw n (dn ++ [k])))), .own (.slice (some ⟨gf, 0, none⟩) N cf) 3 1 N (ints (farL N (lq n i0))), .blk b1 28 [.slice A_ux1 n c_ux1], .blk b3 38 [.int .i64 (((n : Nat) : Int)), .slice A_av11 ((dn ++ [k]).length) c_av11]] (.blk b2 38 [.int .i64 0, .slice none 0 0]) []).trans (Weak.front [.blk b2 38 [.int .i64 0, .slice none 0 0], .grp 3 1 (lg ++ [((.slice A_ux1 n c_ux1 : Value), n, ints (nl (aft mj (k / n) (k % n))))]), .own (.slice (some ⟨b5, 0, none⟩) 1 1) 71 3 1 ([.int .i64 9, .int .i64 (((k / n : Nat) : Int)), .int .i64 (((k % n : Nat) : Int))]), .blk b4 28 [.slice A_ux1 n c_ux1], .own (.slice A_av11 ((dn ++ [k]).length) c_av11) 71 3 ((dn ++ [k]).length) (ints (flCX (dcw n (dn ++ [k])))), .own (.slice (some ⟨gf, 0, none⟩) N cf) 3 1 N (ints (farL N (lq n i0))), .blk b1 28 [.slice A_ux1 n c_ux1]] (.blk b3 38 [.int .i64 (((n : Nat) : Int)), .slice A_av11 ((dn ++ [k]).length) c_av11]) [])).trans (Weak.front [.blk b3 38 [.int .i64 (((n : Nat) : Int)), .slice A_av11 ((dn ++ [k]).length) c_av11], .blk b2 38 [.int .i64 0, .slice none 0 0], .grp 3 1 (lg ++ [((.slice A_ux1 n c_ux1 : Value), n, ints (nl (aft mj (k / n) (k % n))))]), .own (.slice (some ⟨b5, 0, none⟩) 1 1) 71 3 1 ([.int .i64 9, .int .i64 (((k / n : Nat) : Int)), .int .i64 (((k % n : Nat) : Int))]), .blk b4 28 [.slice A_ux1 n c_ux1], .own (.slice A_av11 ((dn ++ [k]).length) c_av11) 71 3 ((dn ++ [k]).length) (ints (flCX (dcw n (dn ++ [k])))), .own (.slice (some ⟨gf, 0, none⟩) N cf) 3 1 N (ints (farL N (lq n i0)))] (.blk b1 28 [.slice A_ux1 n c_ux1]) [])).trans (Weak.front [.blk b1 28 [.slice A_ux1 n c_ux1], .blk b3 38 [.int .i64 (((n : Nat) : Int)), .slice A_av11 ((dn ++ [k]).length) c_av11], .blk b2 38 [.int .i64 0, .slice none 0 0], .grp 3 1 (lg ++ [((.slice A_ux1 n c_ux1 : Value), n, ints (nl (aft mj (k / n) (k % n))))]), .own (.slice (some ⟨b5, 0, none⟩) 1 1) 71 3 1 ([.int .i64 9, .int .i64 (((k / n : Nat) : Int)), .int .i64 (((k % n : Nat) : Int))]), .blk b4 28 [.slice A_ux1 n c_ux1], .own (.slice A_av11 ((dn ++ [k]).length) c_av11) 71 3 ((dn ++ [k]).length) (ints (flCX (dcw n (dn ++ [k]))))] (.own (.slice (some ⟨gf, 0, none⟩) N cf) 3 1 N (ints (farL N (lq n i0)))) [])).trans (Weak.front [.own (.slice (some ⟨gf, 0, none⟩) N cf) 3 1 N (ints (farL N (lq n i0))), .blk b1 28 [.slice A_ux1 n c_ux1], .blk b3 38 [.int .i64 (((n : Nat) : Int)), .slice A_av11 ((dn ++ [k]).length) c_av11], .blk b2 38 [.int .i64 0, .slice none 0 0]] (.grp 3 1 (lg ++ [((.slice A_ux1 n c_ux1 : Value), n, ints (nl (aft mj (k / n) (k % n))))])) [.own (.slice (some ⟨b5, 0, none⟩) 1 1) 71 3 1 ([.int .i64 9, .int .i64 (((k / n : Nat) : Int)), .int .i64 (((k % n : Nat) : Int))]), .blk b4 28 [.slice A_ux1 n c_ux1], .own (.slice A_av11 ((dn ++ [k]).length) c_av11) 71 3 ((dn ++ [k]).length) (ints (flCX (dcw n (dn ++ [k]))))])).trans (Weak.front [.grp 3 1 (lg ++ [((.slice A_ux1 n c_ux1 : Value), n, ints (nl (aft mj (k / n) (k % n))))]), .own (.slice (some ⟨gf, 0, none⟩) N cf) 3 1 N (ints (farL N (lq n i0))), .blk b1 28 [.slice A_ux1 n c_ux1], .blk b3 38 [.int .i64 (((n : Nat) : Int)), .slice A_av11 ((dn ++ [k]).length) c_av11], .blk b2 38 [.int .i64 0, .slice none 0 0], .own (.slice (some ⟨b5, 0, none⟩) 1 1) 71 3 1 ([.int .i64 9, .int .i64 (((k / n : Nat) : Int)), .int .i64 (((k % n : Nat) : Int))]), .blk b4 28 [.slice A_ux1 n c_ux1]] (.own (.slice A_av11 ((dn ++ [k]).length) c_av11) 71 3 ((dn ++ [k]).length) (ints (flCX (dcw n (dn ++ [k]))))) [])).trans (Some'.weak (.takeEq (by first | rfl | simp) (.takeEq (by first | rfl | simp) (.takeEq (by first | rfl | simp) (.takeEq (by first | rfl | simp) (.takeEq (by first | rfl | simp) (.take (.nil _)))))))))
                  · have p73 := h73; try simp only [decide_eq_true_eq, decide_eq_false_iff_not, beq_iff_eq, bne_iff_ne, beq_eq_false_iff_ne, ne_eq, gt_iff_lt, ge_iff_le, Int.not_lt, Int.not_le, bne_eq_false_iff_eq, Bool.not_eq_true', Bool.not_eq_false', Bool.and_eq_true, Bool.and_eq_false_iff, Bool.or_eq_true, Bool.or_eq_false_iff, Decidable.not_not, List.cons.injEq, and_true] at p73
                    have hke2 : k + 1 ≤ e := by
                      rcases Nat.lt_or_eq_of_le hke0 with h | h
                      · exact h
                      · exfalso
                        have hd := hnear.2
                        rw [← h] at hd
                        rw [hd] at p73
                        omega
                    refine Run.skip ?_
                    refine Run.blockEnd ?_
                    refine Run.region ?_
                    refine Run.q (v := .int .i64 (((k : Nat) : Int))) rfl (OpQ.y (OpY.pure rfl)) ?_
                    refine Run.q (v := .int .i64 ((((k : Nat) : Int)) + 1)) rfl (OpQ.y (OpY.add rfl rfl rfl (by omega) (by omega))) ?_
                    refine Run.q (v := .int .i64 ((((k : Nat) : Int)) + 1)) rfl (OpQ.y (OpY.pure rfl)) ?_
                    refine Run.done ?_
                    refine Run.goal ⟨(by repeat (first | exact Same.refl _ _ | refine Same.put rfl ?_ | refine Same.over rfl rfl ?_)), (k + 1, false, dn, e :: lt, mj, vr, vg, lg), ?_, ?_, ?_, ?_⟩
                    · first | exact ⟨hkn, fun _ => ⟨hke2, rfl, rfl, rfl, rfl, rfl, rfl⟩, fun h => nomatch h⟩ | exact ⟨hkn, fun h => (nomatch h), fun _ => ⟨rfl, by rw [hpd, hke]; simp, by rw [hke]; exact hlj.tail, by rw [hke]; exact hnear.1, by rw [hke]; exact aft_lt (edge_of hee).1 hjb, .inr (by simp)⟩⟩
                    · show n * n - (k + 1) < n * n - k; omega
                    · exact ⟨(by first | rfl | (congr 1; omega) | simp), (by first | rfl | (congr 1; omega) | simp), trivial⟩
                    · exact (((((((Weak.front [.blk b4 28 [.slice A_ux1 n c_ux1], .own (.slice A_ux1 n c_ux1) 3 1 n (ints (nl (aft mj (k / n) (k % n)))), .own vg 71 3 ((dn).length) (ints (flCX (dcw n dn))), .grp 3 1 lg, .own (.slice (some ⟨gf, 0, none⟩) N cf) 3 1 N (ints (farL N (lq n i0))), .blk b1 28 [vr], .blk b3 38 [.int .i64 (((n : Nat) : Int)), vg]] (.blk b2 38 [.int .i64 0, .slice none 0 0]) []).trans (Weak.front [.blk b2 38 [.int .i64 0, .slice none 0 0], .blk b4 28 [.slice A_ux1 n c_ux1], .own (.slice A_ux1 n c_ux1) 3 1 n (ints (nl (aft mj (k / n) (k % n)))), .own vg 71 3 ((dn).length) (ints (flCX (dcw n dn))), .grp 3 1 lg, .own (.slice (some ⟨gf, 0, none⟩) N cf) 3 1 N (ints (farL N (lq n i0))), .blk b1 28 [vr]] (.blk b3 38 [.int .i64 (((n : Nat) : Int)), vg]) [])).trans (Weak.front [.blk b3 38 [.int .i64 (((n : Nat) : Int)), vg], .blk b2 38 [.int .i64 0, .slice none 0 0], .blk b4 28 [.slice A_ux1 n c_ux1], .own (.slice A_ux1 n c_ux1) 3 1 n (ints (nl (aft mj (k / n) (k % n)))), .own vg 71 3 ((dn).length) (ints (flCX (dcw n dn))), .grp 3 1 lg, .own (.slice (some ⟨gf, 0, none⟩) N cf) 3 1 N (ints (farL N (lq n i0)))] (.blk b1 28 [vr]) [])).trans (Weak.front [.blk b1 28 [vr], .blk b3 38 [.int .i64 (((n : Nat) : Int)), vg], .blk b2 38 [.int .i64 0, .slice none 0 0], .blk b4 28 [.slice A_ux1 n c_ux1], .own (.slice A_ux1 n c_ux1) 3 1 n (ints (nl (aft mj (k / n) (k % n)))), .own vg 71 3 ((dn).length) (ints (flCX (dcw n dn))), .grp 3 1 lg] (.own (.slice (some ⟨gf, 0, none⟩) N cf) 3 1 N (ints (farL N (lq n i0)))) [])).trans (Weak.front [.own (.slice (some ⟨gf, 0, none⟩) N cf) 3 1 N (ints (farL N (lq n i0))), .blk b1 28 [vr], .blk b3 38 [.int .i64 (((n : Nat) : Int)), vg], .blk b2 38 [.int .i64 0, .slice none 0 0], .blk b4 28 [.slice A_ux1 n c_ux1], .own (.slice A_ux1 n c_ux1) 3 1 n (ints (nl (aft mj (k / n) (k % n)))), .own vg 71 3 ((dn).length) (ints (flCX (dcw n dn)))] (.grp 3 1 lg) [])).trans (Weak.front [.grp 3 1 lg, .own (.slice (some ⟨gf, 0, none⟩) N cf) 3 1 N (ints (farL N (lq n i0))), .blk b1 28 [vr], .blk b3 38 [.int .i64 (((n : Nat) : Int)), vg], .blk b2 38 [.int .i64 0, .slice none 0 0], .blk b4 28 [.slice A_ux1 n c_ux1], .own (.slice A_ux1 n c_ux1) 3 1 n (ints (nl (aft mj (k / n) (k % n))))] (.own vg 71 3 ((dn).length) (ints (flCX (dcw n dn)))) [])).trans (Some'.weak (.takeEq (by first | rfl | simp) (.takeEq (by first | rfl | simp) (.takeEq (by first | rfl | simp) (.takeEq (by first | rfl | simp) (.takeEq (by first | rfl | simp) (.take (.nil _)))))))))
                · refine Lex.q (v := .bool false) rfl (OpQ.y (OpY.moveB rfl h61)) ?_
                  have p61 := h61; try simp only [decide_eq_true_eq, decide_eq_false_iff_not, beq_iff_eq, bne_iff_ne, beq_eq_false_iff_ne, ne_eq, gt_iff_lt, ge_iff_le, Int.not_lt, Int.not_le, bne_eq_false_iff_eq, Bool.not_eq_true', Bool.not_eq_false', Bool.and_eq_true, Bool.and_eq_false_iff, Bool.or_eq_true, Bool.or_eq_false_iff, Decidable.not_not, List.cons.injEq, and_true] at p61
                  have hke2 : k + 1 ≤ e := by
                    rcases Nat.lt_or_eq_of_le hke0 with h | h
                    · exact h
                    · exfalso
                      have hd := hnear.2
                      rw [← h] at hd
                      rw [hd] at p61
                      omega
                  refine Lex.pass rfl ?_
                  refine Lex.pass rfl ?_
                  refine Lex.pass rfl ?_
                  refine Lex.pass rfl ?_
                  refine Lex.pass rfl ?_
                  refine Lex.pass rfl ?_
                  refine Lex.pass rfl ?_
                  refine Lex.pass rfl ?_
                  refine Lex.pass rfl ?_
                  refine Lex.pass rfl ?_
                  refine Lex.pass rfl ?_
                  refine Lex.q (v := .bool false) rfl (OpQ.y (OpY.pure rfl)) ?_
                  refine Lex.done ?_
                  refine Run.cond (b := false) rfl (fun h => nomatch h) (fun _ => ?_)
                  refine Run.skip ?_
                  refine Run.blockEnd ?_
                  refine Run.region ?_
                  refine Run.q (v := .int .i64 (((k : Nat) : Int))) rfl (OpQ.y (OpY.pure rfl)) ?_
                  refine Run.q (v := .int .i64 ((((k : Nat) : Int)) + 1)) rfl (OpQ.y (OpY.add rfl rfl rfl (by omega) (by omega))) ?_
                  refine Run.q (v := .int .i64 ((((k : Nat) : Int)) + 1)) rfl (OpQ.y (OpY.pure rfl)) ?_
                  refine Run.done ?_
                  refine Run.goal ⟨(by repeat (first | exact Same.refl _ _ | refine Same.put rfl ?_ | refine Same.over rfl rfl ?_)), (k + 1, false, dn, e :: lt, mj, vr, vg, lg), ?_, ?_, ?_, ?_⟩
                  · first | exact ⟨hkn, fun _ => ⟨hke2, rfl, rfl, rfl, rfl, rfl, rfl⟩, fun h => nomatch h⟩ | exact ⟨hkn, fun h => (nomatch h), fun _ => ⟨rfl, by rw [hpd, hke]; simp, by rw [hke]; exact hlj.tail, by rw [hke]; exact hnear.1, by rw [hke]; exact aft_lt (edge_of hee).1 hjb, .inr (by simp)⟩⟩
                  · show n * n - (k + 1) < n * n - k; omega
                  · exact ⟨(by first | rfl | (congr 1; omega) | simp), (by first | rfl | (congr 1; omega) | simp), trivial⟩
                  · exact (((((((Weak.front [.blk b4 28 [.slice A_ux1 n c_ux1], .own (.slice A_ux1 n c_ux1) 3 1 n (ints (nl (aft mj (k / n) (k % n)))), .own vg 71 3 ((dn).length) (ints (flCX (dcw n dn))), .grp 3 1 lg, .own (.slice (some ⟨gf, 0, none⟩) N cf) 3 1 N (ints (farL N (lq n i0))), .blk b1 28 [vr], .blk b3 38 [.int .i64 (((n : Nat) : Int)), vg]] (.blk b2 38 [.int .i64 0, .slice none 0 0]) []).trans (Weak.front [.blk b2 38 [.int .i64 0, .slice none 0 0], .blk b4 28 [.slice A_ux1 n c_ux1], .own (.slice A_ux1 n c_ux1) 3 1 n (ints (nl (aft mj (k / n) (k % n)))), .own vg 71 3 ((dn).length) (ints (flCX (dcw n dn))), .grp 3 1 lg, .own (.slice (some ⟨gf, 0, none⟩) N cf) 3 1 N (ints (farL N (lq n i0))), .blk b1 28 [vr]] (.blk b3 38 [.int .i64 (((n : Nat) : Int)), vg]) [])).trans (Weak.front [.blk b3 38 [.int .i64 (((n : Nat) : Int)), vg], .blk b2 38 [.int .i64 0, .slice none 0 0], .blk b4 28 [.slice A_ux1 n c_ux1], .own (.slice A_ux1 n c_ux1) 3 1 n (ints (nl (aft mj (k / n) (k % n)))), .own vg 71 3 ((dn).length) (ints (flCX (dcw n dn))), .grp 3 1 lg, .own (.slice (some ⟨gf, 0, none⟩) N cf) 3 1 N (ints (farL N (lq n i0)))] (.blk b1 28 [vr]) [])).trans (Weak.front [.blk b1 28 [vr], .blk b3 38 [.int .i64 (((n : Nat) : Int)), vg], .blk b2 38 [.int .i64 0, .slice none 0 0], .blk b4 28 [.slice A_ux1 n c_ux1], .own (.slice A_ux1 n c_ux1) 3 1 n (ints (nl (aft mj (k / n) (k % n)))), .own vg 71 3 ((dn).length) (ints (flCX (dcw n dn))), .grp 3 1 lg] (.own (.slice (some ⟨gf, 0, none⟩) N cf) 3 1 N (ints (farL N (lq n i0)))) [])).trans (Weak.front [.own (.slice (some ⟨gf, 0, none⟩) N cf) 3 1 N (ints (farL N (lq n i0))), .blk b1 28 [vr], .blk b3 38 [.int .i64 (((n : Nat) : Int)), vg], .blk b2 38 [.int .i64 0, .slice none 0 0], .blk b4 28 [.slice A_ux1 n c_ux1], .own (.slice A_ux1 n c_ux1) 3 1 n (ints (nl (aft mj (k / n) (k % n)))), .own vg 71 3 ((dn).length) (ints (flCX (dcw n dn)))] (.grp 3 1 lg) [])).trans (Weak.front [.grp 3 1 lg, .own (.slice (some ⟨gf, 0, none⟩) N cf) 3 1 N (ints (farL N (lq n i0))), .blk b1 28 [vr], .blk b3 38 [.int .i64 (((n : Nat) : Int)), vg], .blk b2 38 [.int .i64 0, .slice none 0 0], .blk b4 28 [.slice A_ux1 n c_ux1], .own (.slice A_ux1 n c_ux1) 3 1 n (ints (nl (aft mj (k / n) (k % n))))] (.own vg 71 3 ((dn).length) (ints (flCX (dcw n dn)))) [])).trans (Some'.weak (.takeEq (by first | rfl | simp) (.takeEq (by first | rfl | simp) (.takeEq (by first | rfl | simp) (.takeEq (by first | rfl | simp) (.takeEq (by first | rfl | simp) (.take (.nil _)))))))))
              · refine Lex.q (v := .bool false) rfl (OpQ.y (OpY.moveB rfl h53)) ?_
                have p53 := h53; try simp only [decide_eq_true_eq, decide_eq_false_iff_not, beq_iff_eq, bne_iff_ne, beq_eq_false_iff_ne, ne_eq, gt_iff_lt, ge_iff_le, Int.not_lt, Int.not_le, bne_eq_false_iff_eq, Bool.not_eq_true', Bool.not_eq_false', Bool.and_eq_true, Bool.and_eq_false_iff, Bool.or_eq_true, Bool.or_eq_false_iff, Decidable.not_not, List.cons.injEq, and_true] at p53
                have hke2 : k + 1 ≤ e := by
                  rcases Nat.lt_or_eq_of_le hke0 with h | h
                  · exact h
                  · exfalso
                    have hne := (edge_of hee).2.2
                    rw [← h] at hne
                    omega
                refine Lex.pass rfl ?_
                refine Lex.pass rfl ?_
                refine Lex.pass rfl ?_
                refine Lex.pass rfl ?_
                refine Lex.pass rfl ?_
                refine Lex.pass rfl ?_
                refine Lex.q (v := .bool false) rfl (OpQ.y (OpY.pure rfl)) ?_
                refine Lex.q (v := .bool false) rfl (OpQ.y (OpY.pure rfl)) ?_
                refine Lex.pass rfl ?_
                refine Lex.pass rfl ?_
                refine Lex.pass rfl ?_
                refine Lex.pass rfl ?_
                refine Lex.pass rfl ?_
                refine Lex.pass rfl ?_
                refine Lex.pass rfl ?_
                refine Lex.pass rfl ?_
                refine Lex.pass rfl ?_
                refine Lex.pass rfl ?_
                refine Lex.pass rfl ?_
                refine Lex.q (v := .bool false) rfl (OpQ.y (OpY.pure rfl)) ?_
                refine Lex.done ?_
                refine Run.cond (b := false) rfl (fun h => nomatch h) (fun _ => ?_)
                refine Run.skip ?_
                refine Run.blockEnd ?_
                refine Run.region ?_
                refine Run.q (v := .int .i64 (((k : Nat) : Int))) rfl (OpQ.y (OpY.pure rfl)) ?_
                refine Run.q (v := .int .i64 ((((k : Nat) : Int)) + 1)) rfl (OpQ.y (OpY.add rfl rfl rfl (by omega) (by omega))) ?_
                refine Run.q (v := .int .i64 ((((k : Nat) : Int)) + 1)) rfl (OpQ.y (OpY.pure rfl)) ?_
                refine Run.done ?_
                refine Run.goal ⟨(by repeat (first | exact Same.refl _ _ | refine Same.put rfl ?_ | refine Same.over rfl rfl ?_)), (k + 1, false, dn, e :: lt, mj, vr, vg, lg), ?_, ?_, ?_, ?_⟩
                · first | exact ⟨hkn, fun _ => ⟨hke2, rfl, rfl, rfl, rfl, rfl, rfl⟩, fun h => nomatch h⟩ | exact ⟨hkn, fun h => (nomatch h), fun _ => ⟨rfl, by rw [hpd, hke]; simp, by rw [hke]; exact hlj.tail, by rw [hke]; exact hnear.1, by rw [hke]; exact aft_lt (edge_of hee).1 hjb, .inr (by simp)⟩⟩
                · show n * n - (k + 1) < n * n - k; omega
                · exact ⟨(by first | rfl | (congr 1; omega) | simp), (by first | rfl | (congr 1; omega) | simp), trivial⟩
                · exact (((((((Weak.front [.blk b4 28 [.slice A_ux1 n c_ux1], .own (.slice A_ux1 n c_ux1) 3 1 n (ints (nl (aft mj (k / n) (k % n)))), .own vg 71 3 ((dn).length) (ints (flCX (dcw n dn))), .grp 3 1 lg, .own (.slice (some ⟨gf, 0, none⟩) N cf) 3 1 N (ints (farL N (lq n i0))), .blk b1 28 [vr], .blk b3 38 [.int .i64 (((n : Nat) : Int)), vg]] (.blk b2 38 [.int .i64 0, .slice none 0 0]) []).trans (Weak.front [.blk b2 38 [.int .i64 0, .slice none 0 0], .blk b4 28 [.slice A_ux1 n c_ux1], .own (.slice A_ux1 n c_ux1) 3 1 n (ints (nl (aft mj (k / n) (k % n)))), .own vg 71 3 ((dn).length) (ints (flCX (dcw n dn))), .grp 3 1 lg, .own (.slice (some ⟨gf, 0, none⟩) N cf) 3 1 N (ints (farL N (lq n i0))), .blk b1 28 [vr]] (.blk b3 38 [.int .i64 (((n : Nat) : Int)), vg]) [])).trans (Weak.front [.blk b3 38 [.int .i64 (((n : Nat) : Int)), vg], .blk b2 38 [.int .i64 0, .slice none 0 0], .blk b4 28 [.slice A_ux1 n c_ux1], .own (.slice A_ux1 n c_ux1) 3 1 n (ints (nl (aft mj (k / n) (k % n)))), .own vg 71 3 ((dn).length) (ints (flCX (dcw n dn))), .grp 3 1 lg, .own (.slice (some ⟨gf, 0, none⟩) N cf) 3 1 N (ints (farL N (lq n i0)))] (.blk b1 28 [vr]) [])).trans (Weak.front [.blk b1 28 [vr], .blk b3 38 [.int .i64 (((n : Nat) : Int)), vg], .blk b2 38 [.int .i64 0, .slice none 0 0], .blk b4 28 [.slice A_ux1 n c_ux1], .own (.slice A_ux1 n c_ux1) 3 1 n (ints (nl (aft mj (k / n) (k % n)))), .own vg 71 3 ((dn).length) (ints (flCX (dcw n dn))), .grp 3 1 lg] (.own (.slice (some ⟨gf, 0, none⟩) N cf) 3 1 N (ints (farL N (lq n i0)))) [])).trans (Weak.front [.own (.slice (some ⟨gf, 0, none⟩) N cf) 3 1 N (ints (farL N (lq n i0))), .blk b1 28 [vr], .blk b3 38 [.int .i64 (((n : Nat) : Int)), vg], .blk b2 38 [.int .i64 0, .slice none 0 0], .blk b4 28 [.slice A_ux1 n c_ux1], .own (.slice A_ux1 n c_ux1) 3 1 n (ints (nl (aft mj (k / n) (k % n)))), .own vg 71 3 ((dn).length) (ints (flCX (dcw n dn)))] (.grp 3 1 lg) [])).trans (Weak.front [.grp 3 1 lg, .own (.slice (some ⟨gf, 0, none⟩) N cf) 3 1 N (ints (farL N (lq n i0))), .blk b1 28 [vr], .blk b3 38 [.int .i64 (((n : Nat) : Int)), vg], .blk b2 38 [.int .i64 0, .slice none 0 0], .blk b4 28 [.slice A_ux1 n c_ux1], .own (.slice A_ux1 n c_ux1) 3 1 n (ints (nl (aft mj (k / n) (k % n))))] (.own vg 71 3 ((dn).length) (ints (flCX (dcw n dn)))) [])).trans (Some'.weak (.takeEq (by first | rfl | simp) (.takeEq (by first | rfl | simp) (.takeEq (by first | rfl | simp) (.takeEq (by first | rfl | simp) (.takeEq (by first | rfl | simp) (.take (.nil _)))))))))
            · have p37 := h37; try simp only [decide_eq_true_eq, decide_eq_false_iff_not, beq_iff_eq, bne_iff_ne, beq_eq_false_iff_ne, ne_eq, gt_iff_lt, ge_iff_le, Int.not_lt, Int.not_le, bne_eq_false_iff_eq, Bool.not_eq_true', Bool.not_eq_false', Bool.and_eq_true, Bool.and_eq_false_iff, Bool.or_eq_true, Bool.or_eq_false_iff, Decidable.not_not, List.cons.injEq, and_true] at p37
              have hfd : fd = true := by simpa using p37
              subst hfd
              obtain ⟨hkn, _, hf2⟩ := hinv
              obtain ⟨hlf2, hnext⟩ := hf2 rfl
              refine Run.exit rfl ?_
              refine Run.blockEnd ?_
              refine Run.goal ⟨(by repeat (first | exact Same.refl _ _ | refine Same.put rfl ?_ | refine Same.over rfl rfl ?_)), (dn2, lf2, mj2, vr2, vg2, lg2), ?_, ?_, ?_, ?_⟩
              · exact hnext
              · show lf2.length < (e :: lt).length; rw [hlf2]; simp
              · exact trivial
              · exact (((((((Weak.front [.own vg2 71 3 ((dn2).length) (ints (flCX (dcw n dn2))), .grp 3 1 lg2, .own (.slice (some ⟨gf, 0, none⟩) N cf) 3 1 N (ints (farL N (lq n i0))), .blk b1 28 [vr2], .blk b3 38 [.int .i64 (((n : Nat) : Int)), vg2]] (.blk b2 38 [.int .i64 0, .slice none 0 0]) []).trans (Weak.front [.blk b2 38 [.int .i64 0, .slice none 0 0], .own vg2 71 3 ((dn2).length) (ints (flCX (dcw n dn2))), .grp 3 1 lg2, .own (.slice (some ⟨gf, 0, none⟩) N cf) 3 1 N (ints (farL N (lq n i0))), .blk b1 28 [vr2]] (.blk b3 38 [.int .i64 (((n : Nat) : Int)), vg2]) [])).trans (Weak.front [.blk b3 38 [.int .i64 (((n : Nat) : Int)), vg2], .blk b2 38 [.int .i64 0, .slice none 0 0], .own vg2 71 3 ((dn2).length) (ints (flCX (dcw n dn2))), .grp 3 1 lg2, .own (.slice (some ⟨gf, 0, none⟩) N cf) 3 1 N (ints (farL N (lq n i0)))] (.blk b1 28 [vr2]) [])).trans (Weak.front [.blk b1 28 [vr2], .blk b3 38 [.int .i64 (((n : Nat) : Int)), vg2], .blk b2 38 [.int .i64 0, .slice none 0 0], .own vg2 71 3 ((dn2).length) (ints (flCX (dcw n dn2))), .grp 3 1 lg2] (.own (.slice (some ⟨gf, 0, none⟩) N cf) 3 1 N (ints (farL N (lq n i0)))) [])).trans (Weak.front [.own (.slice (some ⟨gf, 0, none⟩) N cf) 3 1 N (ints (farL N (lq n i0))), .blk b1 28 [vr2], .blk b3 38 [.int .i64 (((n : Nat) : Int)), vg2], .blk b2 38 [.int .i64 0, .slice none 0 0], .own vg2 71 3 ((dn2).length) (ints (flCX (dcw n dn2)))] (.grp 3 1 lg2) [])).trans (Weak.front [.grp 3 1 lg2, .own (.slice (some ⟨gf, 0, none⟩) N cf) 3 1 N (ints (farL N (lq n i0))), .blk b1 28 [vr2], .blk b3 38 [.int .i64 (((n : Nat) : Int)), vg2], .blk b2 38 [.int .i64 0, .slice none 0 0]] (.own vg2 71 3 ((dn2).length) (ints (flCX (dcw n dn2)))) [])).trans (Some'.weak (.takeEq (by first | rfl | simp) (.takeEq (by first | rfl | simp) (.takeEq (by first | rfl | simp) (.takeEq (by first | rfl | simp) (.takeEq (by first | rfl | simp) (.take (.nil _)))))))))
          · refine Run.q (v := .bool false) rfl (OpQ.y (OpY.moveB rfl h34)) ?_
            have p34 := h34; try simp only [decide_eq_true_eq, decide_eq_false_iff_not, beq_iff_eq, bne_iff_ne, beq_eq_false_iff_ne, ne_eq, gt_iff_lt, ge_iff_le, Int.not_lt, Int.not_le, bne_eq_false_iff_eq, Bool.not_eq_true', Bool.not_eq_false', Bool.and_eq_true, Bool.and_eq_false_iff, Bool.or_eq_true, Bool.or_eq_false_iff, Decidable.not_not, List.cons.injEq, and_true] at p34
            have hkn : k = n * n := by have := hinv.1; omega
            have hfd : fd = true := by
              cases fd with
              | true => rfl
              | false => have := (hinv.2.1 rfl).1; omega
            subst hfd
            obtain ⟨hkn2, _, hf2⟩ := hinv
            obtain ⟨hlf2, hnext⟩ := hf2 rfl
            refine Run.pass rfl ?_
            refine Run.pass rfl ?_
            refine Run.q (v := .bool false) rfl (OpQ.y (OpY.pure rfl)) ?_
            refine Run.done ?_
            refine Run.cond (b := false) rfl (fun h => nomatch h) (fun _ => ?_)
            refine Run.exit rfl ?_
            refine Run.blockEnd ?_
            refine Run.goal ⟨(by repeat (first | exact Same.refl _ _ | refine Same.put rfl ?_ | refine Same.over rfl rfl ?_)), (dn2, lf2, mj2, vr2, vg2, lg2), ?_, ?_, ?_, ?_⟩
            · exact hnext
            · show lf2.length < (e :: lt).length; rw [hlf2]; simp
            · exact trivial
            · exact (((((((Weak.front [.own vg2 71 3 ((dn2).length) (ints (flCX (dcw n dn2))), .grp 3 1 lg2, .own (.slice (some ⟨gf, 0, none⟩) N cf) 3 1 N (ints (farL N (lq n i0))), .blk b1 28 [vr2], .blk b3 38 [.int .i64 (((n : Nat) : Int)), vg2]] (.blk b2 38 [.int .i64 0, .slice none 0 0]) []).trans (Weak.front [.blk b2 38 [.int .i64 0, .slice none 0 0], .own vg2 71 3 ((dn2).length) (ints (flCX (dcw n dn2))), .grp 3 1 lg2, .own (.slice (some ⟨gf, 0, none⟩) N cf) 3 1 N (ints (farL N (lq n i0))), .blk b1 28 [vr2]] (.blk b3 38 [.int .i64 (((n : Nat) : Int)), vg2]) [])).trans (Weak.front [.blk b3 38 [.int .i64 (((n : Nat) : Int)), vg2], .blk b2 38 [.int .i64 0, .slice none 0 0], .own vg2 71 3 ((dn2).length) (ints (flCX (dcw n dn2))), .grp 3 1 lg2, .own (.slice (some ⟨gf, 0, none⟩) N cf) 3 1 N (ints (farL N (lq n i0)))] (.blk b1 28 [vr2]) [])).trans (Weak.front [.blk b1 28 [vr2], .blk b3 38 [.int .i64 (((n : Nat) : Int)), vg2], .blk b2 38 [.int .i64 0, .slice none 0 0], .own vg2 71 3 ((dn2).length) (ints (flCX (dcw n dn2))), .grp 3 1 lg2] (.own (.slice (some ⟨gf, 0, none⟩) N cf) 3 1 N (ints (farL N (lq n i0)))) [])).trans (Weak.front [.own (.slice (some ⟨gf, 0, none⟩) N cf) 3 1 N (ints (farL N (lq n i0))), .blk b1 28 [vr2], .blk b3 38 [.int .i64 (((n : Nat) : Int)), vg2], .blk b2 38 [.int .i64 0, .slice none 0 0], .own vg2 71 3 ((dn2).length) (ints (flCX (dcw n dn2)))] (.grp 3 1 lg2) [])).trans (Weak.front [.grp 3 1 lg2, .own (.slice (some ⟨gf, 0, none⟩) N cf) 3 1 N (ints (farL N (lq n i0))), .blk b1 28 [vr2], .blk b3 38 [.int .i64 (((n : Nat) : Int)), vg2], .blk b2 38 [.int .i64 0, .slice none 0 0]] (.own vg2 71 3 ((dn2).length) (ints (flCX (dcw n dn2)))) [])).trans (Some'.weak (.takeEq (by first | rfl | simp) (.takeEq (by first | rfl | simp) (.takeEq (by first | rfl | simp) (.takeEq (by first | rfl | simp) (.takeEq (by first | rfl | simp) (.take (.nil _)))))))))
      · have p28 := h28; try simp only [decide_eq_true_eq, decide_eq_false_iff_not, beq_iff_eq, bne_iff_ne, beq_eq_false_iff_ne, ne_eq, gt_iff_lt, ge_iff_le, Int.not_lt, Int.not_le, bne_eq_false_iff_eq, Bool.not_eq_true', Bool.not_eq_false', Bool.and_eq_true, Bool.and_eq_false_iff, Bool.or_eq_true, Bool.or_eq_false_iff, Decidable.not_not, List.cons.injEq, and_true] at p28
        obtain rfl : lf = [] := List.length_eq_zero_iff.1 (by omega)
        rw [List.append_nil] at hpd
        refine Run.exit rfl ?_
        refine Run.seq ?_
        refine Run.region ?_
        refine Run.q (v := .agg #[.int .i64 (((n : Nat) : Int)), vg]) rfl (OpQ.y (OpY.loadN (cs := [.int .i64 (((n : Nat) : Int)), vg]) Tagg_38 rfl (Cells.blk (.tail _ (.tail _ (.tail _ (.tail _ (List.Mem.head _))))) ⟨rfl, rfl, trivial⟩))) ?_
        refine Run.formOwn (.head _) (fun A_vg1 c_vg1 hv hcapc_vg1 hmaxc_vg1 => ?_) (fun _ _ _ => ⟨nofun, nofun, nofun⟩)
        subst hv
        refine Run.step rfl (OpStep.storeAll (us := [.int .i64 (((n : Nat) : Int)), .slice A_vg1 ((dn).length) c_vg1]) Tsize_38 rfl rfl rfl (.there _ (.there _ (.there _ (.there _ (.there _ (.here _)))))) rfl ?_)
        refine Run.q (v := .bool true) rfl (OpQ.y (OpY.pure rfl)) ?_
        refine Run.done ?_
        refine Run.ret ?_
        refine ⟨.tuple #[.agg #[.int .i64 (((n : Nat) : Int)), .slice A_vg1 ((dn).length) c_vg1], .bool true], [.own (.slice A_vg1 ((dn).length) c_vg1) 71 3 ((slG n xs).length) (ints (flCX (dcw n (slG n xs))))], Out.cell2 (cs := [.int .i64 (((n : Nat) : Int)), .slice A_vg1 ((dn).length) c_vg1]) rfl Tagg_38 rfl (Cells.blk (.tail _ (.tail _ (.tail _ (.tail _ (.tail _ (List.Mem.head _)))))) ⟨rfl, rfl, trivial⟩) rfl, (Some'.weak (.takeEq (by first | rfl | rw [← hpd, hp0]) (.nil _))), ?_⟩
        exact ⟨_, by rw [sl_good hgood, hgood], rfl⟩

end Go.Proofs.Yteehfidjofcfmaa
