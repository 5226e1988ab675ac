/- Walks: the reference does what can be done. -/
import Derived.Test.YtekikmdjldincaaQ6
import Derived.Test.YtekikmdjldincaaProg
set_option linter.unusedSimpArgs false
set_option linter.unusedVariables false
namespace Go.Proofs.Ytekikmdjldincaa
open Go Go.RowKit
namespace LscT
theorem Tagg_110 : aggOf Try.prog 110 = some 4 := by kernel_rfl
theorem Tagg_35 : aggOf Try.prog 35 = some 2 := by kernel_rfl
theorem Tagg_39 : aggOf Try.prog 39 = some 2 := by kernel_rfl
theorem Tagg_81 : aggOf Try.prog 81 = some 3 := by kernel_rfl
theorem Tcall_82 : callable Try.prog 82 = true := by kernel_rfl
theorem Tcall_83 : callable Try.prog 83 = true := by kernel_rfl
theorem Tfo_110_0 : fieldOff Try.prog 110 0 = some 0 := by kernel_rfl
theorem Tfo_110_1 : fieldOff Try.prog 110 1 = some 1 := by kernel_rfl
theorem Tfo_110_3 : fieldOff Try.prog 110 3 = some 3 := by kernel_rfl
theorem Tfo_39_1 : fieldOff Try.prog 39 1 = some 1 := by kernel_rfl
theorem Tone_28 : oneOf Try.prog 28 = true := by kernel_rfl
theorem Tone_37 : oneOf Try.prog 37 = true := by kernel_rfl
theorem Tone_46 : oneOf Try.prog 46 = true := by kernel_rfl
theorem Tone_85 : oneOf Try.prog 85 = true := by kernel_rfl
theorem Tsize_110 : (Try.prog.info? 110).map (·.size) = some 4 := by kernel_rfl
theorem Tsize_4 : (Try.prog.info? 4).map (·.size) = some 1 := by kernel_rfl
theorem Tsize_46 : (Try.prog.info? 46).map (·.size) = some 1 := by kernel_rfl
theorem Tsize_85 : (Try.prog.info? 85).map (·.size) = some 1 := by kernel_rfl
theorem Tsl_37 : sliceOf Try.prog 37 = some (81, 3, 24, [.int .i64 0, .int .i64 0, .int .i64 0]) := by kernel_rfl
theorem Tsl_46 : sliceOf Try.prog 46 = some (101, 3, 24, [.int .i64 0, .int .i64 0, .int .i64 0]) := by kernel_rfl
theorem Tsl_85 : sliceOf Try.prog 85 = some (4, 1, 1, [.bool false]) := by kernel_rfl
theorem Tzero_110 : zeroOf Try.prog 110 = some [.slice none 0 0, .slice none 0 0, .int .i64 0, .slice none 0 0] := by kernel_rfl
end LscT
open LscT
set_option maxHeartbeats 1000000 in
set_option maxRecDepth 20000 in
theorem l23Run_spec {N Q pv : Int} {vg vc vp vd vs : Value} {m n pn : Nat} {es xs ps : List Int} {ds0 : List Bool} {L0 : List T3} {w : World} (hn4 : n ≤ 400) (hin : HIN n pn xs ps) (hL : L0.length ≤ 20000000) (hg : Ap [.own vs 101 3 (L0.length) (ints (fl3 L0))] w vg 2 m (ints es)) (hc : Ap [.own vs 101 3 (L0.length) (ints (fl3 L0))] w vc 3 n (ints xs)) (hp : Ap [.own vs 101 3 (L0.length) (ints (fl3 L0))] w vp 1 pn (ints ps)) (hd : Ap [.own vs 101 3 (L0.length) (ints (fl3 L0))] w vd 1 n (bls ds0)) (h : (Res.own vs 101 3 (L0.length) (ints (fl3 L0))).holds w) : Calls Try.prog 63 #[.agg #[.int .i64 N, vg], .agg #[.int .i64 Q, vc], .agg #[vp, vd, .int .i64 pv, vs]] w (Post (Of [.own vs 101 3 (L0.length) (ints (fl3 L0))]) w fun v H => ∃ vd2 vs2, v = .agg #[vp, vd2, .int .i64 pv, vs2] ∧ H = [.own vd2 4 1 n (bls ((advS (goB es m xs ps) n ds0 L0).1)), .own vs2 101 3 (((advS (goB es m xs ps) n ds0 L0).2).length) (ints (fl3 ((advS (goB es m xs ps) n ds0 L0).2)))]) := by
  have hcl := hc.sl.len
  have hdl := hd.sl.blen
  obtain ⟨Ac, cc, rfl, _, _⟩ := hc.sl.form0
  obtain ⟨Av, cv, rfl, _, _⟩ := hp.sl.form0
  have hund : und ds0 ≤ ds0.length := List.count_le_length
  refine enter (n := 48) (args := [.agg #[.int .i64 N, vg], .agg #[.int .i64 Q, .slice Ac n cc], .agg #[.slice Av pn cv, vd, .int .i64 pv, vs]]) Try.func63 rfl rfl (St.start1 h) ?_
  refine Run.seq ?_
  refine Run.region ?_
  refine Run.step rfl (OpStep.box (us := [.int .i64 N, vg]) rfl fun b1 => ?_)
  refine Run.step rfl (OpStep.box (us := [.int .i64 Q, .slice Ac n cc]) rfl fun b2 => ?_)
  refine Run.step rfl (OpStep.box (us := [.slice Av pn cv, vd, .int .i64 pv, vs]) rfl fun b3 => ?_)
  refine Run.step rfl (OpStep.alloc (zs := [.slice none 0 0, .slice none 0 0, .int .i64 0, .slice none 0 0]) Tzero_110 fun b4 => ?_)
  refine Run.done ?_
  refine Run.seq ?_
  refine Run.region ?_
  refine Run.step rfl (OpStep.buildSlice (us := []) Tsl_85 (by decide) (by decide) rfl rfl fun b5 => ?_)
  refine Run.q (v := .pointer (some ⟨b3, 1, none⟩)) rfl (OpQ.y (OpY.fieldAddr Tfo_110_1 rfl rfl)) ?_
  refine Run.q (v := vd) rfl (OpQ.y (OpY.load1 Tone_85 rfl (Cells.blk (.tail _ (.tail _ (List.Mem.head _))) ⟨rfl, trivial⟩))) ?_
  refine Run.step rfl (OpStep.append (H1 := []) (H2 := [.blk b4 110 [.slice none 0 0, .slice none 0 0, .int .i64 0, .slice none 0 0], .blk b3 110 [.slice Av pn cv, vd, .int .i64 pv, vs], .blk b2 39 [.int .i64 Q, .slice Ac n cc], .blk b1 35 [.int .i64 N, vg], .own vs 101 3 (L0.length) (ints (fl3 L0))]) (v := .slice (some ⟨b5, 0, none⟩) 0 0) (u := vd) (n := 0) (m := n) (xs := []) (ys := bls ds0) Tsl_85 (by decide) rfl rfl rfl rfl (fun w hs => hd.go hs) (by exact List.all_eq_true.2 (bls_all _)) (by omega) (by simp only [maxLen]; omega) fun av1 hnav1 => ?_)
  refine Run.weak (H' := [.own av1 4 1 n (bls ds0), .blk b4 110 [.slice none 0 0, .slice none 0 0, .int .i64 0, .slice none 0 0], .blk b3 110 [.slice Av pn cv, vd, .int .i64 pv, vs], .blk b2 39 [.int .i64 Q, .slice Ac n cc], .blk b1 35 [.int .i64 N, vg], .own vs 101 3 (L0.length) (ints (fl3 L0))]) (Some'.weak (.takeEq (by simp) (.take (.take (.take (.take (.take (.nil _)))))))) ?_ ⟨_, _, rfl, fun _ => nofun, fun _ => nofun⟩
  refine Run.q (v := .pointer (some ⟨b3, 1, none⟩)) rfl (OpQ.y (OpY.fieldAddr Tfo_110_1 rfl rfl)) ?_
  refine Run.formOwn (.head _) (fun A_av11 c_av11 hv hcapc_av11 hmaxc_av11 => ?_) (fun _ _ _ => ⟨nofun, nofun, nofun⟩)
  subst hv
  refine Run.step rfl (OpStep.store (us := [.slice A_av11 n c_av11]) Tsize_85 rfl rfl rfl (.there _ (.there _ (.here _))) (by simp only [List.length_cons, List.length_nil]; omega) ?_)
  show Run _ _ _ [.own (.slice A_av11 n c_av11) 4 1 n (bls ds0), .blk b4 110 [.slice none 0 0, .slice none 0 0, .int .i64 0, .slice none 0 0], .blk b3 110 [.slice Av pn cv, .slice A_av11 n c_av11, .int .i64 pv, vs], .blk b2 39 [.int .i64 Q, .slice Ac n cc], .blk b1 35 [.int .i64 N, vg], .own vs 101 3 (L0.length) (ints (fl3 L0))]
  refine Run.done ?_
  refine Run.seq ?_
  refine Run.seq ?_
  refine Run.region ?_
  refine Run.q (v := .int .i64 0) rfl (OpQ.y (OpY.pure rfl)) ?_
  refine Run.done ?_
  refine Run.block ?_
  refine Run.loop (ι := Nat × List Bool × List T3 × Value × Value) [7, 13, 14, 15, 16, 17, 18, 19, 20, 21, 22, 23, 24, 25, 26, 27, 28, 29, 30, 31, 32, 33, 34, 35, 36, 37, 38, 39, 40, 41, 42, 43, 44, 45, 46] (fun ⟨i, ds, L, wd, ws⟩ => [(7, .int .i64 (((i : Nat) : Int)))]) (fun ⟨i, ds, L, wd, ws⟩ => [.own wd 4 1 n (bls ds), .own ws 101 3 (L.length) (ints (fl3 L)), .blk b4 110 [.slice none 0 0, .slice none 0 0, .int .i64 0, .slice none 0 0], .blk b3 110 [.slice Av pn cv, wd, .int .i64 pv, ws], .blk b2 39 [.int .i64 Q, .slice Ac n cc], .blk b1 35 [.int .i64 N, vg]]) (fun ⟨i, ds, L, wd, ws⟩ => i ≤ n ∧ ds.length = n ∧ (∀ j, j < i → goB es m xs ps ds j = false) ∧ advS (goB es m xs ps) n ds L = advS (goB es m xs ps) n ds0 L0 ∧ L.length + und ds ≤ L0.length + und ds0) (fun ⟨i, ds, L, wd, ws⟩ => und ds * (n + 1) + (n - i)) (0, ds0, L0, .slice A_av11 n c_av11, vs) ?_ ?_ ?_ ?_
  · exact ⟨Nat.zero_le _, hdl, fun j hj => by omega, rfl, Nat.le_refl _⟩
  · exact ⟨rfl, trivial⟩
  · exact ((Weak.selF [0, 4, 0, 0, 0, 0]).trans (Some'.weak (.takeEq (by first | rfl | simp) (.takeEq (by first | rfl | simp) (.take (.takeEq (by first | rfl | simp) (.take (.take (.nil _)))))))))
  · rintro ⟨i, ds, L, wd, ws⟩ fr hinv
    show Run _ _ (over _ _ [(7, .int .i64 (((i : Nat) : Int)))] fr) [.own wd 4 1 n (bls ds), .own ws 101 3 (L.length) (ints (fl3 L)), .blk b4 110 [.slice none 0 0, .slice none 0 0, .int .i64 0, .slice none 0 0], .blk b3 110 [.slice Av pn cv, wd, .int .i64 pv, ws], .blk b2 39 [.int .i64 Q, .slice Ac n cc], .blk b1 35 [.int .i64 N, vg]]
    try dsimp only at hinv
    refine Run.seq ?_
    refine Run.seq ?_
    refine Run.region ?_
    refine Run.q (v := .int .i64 (((i : Nat) : Int))) rfl (OpQ.y (OpY.pure rfl)) ?_
    refine Run.q (v := .pointer (some ⟨b2, 1, none⟩)) rfl (OpQ.y (OpY.fieldAddr Tfo_39_1 rfl rfl)) ?_
    refine Run.q (v := .slice Ac n cc) rfl (OpQ.y (OpY.load1 Tone_37 rfl (Cells.blk (.tail _ (.tail _ (.tail _ (.tail _ (List.Mem.head _))))) ⟨rfl, trivial⟩))) ?_
    refine Run.q (v := .int .i64 (((n : Nat) : Int))) rfl (OpQ.y (OpY.len Tsl_37 rfl)) ?_
    refine Run.q (v := .bool (decide ((((i : Nat) : Int)) < (((n : Nat) : Int))))) rfl (OpQ.y (OpY.pure rfl)) ?_
    refine Run.done ?_
    refine Run.cond (b := decide ((((i : Nat) : Int)) < (((n : Nat) : Int)))) rfl (fun h17 => ?_) (fun h17 => ?_)
    · have p17 := h17; try simp only [bs] at p17
      have hin1 : i < n := by omega
      obtain ⟨hiN, hdl2, hlow, hsame, hLl⟩ := hinv
      obtain ⟨bc, oc, rfl⟩ := hc.sl.opn (by omega)
      refine Run.openOwn (.head _) (by omega) (fun gd cd hvgd hcapgd _ => ?_) (fun _ _ _ => ⟨nofun, nofun, nofun⟩)
      subst hvgd
      refine Run.skip ?_
      refine Run.seq ?_
      refine Run.block ?_
      refine Run.seq ?_
      refine Run.draws (by kernel_rfl) (by kernel_rfl) ?_
      refine Lex.q (v := .agg #[.int .i64 Q, .slice (some ⟨bc, oc, none⟩) n cc]) rfl (OpQ.y (OpY.loadN (cs := [.int .i64 Q, .slice (some ⟨bc, oc, none⟩) n cc]) Tagg_39 rfl (Cells.blk (.tail _ (.tail _ (.tail _ (.tail _ (List.Mem.head _))))) ⟨rfl, rfl, trivial⟩))) ?_
      refine Lex.q (v := .pointer (some ⟨b3, 1, none⟩)) rfl (OpQ.y (OpY.fieldAddr Tfo_110_1 rfl rfl)) ?_
      refine Lex.q (v := .slice (some ⟨gd, 0, none⟩) n cd) rfl (OpQ.y (OpY.load1 Tone_85 rfl (Cells.blk (.tail _ (.tail _ (.tail _ (List.Mem.head _)))) ⟨rfl, trivial⟩))) ?_
      refine Lex.q (v := .int .i64 (((i : Nat) : Int))) rfl (OpQ.y (OpY.pure rfl)) ?_
      refine Lex.q (v := .bool (rdy xs ds i)) rfl (OpQ.call (vs := [.agg #[.int .i64 Q, .slice (some ⟨bc, oc, none⟩) n cc], .slice (some ⟨gd, 0, none⟩) n cd, .int .i64 (((i : Nat) : Int))]) (caps := []) Tcall_82 rfl rfl (fun w hs => l23Ready_spec hin1 (hc.go hs) (hs.slOwn (.head _)))) ?_
      rcases Bool.eq_false_or_eq_true (rdy xs ds i) with h25 | h25
      · refine Lex.q (v := .bool true) rfl (OpQ.y (OpY.moveB rfl h25)) ?_
        have p25 := h25; try simp only [bs] at p25
        refine Lex.q (v := .agg #[.int .i64 N, vg]) rfl (OpQ.y (OpY.loadN (cs := [.int .i64 N, vg]) Tagg_35 rfl (Cells.blk (.tail _ (.tail _ (.tail _ (.tail _ (.tail _ (List.Mem.head _)))))) ⟨rfl, rfl, trivial⟩))) ?_
        refine Lex.q (v := .pointer (some ⟨b3, 0, none⟩)) rfl (OpQ.y (OpY.fieldAddr Tfo_110_0 rfl rfl)) ?_
        refine Lex.q (v := .slice Av pn cv) rfl (OpQ.y (OpY.load1 Tone_28 rfl (Cells.blk (.tail _ (.tail _ (.tail _ (List.Mem.head _)))) ⟨rfl, trivial⟩))) ?_
        refine Lex.q (v := .pointer (some ⟨b2, 1, none⟩)) rfl (OpQ.y (OpY.fieldAddr Tfo_39_1 rfl rfl)) ?_
        refine Lex.q (v := .slice (some ⟨bc, oc, none⟩) n cc) rfl (OpQ.y (OpY.load1 Tone_37 rfl (Cells.blk (.tail _ (.tail _ (.tail _ (.tail _ (List.Mem.head _))))) ⟨rfl, trivial⟩))) ?_
        refine Lex.q (v := .int .i64 (((i : Nat) : Int))) rfl (OpQ.y (OpY.pure rfl)) ?_
        refine Lex.q (v := .pointer (some ⟨bc, oc + i * 3, none⟩)) rfl (OpQ.y (OpY.index (kk := i) Tsl_37 rfl rfl (by omega) (by omega) (by first | rfl | omega))) ?_
        refine Lex.q (v := .agg #[.int .i64 (ix xs (i * 3)), .int .i64 (ix xs (i * 3 + 1)), .int .i64 (ix xs (i * 3 + 2))]) rfl (OpQ.y (OpY.loadN (cs := [.int .i64 (ix xs (i * 3)), .int .i64 (ix xs (i * 3 + 1)), .int .i64 (ix xs (i * 3 + 2))]) Tagg_81 rfl (Cells.ap (k := i * 3) hc rfl (by omega) (pre3 (by omega))))) ?_
        refine Lex.q (v := .bool (nearG es m xs ps i)) rfl (OpQ.call (vs := [.agg #[.int .i64 N, vg], .slice Av pn cv, .agg #[.int .i64 (ix xs (i * 3)), .int .i64 (ix xs (i * 3 + 1)), .int .i64 (ix xs (i * 3 + 2))]]) (caps := []) Tcall_83 rfl rfl (fun w hs => l23Near_spec (fun ht => by have hh := hin i hin1 ht; exact ⟨hh.1.1, hh.1.2, hh.2.1.1, hh.2.1.2⟩) (hg.go hs) (hp.go hs))) ?_
        refine Lex.q (v := .bool (nearG es m xs ps i)) rfl (OpQ.y (OpY.pure rfl)) ?_
        refine Lex.done ?_
        refine Run.cond (b := nearG es m xs ps i) rfl (fun h35 => ?_) (fun h35 => ?_)
        · have p35 := h35; try simp only [bs] at p35
          have hgo : goB es m xs ps ds i = true := by unfold goB; simp_all
          have hopen := goB_open hgo
          have hu := und_set (ds := ds) (i := i) (by omega) hopen
          have hst := advS_step (L := L) hdl2 hin1 hgo hopen hlow
          have hmu : und (ds.set i true) * (n + 1) + (n + 1) = und ds * (n + 1) := by rw [hu, Nat.add_mul, Nat.one_mul]
          refine Run.seq ?_
          refine Run.region ?_
          refine Run.q (v := .pointer (some ⟨b3, 1, none⟩)) rfl (OpQ.y (OpY.fieldAddr Tfo_110_1 rfl rfl)) ?_
          refine Run.q (v := .slice (some ⟨gd, 0, none⟩) n cd) rfl (OpQ.y (OpY.load1 Tone_85 rfl (Cells.blk (.tail _ (.tail _ (.tail _ (List.Mem.head _)))) ⟨rfl, trivial⟩))) ?_
          refine Run.q (v := .int .i64 (((i : Nat) : Int))) rfl (OpQ.y (OpY.pure rfl)) ?_
          refine Run.q (v := .pointer (some ⟨gd, i, none⟩)) rfl (OpQ.y (OpY.index (kk := i) Tsl_85 rfl rfl (by omega) (by omega) (by first | rfl | omega))) ?_
          refine Run.step rfl (OpStep.storeOwn (us := [.bool true]) Tsize_4 rfl rfl rfl rfl (by rw [bls_set]; exact (.here _)) (by simp only [List.length_cons, List.length_nil]; omega) ?_)
          refine Run.done ?_
          refine Run.seq ?_
          refine Run.region ?_
          refine Run.q (v := .pointer (some ⟨b3, 3, none⟩)) rfl (OpQ.y (OpY.fieldAddr Tfo_110_3 rfl rfl)) ?_
          refine Run.q (v := ws) rfl (OpQ.y (OpY.load1 Tone_46 rfl (Cells.blk (.tail _ (.tail _ (.tail _ (List.Mem.head _)))) ⟨rfl, trivial⟩))) ?_
          refine Run.q (v := .int .i64 (((i : Nat) : Int))) rfl (OpQ.y (OpY.pure rfl)) ?_
          refine Run.q (v := .agg #[.int .i64 (((i : Nat) : Int)), .int .i64 0, .int .i64 0]) rfl (OpQ.y (OpY.build (cs := [.int .i64 (((i : Nat) : Int)), .int .i64 0, .int .i64 0]) (by kernel_rfl))) ?_
          refine Run.step rfl (OpStep.buildSlice (us := [.int .i64 (((i : Nat) : Int)), .int .i64 0, .int .i64 0]) Tsl_46 (by decide) (by decide) ⟨rfl, [.int .i64 (((i : Nat) : Int)), .int .i64 0, .int .i64 0], _, rfl, rfl, rfl, rfl⟩ rfl fun b6 => ?_)
          refine Run.step rfl (OpStep.append (H1 := [.own (.slice (some ⟨b6, 0, none⟩) 1 1) 101 3 1 ([.int .i64 (((i : Nat) : Int)), .int .i64 0, .int .i64 0]), .own (.slice (some ⟨gd, 0, none⟩) n cd) 4 1 n (bls (ds.set i true))]) (H2 := [.blk b4 110 [.slice none 0 0, .slice none 0 0, .int .i64 0, .slice none 0 0], .blk b3 110 [.slice Av pn cv, .slice (some ⟨gd, 0, none⟩) n cd, .int .i64 pv, ws], .blk b2 39 [.int .i64 Q, .slice (some ⟨bc, oc, none⟩) n cc], .blk b1 35 [.int .i64 N, vg]]) (v := ws) (u := .slice (some ⟨b6, 0, none⟩) 1 1) (n := L.length) (m := 1) (xs := ints (fl3 L)) (ys := [.int .i64 (((i : Nat) : Int)), .int .i64 0, .int .i64 0]) Tsl_46 (by decide) rfl rfl rfl rfl (fun w hs => hs.slOwn (.head _)) (by simp [Value.oneCell']) (by omega) (by simp only [maxLen]; omega) fun av2 hnav2 => ?_)
          refine Run.weak (H' := [.own (.slice (some ⟨b6, 0, none⟩) 1 1) 101 3 1 ([.int .i64 (((i : Nat) : Int)), .int .i64 0, .int .i64 0]), .own (.slice (some ⟨gd, 0, none⟩) n cd) 4 1 n (bls (ds.set i true)), .own av2 101 3 ((L ++ [st3 i]).length) (ints (fl3 (L ++ [st3 i]))), .blk b4 110 [.slice none 0 0, .slice none 0 0, .int .i64 0, .slice none 0 0], .blk b3 110 [.slice Av pn cv, .slice (some ⟨gd, 0, none⟩) n cd, .int .i64 pv, ws], .blk b2 39 [.int .i64 Q, .slice (some ⟨bc, oc, none⟩) n cc], .blk b1 35 [.int .i64 N, vg]]) (Some'.weak (.take (.take (.takeEq (by rw [ints_fl3]; exact congrArg (fun k => Res.own _ _ _ k _) (by simp)) (.take (.take (.take (.take (.nil _))))))))) ?_ ⟨_, _, rfl, fun _ => nofun, fun _ => nofun⟩
          refine Run.q (v := .pointer (some ⟨b3, 3, none⟩)) rfl (OpQ.y (OpY.fieldAddr Tfo_110_3 rfl rfl)) ?_
          refine Run.formOwn (.tail _ (.tail _ (List.Mem.head _))) (fun A_av21 c_av21 hv hcapc_av21 hmaxc_av21 => ?_) (fun _ _ _ => ⟨nofun, nofun, nofun⟩)
          subst hv
          refine Run.step rfl (OpStep.store (us := [.slice A_av21 ((L ++ [st3 i]).length) c_av21]) Tsize_46 rfl rfl rfl (.there _ (.there _ (.there _ (.there _ (.here _))))) (by simp only [List.length_cons, List.length_nil]; omega) ?_)
          show Run _ _ _ [.own (.slice (some ⟨b6, 0, none⟩) 1 1) 101 3 1 ([.int .i64 (((i : Nat) : Int)), .int .i64 0, .int .i64 0]), .own (.slice (some ⟨gd, 0, none⟩) n cd) 4 1 n (bls (ds.set i true)), .own (.slice A_av21 ((L ++ [st3 i]).length) c_av21) 101 3 ((L ++ [st3 i]).length) (ints (fl3 (L ++ [st3 i]))), .blk b4 110 [.slice none 0 0, .slice none 0 0, .int .i64 0, .slice none 0 0], .blk b3 110 [.slice Av pn cv, .slice (some ⟨gd, 0, none⟩) n cd, .int .i64 pv, .slice A_av21 ((L ++ [st3 i]).length) c_av21], .blk b2 39 [.int .i64 Q, .slice (some ⟨bc, oc, none⟩) n cc], .blk b1 35 [.int .i64 N, vg]]
          refine Run.done ?_
          refine Run.region ?_
          refine Run.q (v := .int .i64 (-1)) rfl (OpQ.y (OpY.pure rfl)) ?_
          refine Run.done ?_
          refine Run.blockEnd ?_
          refine Run.region ?_
          refine Run.q (v := .int .i64 (-1)) rfl (OpQ.y (OpY.pure rfl)) ?_
          refine Run.q (v := .int .i64 ((-1) + 1)) rfl (OpQ.y (OpY.add rfl rfl rfl (by omega) (by omega))) ?_
          refine Run.q (v := .int .i64 ((-1) + 1)) rfl (OpQ.y (OpY.pure rfl)) ?_
          refine Run.done ?_
          refine Run.goal ⟨(by repeat (first | exact Same.refl _ _ | refine Same.put rfl ?_ | refine Same.over rfl rfl ?_)), (0, ds.set i true, L ++ [st3 i], .slice (some ⟨gd, 0, none⟩) n cd, .slice A_av21 ((L ++ [st3 i]).length) c_av21), ?_, ?_, ?_, ?_⟩
          · first | exact ⟨hin1, hdl2, hlow1, hsame, hLl⟩ | exact ⟨Nat.zero_le _, by rw [List.length_set]; exact hdl2, fun j hj => by omega, by rw [← hst]; exact hsame, by rw [List.length_append]; simp only [List.length_cons, List.length_nil]; omega⟩
          · dsimp only; omega
          · exact ⟨(by show Value.int _ _ = Value.int _ _; congr 1 <;> omega), trivial⟩
          · exact ((Weak.selF [1, 1, 1, 1, 1, 1]).trans (Some'.weak (.takeEq (by first | rfl | simp) (.takeEq (by first | rfl | simp) (.take (.takeEq (by first | rfl | simp) (.takeEq (by first | rfl | simp) (.take (.nil _)))))))))
        · have p35 := h35; try simp only [bs] at p35
          have hgo : goB es m xs ps ds i = false := by unfold goB; simp_all
          have hlow1 : ∀ j, j < i + 1 → goB es m xs ps ds j = false := by
            intro j hj
            rcases Nat.lt_succ_iff_lt_or_eq.1 hj with h | h
            · exact hlow j h
            · rw [h]; exact hgo
          refine Run.skip ?_
          refine Run.blockEnd ?_
          refine Run.region ?_
          refine Run.q (v := .int .i64 (((i : Nat) : Int))) rfl (OpQ.y (OpY.pure rfl)) ?_
          refine Run.q (v := .int .i64 ((((i : Nat) : Int)) + 1)) rfl (OpQ.y (OpY.add rfl rfl rfl (by omega) (by omega))) ?_
          refine Run.q (v := .int .i64 ((((i : Nat) : Int)) + 1)) rfl (OpQ.y (OpY.pure rfl)) ?_
          refine Run.done ?_
          refine Run.goal ⟨(by repeat (first | exact Same.refl _ _ | refine Same.put rfl ?_ | refine Same.over rfl rfl ?_)), (i + 1, ds, L, .slice (some ⟨gd, 0, none⟩) n cd, ws), ?_, ?_, ?_, ?_⟩
          · first | exact ⟨hin1, hdl2, hlow1, hsame, hLl⟩ | exact ⟨Nat.zero_le _, by rw [List.length_set]; exact hdl2, fun j hj => by omega, by rw [← hst]; exact hsame, by rw [List.length_append]; simp only [List.length_cons, List.length_nil]; omega⟩
          · dsimp only; omega
          · exact ⟨(by show Value.int _ _ = Value.int _ _; congr 1 <;> omega), trivial⟩
          · exact ((Weak.refl _).trans (Some'.weak (.takeEq (by first | rfl | simp) (.takeEq (by first | rfl | simp) (.take (.takeEq (by first | rfl | simp) (.takeEq (by first | rfl | simp) (.take (.nil _)))))))))
      · refine Lex.q (v := .bool false) rfl (OpQ.y (OpY.moveB rfl h25)) ?_
        have p25 := h25; try simp only [bs] at p25
        have hgo : goB es m xs ps ds i = false := by unfold goB; simp_all
        have hlow1 : ∀ j, j < i + 1 → goB es m xs ps ds j = false := by
          intro j hj
          rcases Nat.lt_succ_iff_lt_or_eq.1 hj with h | h
          · exact hlow j h
          · rw [h]; exact hgo
        refine Lex.pass rfl ?_
        refine Lex.pass rfl ?_
        refine Lex.pass rfl ?_
        refine Lex.pass rfl ?_
        refine Lex.pass rfl ?_
        refine Lex.pass rfl ?_
        refine Lex.pass rfl ?_
        refine Lex.pass rfl ?_
        refine Lex.pass rfl ?_
        refine Lex.q (v := .bool false) rfl (OpQ.y (OpY.pure rfl)) ?_
        refine Lex.done ?_
        refine Run.cond (b := false) rfl (fun h => nomatch h) (fun _ => ?_)
        refine Run.skip ?_
        refine Run.blockEnd ?_
        refine Run.region ?_
        refine Run.q (v := .int .i64 (((i : Nat) : Int))) rfl (OpQ.y (OpY.pure rfl)) ?_
        refine Run.q (v := .int .i64 ((((i : Nat) : Int)) + 1)) rfl (OpQ.y (OpY.add rfl rfl rfl (by omega) (by omega))) ?_
        refine Run.q (v := .int .i64 ((((i : Nat) : Int)) + 1)) rfl (OpQ.y (OpY.pure rfl)) ?_
        refine Run.done ?_
        refine Run.goal ⟨(by repeat (first | exact Same.refl _ _ | refine Same.put rfl ?_ | refine Same.over rfl rfl ?_)), (i + 1, ds, L, .slice (some ⟨gd, 0, none⟩) n cd, ws), ?_, ?_, ?_, ?_⟩
        · first | exact ⟨hin1, hdl2, hlow1, hsame, hLl⟩ | exact ⟨Nat.zero_le _, by rw [List.length_set]; exact hdl2, fun j hj => by omega, by rw [← hst]; exact hsame, by rw [List.length_append]; simp only [List.length_cons, List.length_nil]; omega⟩
        · dsimp only; omega
        · exact ⟨(by show Value.int _ _ = Value.int _ _; congr 1 <;> omega), trivial⟩
        · exact ((Weak.refl _).trans (Some'.weak (.takeEq (by first | rfl | simp) (.takeEq (by first | rfl | simp) (.take (.takeEq (by first | rfl | simp) (.takeEq (by first | rfl | simp) (.take (.nil _)))))))))
    · have p17 := h17; try simp only [bs] at p17
      have hfin : advS (goB es m xs ps) n ds0 L0 = (ds, L) := by rw [← hinv.2.2.2.1]; exact advS_stop fun j hj => hinv.2.2.1 j (by omega)
      refine Run.exit rfl ?_
      refine Run.seq ?_
      refine Run.region ?_
      refine Run.q (v := .agg #[.slice Av pn cv, wd, .int .i64 pv, ws]) rfl (OpQ.y (OpY.loadN (cs := [.slice Av pn cv, wd, .int .i64 pv, ws]) Tagg_110 rfl (Cells.blk (.tail _ (.tail _ (.tail _ (List.Mem.head _)))) ⟨rfl, rfl, rfl, rfl, trivial⟩))) ?_
      refine Run.formOwn (.head _) (fun A_wd1 c_wd1 hv hcapc_wd1 hmaxc_wd1 => ?_) (fun _ _ _ => ⟨nofun, nofun, nofun⟩)
      subst hv
      refine Run.formOwn (.tail _ (List.Mem.head _)) (fun A_ws1 c_ws1 hv hcapc_ws1 hmaxc_ws1 => ?_) (fun _ _ _ => ⟨nofun, nofun, nofun⟩)
      subst hv
      refine Run.step rfl (OpStep.storeAll (us := [.slice Av pn cv, .slice A_wd1 n c_wd1, .int .i64 pv, .slice A_ws1 (L.length) c_ws1]) Tsize_110 rfl rfl rfl (.there _ (.there _ (.here _))) rfl ?_)
      refine Run.done ?_
      refine Run.ret ?_
      refine ⟨.agg #[.slice Av pn cv, .slice A_wd1 n c_wd1, .int .i64 pv, .slice A_ws1 (L.length) c_ws1], [.own (.slice A_wd1 n c_wd1) 4 1 n (bls ((advS (goB es m xs ps) n ds0 L0).1)), .own (.slice A_ws1 (L.length) c_ws1) 101 3 (((advS (goB es m xs ps) n ds0 L0).2).length) (ints (fl3 ((advS (goB es m xs ps) n ds0 L0).2)))], Out.cell1 (cs := [.slice Av pn cv, .slice A_wd1 n c_wd1, .int .i64 pv, .slice A_ws1 (L.length) c_ws1]) rfl Tagg_110 rfl (Cells.blk (.tail _ (.tail _ (List.Mem.head _))) ⟨rfl, rfl, rfl, rfl, trivial⟩), (Some'.weak (.takeEq (by rw [hfin]) (.takeEq (by rw [hfin]) (.nil _)))), ?_⟩
      exact ⟨_, _, rfl, rfl⟩

end Go.Proofs.Ytekikmdjldincaa
/- Walks: what the searches for routes ask first, numbers of placements and of what is done. -/
set_option linter.unusedSimpArgs false
set_option linter.unusedVariables false
namespace Go.Proofs.Ytekikmdjldincaa
open Go Go.RowKit
namespace LsdT
theorem Tint_114 : Try.prog.underlying 114 = some (.int .u64) := by kernel_rfl
theorem Tone_3 : oneOf Try.prog 3 = true := by kernel_rfl
theorem Tone_4 : oneOf Try.prog 4 = true := by kernel_rfl
theorem Tsl_28 : sliceOf Try.prog 28 = some (3, 1, 8, [.int .i64 0]) := by kernel_rfl
theorem Tsl_85 : sliceOf Try.prog 85 = some (4, 1, 1, [.bool false]) := by kernel_rfl
theorem Tsome_3 : (Try.prog.underlying 3).isSome = true := by kernel_rfl
end LsdT
open LsdT
def cnt2 (xs : List Int) : Nat → Nat
  | 0 => 0
  | k + 1 => if isTwoI (ix xs (k * 3)) then cnt2 xs k + 1 else cnt2 xs k
theorem cnt2_le (xs : List Int) : ∀ k, cnt2 xs k ≤ k
  | 0 => Nat.le_refl _
  | k + 1 => by have := cnt2_le xs k; rw [cnt2]; split <;> omega
def cdP (ps : List Int) : Nat → Int
  | 0 => 0
  | k + 1 => cdP ps k * 5 + ix ps k
theorem cdP_range {ps : List Int} {n : Nat} (h : ∀ i, i < n → 0 ≤ ix ps i ∧ ix ps i < 5) : ∀ k, k ≤ n → 0 ≤ cdP ps k ∧ cdP ps k < ((5 ^ k : Nat) : Int)
  | 0, _ => by simp [cdP]
  | k + 1, hk => by
    have h1 := cdP_range h k (by omega)
    have h2 := h k (by omega)
    rw [cdP, Nat.pow_succ]; omega
theorem cdP_inj {ps qs : List Int} {n : Nat} (hp : ∀ i, i < n → 0 ≤ ix ps i ∧ ix ps i < 5) (hq : ∀ i, i < n → 0 ≤ ix qs i ∧ ix qs i < 5) : ∀ k, k ≤ n → cdP ps k = cdP qs k → ∀ i, i < k → ix ps i = ix qs i
  | 0, _, _, i, hi => by omega
  | k + 1, hk, he, i, hi => by
    rw [cdP, cdP] at he
    have h1 := hp k (by omega)
    have h2 := hq k (by omega)
    by_cases e : i = k
    · subst e; omega
    · exact cdP_inj hp hq k (by omega) (by omega) i (by omega)
theorem pow5_le {k : Nat} (h : k ≤ 5) : 5 ^ k ≤ 3125 := Nat.pow_le_pow_right (n := 5) (by omega) h
def mkD (ds : List Bool) : Nat → Nat
  | 0 => 0
  | k + 1 => if bx ds k = true then mkD ds k ||| 2 ^ k else mkD ds k
theorem mkD_bit (ds : List Bool) : ∀ k j, (mkD ds k).testBit j = (decide (j < k) && bx ds j)
  | 0, j => by simp [mkD]
  | k + 1, j => by
    have ih := mkD_bit ds k j
    rw [mkD]
    by_cases hb : bx ds k = true
    · rw [if_pos hb, Nat.testBit_or, ih, Nat.testBit_two_pow]
      by_cases e : k = j
      · subst e; simp [hb]
      · rw [show decide (k = j) = false from decide_eq_false e, Bool.or_false, show decide (j < k + 1) = decide (j < k) from by simp; omega]
    · rw [if_neg hb, ih]
      by_cases e : k = j
      · subst e; simp [hb]
      · rw [show decide (j < k + 1) = decide (j < k) from by simp; omega]
theorem mkD_lt (ds : List Bool) : ∀ k, mkD ds k < 2 ^ k
  | 0 => by simp [mkD]
  | k + 1 => by
    have ih := mkD_lt ds k
    have h2 : 2 ^ (k + 1) = 2 ^ k + 2 ^ k := by rw [Nat.pow_succ]; omega
    rw [mkD]; split
    · exact Nat.or_lt_two_pow (by omega) (by omega)
    · omega
theorem mkD_inj {ds es : List Bool} {n : Nat} (hd : ds.length = n) (he : es.length = n) (h : mkD ds n = mkD es n) : ds = es := by
  refine List.ext_getElem (by omega) fun i h1 h2 => ?_
  have h3 := mkD_bit ds n i
  rw [h, mkD_bit es n i, show decide (i < n) = true from decide_eq_true (by omega), Bool.true_and, Bool.true_and] at h3
  simpa [bx, List.getD, h1, h2] using h3.symm
theorem pow40_le {k : Nat} (h : k ≤ 40) : 2 ^ k ≤ 1099511627776 := Nat.le_trans (Nat.pow_le_pow_right (n := 2) (by omega) h) (by decide)

set_option maxHeartbeats 1000000 in
set_option maxRecDepth 20000 in
theorem l23Code_spec {vp : Value} {n : Nat} {ps : List Int} {w : World} (h5 : n ≤ 5) (hr : ∀ i, i < n → 0 ≤ ix ps i ∧ ix ps i < 5) (hp : Sl w vp 1 n (ints ps)) : Calls Try.prog 65 #[vp] w (Post No w fun v _ => v = .int .i64 (cdP ps n)) := by
  have hpl := hp.len
  obtain ⟨A, c, rfl, _, _⟩ := hp.form0
  refine enter (n := 18) (args := [.slice A n c]) Try.func65 rfl rfl (St.empty _ _) ?_
  refine Run.seq ?_
  refine Run.region ?_
  refine Run.q (v := .int .i64 0) rfl (OpQ.y (OpY.pure rfl)) ?_
  refine Run.done ?_
  refine Run.seq ?_
  refine Run.region ?_
  refine Run.q (v := .int .i64 0) rfl (OpQ.y (OpY.pure rfl)) ?_
  refine Run.done ?_
  refine Run.seq ?_
  refine Run.seq ?_
  refine Run.region ?_
  refine Run.q (v := .slice A n c) rfl (OpQ.y (OpY.pure rfl)) ?_
  refine Run.q (v := .int .i64 (((n : Nat) : Int))) rfl (OpQ.y (OpY.len Tsl_28 rfl)) ?_
  refine Run.q (v := .int .i64 0) rfl (OpQ.y (OpY.pure rfl)) ?_
  refine Run.done ?_
  refine Run.block ?_
  refine Run.loop (ι := Nat) [3, 5, 8, 9, 10, 11, 12, 13, 14, 15, 16] (fun k => [(3, .int .i64 (cdP ps k)), (8, .int .i64 (((k : Nat) : Int)))]) (fun k => []) (fun k => k ≤ n ∧ (True)) (fun k => n - k) 0 ?_ ?_ ?_ ?_
  · exact ⟨Nat.zero_le _, by first | trivial | (intro i hi; omega)⟩
  · exact ⟨rfl, rfl, trivial⟩
  · exact (Some'.weak (.nil _))
  · rintro k fr hinv
    show Run _ _ (over _ _ [(3, .int .i64 (cdP ps k)), (8, .int .i64 (((k : Nat) : Int)))] fr) []
    try dsimp only at hinv
    refine Run.seq ?_
    refine Run.region ?_
    refine Run.q (v := .bool (decide ((((k : Nat) : Int)) < (((n : Nat) : Int))))) rfl (OpQ.y (OpY.pure rfl)) ?_
    refine Run.done ?_
    refine Run.seq ?_
    refine Run.cond (b := decide ((((k : Nat) : Int)) < (((n : Nat) : Int)))) rfl (fun h9 => ?_) (fun h9 => ?_)
    · have p9 := h9; try simp only [bs] at p9
      have hltk : k < n := by omega
      obtain ⟨b, o, rfl⟩ := hp.opn (by omega)
      have hcr := cdP_range hr k (by omega)
      have hp5 := pow5_le (k := k) (by omega)
      have hrk := hr k hltk
      refine Run.skip ?_
      refine Run.seq ?_
      refine Run.block ?_
      refine Run.seq ?_
      refine Run.region ?_
      refine Run.q (v := .pointer (some ⟨b, o + k, none⟩)) rfl (OpQ.y (OpY.index (kk := k) Tsl_28 rfl rfl (by omega) (by omega) (by first | rfl | omega))) ?_
      refine Run.q (v := .int .i64 (ix ps (k))) rfl (OpQ.y (OpY.load1 Tone_3 rfl (Cells.arg (k := k) hp rfl (by omega) (pre1 (by omega))))) ?_
      refine Run.q (v := .int .i64 (ix ps (k))) rfl (OpQ.y (OpY.pure rfl)) ?_
      refine Run.done ?_
      refine Run.region ?_
      refine Run.q (v := .int .i64 (cdP ps k)) rfl (OpQ.y (OpY.pure rfl)) ?_
      refine Run.q (v := .int .i64 (cdP ps k * 5)) rfl (OpQ.y (OpY.mul rfl rfl rfl (by omega) (by omega))) ?_
      refine Run.q (v := .int .i64 (ix ps (k))) rfl (OpQ.y (OpY.pure rfl)) ?_
      refine Run.q (v := .int .i64 ((cdP ps k * 5) + (ix ps (k)))) rfl (OpQ.y (OpY.add rfl rfl rfl (by omega) (by omega))) ?_
      refine Run.q (v := .int .i64 ((cdP ps k * 5) + (ix ps (k)))) rfl (OpQ.y (OpY.pure rfl)) ?_
      refine Run.done ?_
      refine Run.blockEnd ?_
      refine Run.region ?_
      refine Run.q (v := .int .i64 ((((k : Nat) : Int)) + 1)) rfl (OpQ.y (OpY.add rfl rfl rfl (by omega) (by omega))) ?_
      refine Run.q (v := .int .i64 ((((k : Nat) : Int)) + 1)) rfl (OpQ.y (OpY.pure rfl)) ?_
      refine Run.done ?_
      refine Run.goal ⟨(by repeat (first | exact Same.refl _ _ | refine Same.put rfl ?_ | refine Same.over rfl rfl ?_)), k + 1, ?_, ?_, ?_, ?_⟩
      · refine ⟨by omega, ?_⟩
        trivial
      · omega
      · exact ⟨(by first | rfl | (congr 1; omega) | simp), (by first | rfl | (congr 1; omega) | simp), trivial⟩
      · exact (Some'.weak (.nil _))
    · have p9 := h9; try simp only [bs] at p9
      have hknk : k = n := by omega
      refine Run.exit rfl ?_
      refine Run.seq ?_
      refine Run.region ?_
      refine Run.q (v := .int .i64 (cdP ps k)) rfl (OpQ.y (OpY.pure rfl)) ?_
      refine Run.q (v := .int .i64 (cdP ps k)) rfl (OpQ.y (OpY.pure rfl)) ?_
      refine Run.done ?_
      refine Run.ret ?_
      refine ⟨.int .i64 (cdP ps k), [], Out.one rfl rfl, (Some'.weak (.nil _)), ?_⟩
      show _ = _; rw [hknk]

set_option maxHeartbeats 1000000 in
set_option maxRecDepth 20000 in
theorem l23Mask_spec {vd : Value} {n : Nat} {ds : List Bool} {w : World} (h40 : n ≤ 40) (hd : Sl w vd 1 n (bls ds)) : Calls Try.prog 66 #[vd] w (Post No w fun v _ => v = .int .i64 ((mkD ds n : Nat) : Int)) := by
  have hdl := hd.blen
  obtain ⟨A, c, rfl, _, _⟩ := hd.form0
  refine enter (n := 21) (args := [.slice A n c]) Try.func66 rfl rfl (St.empty _ _) ?_
  refine Run.seq ?_
  refine Run.region ?_
  refine Run.q (v := .int .i64 0) rfl (OpQ.y (OpY.pure rfl)) ?_
  refine Run.done ?_
  refine Run.seq ?_
  refine Run.region ?_
  refine Run.q (v := .int .i64 0) rfl (OpQ.y (OpY.pure rfl)) ?_
  refine Run.done ?_
  refine Run.seq ?_
  refine Run.seq ?_
  refine Run.region ?_
  refine Run.q (v := .slice A n c) rfl (OpQ.y (OpY.pure rfl)) ?_
  refine Run.q (v := .int .i64 (((n : Nat) : Int))) rfl (OpQ.y (OpY.len Tsl_85 rfl)) ?_
  refine Run.q (v := .int .i64 0) rfl (OpQ.y (OpY.pure rfl)) ?_
  refine Run.done ?_
  refine Run.block ?_
  refine Run.loop (ι := Nat) [3, 4, 5, 8, 9, 10, 11, 12, 13, 14, 15, 16, 17, 18, 19] (fun k => [(3, .int .i64 (((mkD ds k : Nat) : Int))), (8, .int .i64 (((k : Nat) : Int)))]) (fun k => []) (fun k => k ≤ n) (fun k => n - k) 0 ?_ ?_ ?_ ?_
  · exact Nat.zero_le _
  · exact ⟨rfl, rfl, trivial⟩
  · exact (Some'.weak (.nil _))
  · rintro k fr hinv
    show Run _ _ (over _ _ [(3, .int .i64 (((mkD ds k : Nat) : Int))), (8, .int .i64 (((k : Nat) : Int)))] fr) []
    try dsimp only at hinv
    refine Run.seq ?_
    refine Run.region ?_
    refine Run.q (v := .bool (decide ((((k : Nat) : Int)) < (((n : Nat) : Int))))) rfl (OpQ.y (OpY.pure rfl)) ?_
    refine Run.done ?_
    refine Run.seq ?_
    refine Run.cond (b := decide ((((k : Nat) : Int)) < (((n : Nat) : Int)))) rfl (fun h9 => ?_) (fun h9 => ?_)
    · have p9 := h9; try simp only [bs] at p9
      have hltk : k < n := by omega
      have hmk := mkD_lt ds k
      have h2k := pow40_le (k := k) (by omega)
      obtain ⟨q, hq⟩ : ∃ q : Nat, q = 2 ^ k := ⟨_, rfl⟩
      rw [← hq] at hmk h2k
      obtain ⟨b, o, rfl⟩ := hd.opn (by omega)
      refine Run.skip ?_
      refine Run.seq ?_
      refine Run.block ?_
      refine Run.seq ?_
      refine Run.region ?_
      refine Run.q (v := .int .i64 (((k : Nat) : Int))) rfl (OpQ.y (OpY.pure rfl)) ?_
      refine Run.q (v := .pointer (some ⟨b, o + k, none⟩)) rfl (OpQ.y (OpY.index (kk := k) Tsl_85 rfl rfl (by omega) (by omega) (by first | rfl | omega))) ?_
      refine Run.q (v := .bool (bx ds (k))) rfl (OpQ.y (OpY.load1 Tone_4 rfl (Cells.arg (k := k) hd rfl (by omega) (preBl (by omega))))) ?_
      refine Run.q (v := .int .i64 (((k : Nat) : Int))) rfl (OpQ.y (OpY.pure rfl)) ?_
      refine Run.q (v := .bool (bx ds (k))) rfl (OpQ.y (OpY.pure rfl)) ?_
      refine Run.done ?_
      refine Run.seq ?_
      refine Run.region ?_
      refine Run.q (v := .bool (bx ds (k))) rfl (OpQ.y (OpY.pure rfl)) ?_
      refine Run.done ?_
      refine Run.cond (b := bx ds (k)) rfl (fun h13 => ?_) (fun h13 => ?_)
      · have p13 := h13; try simp only [bs] at p13
        refine Run.region ?_
        refine Run.q (v := .int .i64 (((mkD ds k : Nat) : Int))) rfl (OpQ.y (OpY.pure rfl)) ?_
        refine Run.q (v := .int .i64 (((k : Nat) : Int))) rfl (OpQ.y (OpY.pure rfl)) ?_
        refine Run.q (v := .int .u64 (((k : Nat) : Int))) rfl (OpQ.y (OpY.convIntEq Tsome_3 Tint_114 rfl (by rw [IntKind.wrap_u64]; omega))) ?_
        refine Run.q (v := .int .i64 (((q : Nat) : Int))) rfl (OpQ.y (OpY.shlOneB rfl rfl rfl (by omega) hq)) ?_
        refine Run.q (v := .int .i64 (((mkD ds k ||| q : Nat) : Int))) rfl (OpQ.y (OpY.orNatB rfl rfl rfl rfl (by omega) (by omega))) ?_
        refine Run.q (v := .int .i64 (((mkD ds k ||| q : Nat) : Int))) rfl (OpQ.y (OpY.pure rfl)) ?_
        refine Run.done ?_
        refine Run.blockEnd ?_
        refine Run.region ?_
        refine Run.q (v := .int .i64 ((((k : Nat) : Int)) + 1)) rfl (OpQ.y (OpY.add rfl rfl rfl (by omega) (by omega))) ?_
        refine Run.q (v := .int .i64 ((((k : Nat) : Int)) + 1)) rfl (OpQ.y (OpY.pure rfl)) ?_
        refine Run.done ?_
        refine Run.goal ⟨(by repeat (first | exact Same.refl _ _ | refine Same.put rfl ?_ | refine Same.over rfl rfl ?_)), k + 1, ?_, ?_, ?_, ?_⟩
        · exact hltk
        · omega
        · exact ⟨(by show Value.int _ _ = Value.int _ _; first | (rw [mkD, if_pos (by assumption), hq]; done) | (rw [mkD, if_neg (by simp_all)]; done)), (by first | rfl | (congr 1; omega) | simp), trivial⟩
        · exact (Some'.weak (.nil _))
      · have p13 := h13; try simp only [bs] at p13
        refine Run.skip ?_
        refine Run.blockEnd ?_
        refine Run.region ?_
        refine Run.q (v := .int .i64 ((((k : Nat) : Int)) + 1)) rfl (OpQ.y (OpY.add rfl rfl rfl (by omega) (by omega))) ?_
        refine Run.q (v := .int .i64 ((((k : Nat) : Int)) + 1)) rfl (OpQ.y (OpY.pure rfl)) ?_
        refine Run.done ?_
        refine Run.goal ⟨(by repeat (first | exact Same.refl _ _ | refine Same.put rfl ?_ | refine Same.over rfl rfl ?_)), k + 1, ?_, ?_, ?_, ?_⟩
        · exact hltk
        · omega
        · exact ⟨(by show Value.int _ _ = Value.int _ _; first | (rw [mkD, if_pos (by assumption), hq]; done) | (rw [mkD, if_neg (by simp_all)]; done)), (by first | rfl | (congr 1; omega) | simp), trivial⟩
        · exact (Some'.weak (.nil _))
    · have p9 := h9; try simp only [bs] at p9
      have hkn : k = n := by omega
      refine Run.exit rfl ?_
      refine Run.seq ?_
      refine Run.region ?_
      refine Run.q (v := .int .i64 (((mkD ds k : Nat) : Int))) rfl (OpQ.y (OpY.pure rfl)) ?_
      refine Run.q (v := .int .i64 (((mkD ds k : Nat) : Int))) rfl (OpQ.y (OpY.pure rfl)) ?_
      refine Run.done ?_
      refine Run.ret ?_
      refine ⟨.int .i64 (((mkD ds k : Nat) : Int)), [], Out.one rfl rfl, (Some'.weak (.nil _)), ?_⟩
      show _ = _; rw [hkn]

end Go.Proofs.Ytekikmdjldincaa
/- Walks: which routes are searched, swaps that are counted. -/
set_option linter.unusedSimpArgs false
set_option linter.unusedVariables false
namespace Go.Proofs.Ytekikmdjldincaa
open Go Go.RowKit
namespace LseT
theorem Tagg_101 : aggOf Try.prog 101 = some 3 := by kernel_rfl
theorem Tagg_35 : aggOf Try.prog 35 = some 2 := by kernel_rfl
theorem Tagg_39 : aggOf Try.prog 39 = some 2 := by kernel_rfl
theorem Tagg_81 : aggOf Try.prog 81 = some 3 := by kernel_rfl
theorem Tcall_56 : callable Try.prog 56 = true := by kernel_rfl
theorem Tcall_59 : callable Try.prog 59 = true := by kernel_rfl
theorem Tcall_60 : callable Try.prog 60 = true := by kernel_rfl
theorem Tcall_69 : callable Try.prog 69 = true := by kernel_rfl
theorem Tcall_70 : callable Try.prog 70 = true := by kernel_rfl
theorem Tcall_84 : callable Try.prog 84 = true := by kernel_rfl
theorem Tcall_85 : callable Try.prog 85 = true := by kernel_rfl
theorem Tcall_87 : callable Try.prog 87 = true := by kernel_rfl
theorem Tfo_101_0 : fieldOff Try.prog 101 0 = some 0 := by kernel_rfl
theorem Tfo_35_0 : fieldOff Try.prog 35 0 = some 0 := by kernel_rfl
theorem Tfo_39_1 : fieldOff Try.prog 39 1 = some 1 := by kernel_rfl
theorem Tfo_48_1 : fieldOff Try.prog 48 1 = some 1 := by kernel_rfl
theorem Tfo_81_0 : fieldOff Try.prog 81 0 = some 0 := by kernel_rfl
theorem Tone_3 : oneOf Try.prog 3 = true := by kernel_rfl
theorem Tone_37 : oneOf Try.prog 37 = true := by kernel_rfl
theorem Tone_46 : oneOf Try.prog 46 = true := by kernel_rfl
theorem Tsize_101 : (Try.prog.info? 101).map (·.size) = some 3 := by kernel_rfl
theorem Tsize_81 : (Try.prog.info? 81).map (·.size) = some 3 := by kernel_rfl
theorem Tsl_37 : sliceOf Try.prog 37 = some (81, 3, 24, [.int .i64 0, .int .i64 0, .int .i64 0]) := by kernel_rfl
theorem Tsl_46 : sliceOf Try.prog 46 = some (101, 3, 24, [.int .i64 0, .int .i64 0, .int .i64 0]) := by kernel_rfl
theorem Tzero_101 : zeroOf Try.prog 101 = some [.int .i64 0, .int .i64 0, .int .i64 0] := by kernel_rfl
theorem Tzero_81 : zeroOf Try.prog 81 = some [.int .i64 0, .int .i64 0, .int .i64 0] := by kernel_rfl
end LseT
open LseT
def smB (N : Int) (es : List Int) (m : Nat) (Q : Int) (xs : List Int) (n : Nat) : Bool := (((fitOk N es m Q xs n && decide (N ≤ 5)) && decide ((n : Int) ≤ 40)) && decide ((cnt2 xs n : Int) ≤ 12))
theorem fit_circ {N Q : Int} {es xs : List Int} {m n : Nat} (h : fitOk N es m Q xs n = true) : circOk Q xs n = true := by
  simp only [fitOk, Bool.and_eq_true] at h; exact h.1.2
/-- How many of the steps are swaps. -/
def swN (xs : List Int) : Nat → Nat
  | 0 => 0
  | k + 1 => if ix xs (k * 3) = -1 then swN xs k + 1 else swN xs k
theorem swN_le (xs : List Int) : ∀ k, swN xs k ≤ k
  | 0 => Nat.le_refl _
  | k + 1 => by have := swN_le xs k; rw [swN]; split <;> omega

set_option maxHeartbeats 1000000 in
set_option maxRecDepth 20000 in
theorem counted_spec {N : Int} {va : Value} {n : Nat} {xs : List Int} {w : World} (ha : Sl w va 3 n (ints xs)) : Calls Try.prog 84 #[.agg #[.int .i64 N, va], .func (.func 85) #[] #[]] w (Post No w fun v _ => v = .tuple #[.int .i64 (if circOk N xs n = true then ((cnt2 xs n : Nat) : Int) else 0), .bool (circOk N xs n)]) := by
  have hxl := ha.len
  have hn := ha.le
  obtain ⟨A, c, rfl, _, _⟩ := ha.form0
  refine enter (n := 27) (args := [.agg #[.int .i64 N, .slice A n c], .func (.func 85) #[] #[]]) Try.func84 rfl rfl (St.empty _ _) ?_
  refine Run.seq ?_
  refine Run.region ?_
  refine Run.step rfl (OpStep.box (us := [.int .i64 N, .slice A n c]) rfl fun b1 => ?_)
  refine Run.q (v := .int .i64 0) rfl (OpQ.y (OpY.pure rfl)) ?_
  refine Run.q (v := .bool false) rfl (OpQ.y (OpY.pure rfl)) ?_
  refine Run.done ?_
  refine Run.seq ?_
  refine Run.seq ?_
  refine Run.region ?_
  refine Run.q (v := .agg #[.int .i64 N, .slice A n c]) rfl (OpQ.y (OpY.loadN (cs := [.int .i64 N, .slice A n c]) Tagg_39 rfl (Cells.blk (.head _) ⟨rfl, rfl, trivial⟩))) ?_
  refine Run.q (v := .bool (circOk N xs n)) rfl (OpQ.call (vs := [.agg #[.int .i64 N, .slice A n c]]) (caps := []) Tcall_87 rfl rfl (fun w hs => IsValidCircuit_spec (hs.sl ha))) ?_
  refine Run.q (v := .bool (!(circOk N xs n))) rfl (OpQ.y (OpY.pure rfl)) ?_
  refine Run.done ?_
  refine Run.cond (b := !(circOk N xs n)) rfl (fun h11 => ?_) (fun h11 => ?_)
  · have p11 := h11; try simp only [bs] at p11
    have hbad : circOk N xs n = false := by simpa using p11
    refine Run.seq ?_
    refine Run.region ?_
    refine Run.q (v := .int .i64 0) rfl (OpQ.y (OpY.pure rfl)) ?_
    refine Run.q (v := .bool false) rfl (OpQ.y (OpY.pure rfl)) ?_
    refine Run.done ?_
    refine Run.ret ?_
    refine ⟨.tuple #[.int .i64 0, .bool false], [], Out.two rfl rfl rfl, (Some'.weak (.nil _)), ?_⟩
    show _ = _; rw [hbad]; rfl
  · have p11 := h11; try simp only [bs] at p11
    have hok : circOk N xs n = true := by simpa using p11
    have h400 := circOk_n hok
    refine Run.skip ?_
    refine Run.seq ?_
    refine Run.region ?_
    refine Run.q (v := .int .i64 0) rfl (OpQ.y (OpY.pure rfl)) ?_
    refine Run.done ?_
    refine Run.seq ?_
    refine Run.seq ?_
    refine Run.region ?_
    refine Run.q (v := .pointer (some ⟨b1, 1, none⟩)) rfl (OpQ.y (OpY.fieldAddr Tfo_39_1 rfl rfl)) ?_
    refine Run.q (v := .slice A n c) rfl (OpQ.y (OpY.load1 Tone_37 rfl (Cells.blk (.head _) ⟨rfl, trivial⟩))) ?_
    refine Run.q (v := .int .i64 (((n : Nat) : Int))) rfl (OpQ.y (OpY.len Tsl_37 rfl)) ?_
    refine Run.q (v := .int .i64 0) rfl (OpQ.y (OpY.pure rfl)) ?_
    refine Run.done ?_
    refine Run.block ?_
    refine Run.loop (ι := Nat) [6, 8, 15, 16, 17, 18, 19, 20, 21, 22, 23, 24, 25] (fun k => [(6, .int .i64 (((cnt2 xs k : Nat) : Int))), (15, .int .i64 (((k : Nat) : Int)))]) (fun k => [.blk b1 39 [.int .i64 N, .slice A n c]]) (fun k => k ≤ n ∧ (True)) (fun k => n - k) 0 ?_ ?_ ?_ ?_
    · exact ⟨Nat.zero_le _, by first | trivial | (intro i hi; omega)⟩
    · exact ⟨rfl, rfl, trivial⟩
    · exact (Some'.weak (.take (.nil _)))
    · rintro k fr hinv
      show Run _ _ (over _ _ [(6, .int .i64 (((cnt2 xs k : Nat) : Int))), (15, .int .i64 (((k : Nat) : Int)))] fr) [.blk b1 39 [.int .i64 N, .slice A n c]]
      try dsimp only at hinv
      refine Run.seq ?_
      refine Run.region ?_
      refine Run.q (v := .bool (decide ((((k : Nat) : Int)) < (((n : Nat) : Int))))) rfl (OpQ.y (OpY.pure rfl)) ?_
      refine Run.done ?_
      refine Run.seq ?_
      refine Run.cond (b := decide ((((k : Nat) : Int)) < (((n : Nat) : Int)))) rfl (fun h16 => ?_) (fun h16 => ?_)
      · have p16 := h16; try simp only [bs] at p16
        have hltk : k < n := by omega
        obtain ⟨b, o, rfl⟩ := ha.opn (by omega)
        have hcl := cnt2_le xs k
        refine Run.skip ?_
        refine Run.seq ?_
        refine Run.block ?_
        refine Run.seq ?_
        refine Run.region ?_
        refine Run.q (v := .pointer (some ⟨b, o + k * 3, none⟩)) rfl (OpQ.y (OpY.index (kk := k) Tsl_37 rfl rfl (by omega) (by omega) (by first | rfl | omega))) ?_
        refine Run.q (v := .agg #[.int .i64 (ix xs (k * 3)), .int .i64 (ix xs (k * 3 + 1)), .int .i64 (ix xs (k * 3 + 2))]) rfl (OpQ.y (OpY.loadN (cs := [.int .i64 (ix xs (k * 3)), .int .i64 (ix xs (k * 3 + 1)), .int .i64 (ix xs (k * 3 + 2))]) Tagg_81 rfl (Cells.arg (k := k * 3) ha rfl (by omega) (pre3 (by omega))))) ?_
        refine Run.step rfl (OpStep.alloc (zs := [.int .i64 0, .int .i64 0, .int .i64 0]) Tzero_81 fun b2 => ?_)
        refine Run.step rfl (OpStep.storeAll (us := [.int .i64 (ix xs (k * 3)), .int .i64 (ix xs (k * 3 + 1)), .int .i64 (ix xs (k * 3 + 2))]) Tsize_81 rfl rfl rfl (.here _) rfl ?_)
        refine Run.done ?_
        refine Run.seq ?_
        refine Run.region ?_
        refine Run.q (v := .func (.func 85) #[] #[]) rfl (OpQ.y (OpY.pure rfl)) ?_
        refine Run.q (v := .pointer (some ⟨b2, 0, none⟩)) rfl (OpQ.y (OpY.fieldAddr Tfo_81_0 rfl rfl)) ?_
        refine Run.q (v := .int .i64 (ix xs (k * 3))) rfl (OpQ.y (OpY.load1 Tone_3 rfl (Cells.blk (.head _) ⟨rfl, trivial⟩))) ?_
        refine Run.q (v := .bool (decide (9 ≤ ix xs (k * 3) ∧ ix xs (k * 3) ≤ 11))) rfl (OpQ.call (vs := [.int .i64 (ix xs (k * 3))]) (caps := []) Tcall_85 rfl rfl (fun w hs => isTwo_spec _ w)) ?_
        refine Run.done ?_
        refine Run.cond (b := decide (9 ≤ ix xs (k * 3) ∧ ix xs (k * 3) ≤ 11)) rfl (fun h22 => ?_) (fun h22 => ?_)
        · have p22 := h22; try simp only [bs] at p22
          have hnx : cnt2 xs (k + 1) = cnt2 xs k + 1 := by rw [cnt2, if_pos (by unfold isTwoI; exact h22)]
          refine Run.region ?_
          refine Run.q (v := .int .i64 (((cnt2 xs k : Nat) : Int))) rfl (OpQ.y (OpY.pure rfl)) ?_
          refine Run.q (v := .int .i64 ((((cnt2 xs k : Nat) : Int)) + 1)) rfl (OpQ.y (OpY.add rfl rfl rfl (by omega) (by omega))) ?_
          refine Run.q (v := .int .i64 ((((cnt2 xs k : Nat) : Int)) + 1)) rfl (OpQ.y (OpY.pure rfl)) ?_
          refine Run.done ?_
          refine Run.blockEnd ?_
          refine Run.region ?_
          refine Run.q (v := .int .i64 ((((k : Nat) : Int)) + 1)) rfl (OpQ.y (OpY.add rfl rfl rfl (by omega) (by omega))) ?_
          refine Run.q (v := .int .i64 ((((k : Nat) : Int)) + 1)) rfl (OpQ.y (OpY.pure rfl)) ?_
          refine Run.done ?_
          refine Run.goal ⟨(by repeat (first | exact Same.refl _ _ | refine Same.put rfl ?_ | refine Same.over rfl rfl ?_)), k + 1, ?_, ?_, ?_, ?_⟩
          · refine ⟨by omega, ?_⟩
            trivial
          · omega
          · exact ⟨(by show Value.int _ _ = Value.int _ _; rw [hnx] <;> first | done | rfl | (congr 1)), (by first | rfl | (congr 1; omega) | simp), trivial⟩
          · exact (Some'.weak (.skip (.takeEq (by first | rfl | simp) (.nil _))))
        · have p22 := h22; try simp only [bs] at p22
          have hnx : cnt2 xs (k + 1) = cnt2 xs k := by rw [cnt2, if_neg (by unfold isTwoI; rw [h22]; decide)]
          refine Run.skip ?_
          refine Run.blockEnd ?_
          refine Run.region ?_
          refine Run.q (v := .int .i64 ((((k : Nat) : Int)) + 1)) rfl (OpQ.y (OpY.add rfl rfl rfl (by omega) (by omega))) ?_
          refine Run.q (v := .int .i64 ((((k : Nat) : Int)) + 1)) rfl (OpQ.y (OpY.pure rfl)) ?_
          refine Run.done ?_
          refine Run.goal ⟨(by repeat (first | exact Same.refl _ _ | refine Same.put rfl ?_ | refine Same.over rfl rfl ?_)), k + 1, ?_, ?_, ?_, ?_⟩
          · refine ⟨by omega, ?_⟩
            trivial
          · omega
          · exact ⟨(by show Value.int _ _ = Value.int _ _; rw [hnx] <;> first | done | rfl | (congr 1)), (by first | rfl | (congr 1; omega) | simp), trivial⟩
          · exact (Some'.weak (.skip (.takeEq (by first | rfl | simp) (.nil _))))
      · have p16 := h16; try simp only [bs] at p16
        have hknk : k = n := by omega
        refine Run.exit rfl ?_
        refine Run.seq ?_
        refine Run.region ?_
        refine Run.q (v := .int .i64 (((cnt2 xs k : Nat) : Int))) rfl (OpQ.y (OpY.pure rfl)) ?_
        refine Run.q (v := .int .i64 (((cnt2 xs k : Nat) : Int))) rfl (OpQ.y (OpY.pure rfl)) ?_
        refine Run.q (v := .bool true) rfl (OpQ.y (OpY.pure rfl)) ?_
        refine Run.done ?_
        refine Run.ret ?_
        refine ⟨.tuple #[.int .i64 (((cnt2 xs k : Nat) : Int)), .bool true], [], Out.two rfl rfl rfl, (Some'.weak (.nil _)), ?_⟩
        show _ = _; rw [hok, hknk]; rfl

set_option maxHeartbeats 1000000 in
set_option maxRecDepth 20000 in
theorem CountTwo_spec {N : Int} {va : Value} {n : Nat} {xs : List Int} {w : World} (ha : Sl w va 3 n (ints xs)) : Calls Try.prog 69 #[.agg #[.int .i64 N, va]] w (Post No w fun v _ => v = .tuple #[.int .i64 (if circOk N xs n = true then ((cnt2 xs n : Nat) : Int) else 0), .bool (circOk N xs n)]) := by
  refine enter (n := 8) (args := [.agg #[.int .i64 N, va]]) Try.func69 rfl rfl (St.empty _ _) ?_
  refine Run.seq ?_
  refine Run.region ?_
  refine Run.step rfl (OpStep.box (us := [.int .i64 N, va]) rfl fun b1 => ?_)
  refine Run.q (v := .int .i64 0) rfl (OpQ.y (OpY.pure rfl)) ?_
  refine Run.q (v := .bool false) rfl (OpQ.y (OpY.pure rfl)) ?_
  refine Run.done ?_
  refine Run.seq ?_
  refine Run.region ?_
  refine Run.q (v := .agg #[.int .i64 N, va]) rfl (OpQ.y (OpY.loadN (cs := [.int .i64 N, va]) Tagg_39 rfl (Cells.blk (.head _) ⟨rfl, rfl, trivial⟩))) ?_
  refine Run.q (v := .tuple #[.int .i64 (if circOk N xs n = true then ((cnt2 xs n : Nat) : Int) else 0), .bool (circOk N xs n)]) rfl (OpQ.call (vs := [.agg #[.int .i64 N, va], .func (.func 85) #[] #[]]) (caps := []) Tcall_84 rfl rfl (fun w hs => counted_spec (hs.sl ha))) ?_
  refine Run.q (v := .int .i64 (if circOk N xs n = true then ((cnt2 xs n : Nat) : Int) else 0)) rfl (OpQ.y (OpY.pure rfl)) ?_
  refine Run.q (v := .bool (circOk N xs n)) rfl (OpQ.y (OpY.pure rfl)) ?_
  refine Run.q (v := .int .i64 (if circOk N xs n = true then ((cnt2 xs n : Nat) : Int) else 0)) rfl (OpQ.y (OpY.pure rfl)) ?_
  refine Run.q (v := .bool (circOk N xs n)) rfl (OpQ.y (OpY.pure rfl)) ?_
  refine Run.done ?_
  refine Run.ret ?_
  refine ⟨.tuple #[.int .i64 (if circOk N xs n = true then ((cnt2 xs n : Nat) : Int) else 0), .bool (circOk N xs n)], [], Out.two rfl rfl rfl, (Some'.weak (.nil _)), ?_⟩
  rfl

set_option maxHeartbeats 1000000 in
set_option maxRecDepth 20000 in
theorem canSearch_spec {N Q : Int} {vg va : Value} {m n : Nat} {es xs : List Int} {w : World} (hg : Sl w vg 2 m (ints es)) (ha : Sl w va 3 n (ints xs)) : Calls Try.prog 44 #[.agg #[.int .i64 N, vg], .agg #[.int .i64 Q, va]] w (Post No w fun v _ => v = .bool (smB N es m Q xs n)) := by
  have hxl := ha.len
  have hn := ha.le
  obtain ⟨A, c, rfl, _, _⟩ := ha.form0
  refine enter (n := 33) (args := [.agg #[.int .i64 N, vg], .agg #[.int .i64 Q, .slice A n c]]) Try.func44 rfl rfl (St.empty _ _) ?_
  refine Run.seq ?_
  refine Run.region ?_
  refine Run.step rfl (OpStep.box (us := [.int .i64 N, vg]) rfl fun b1 => ?_)
  refine Run.step rfl (OpStep.box (us := [.int .i64 Q, .slice A n c]) rfl fun b2 => ?_)
  refine Run.q (v := .bool false) rfl (OpQ.y (OpY.pure rfl)) ?_
  refine Run.done ?_
  refine Run.seq ?_
  refine Run.region ?_
  refine Run.q (v := .agg #[.int .i64 Q, .slice A n c]) rfl (OpQ.y (OpY.loadN (cs := [.int .i64 Q, .slice A n c]) Tagg_39 rfl (Cells.blk (.head _) ⟨rfl, rfl, trivial⟩))) ?_
  refine Run.q (v := .tuple #[.int .i64 (if circOk Q xs n = true then ((cnt2 xs n : Nat) : Int) else 0), .bool (circOk Q xs n)]) rfl (OpQ.call (vs := [.agg #[.int .i64 Q, .slice A n c]]) (caps := []) Tcall_69 rfl rfl (fun w hs => CountTwo_spec (hs.sl ha))) ?_
  refine Run.q (v := .tuple #[.int .i64 (if circOk Q xs n = true then ((cnt2 xs n : Nat) : Int) else 0), .bool (circOk Q xs n)]) rfl (OpQ.y (OpY.pure rfl)) ?_
  refine Run.q (v := .int .i64 (if circOk Q xs n = true then ((cnt2 xs n : Nat) : Int) else 0)) rfl (OpQ.y (OpY.pure rfl)) ?_
  refine Run.q (v := .bool (circOk Q xs n)) rfl (OpQ.y (OpY.pure rfl)) ?_
  refine Run.q (v := .int .i64 (if circOk Q xs n = true then ((cnt2 xs n : Nat) : Int) else 0)) rfl (OpQ.y (OpY.pure rfl)) ?_
  refine Run.q (v := .bool (circOk Q xs n)) rfl (OpQ.y (OpY.pure rfl)) ?_
  refine Run.done ?_
  refine Run.seq ?_
  refine Run.region ?_
  refine Run.q (v := .bool (circOk Q xs n)) rfl (OpQ.y (OpY.pure rfl)) ?_
  rcases Bool.eq_false_or_eq_true (circOk Q xs n) with h13 | h13
  · refine Run.q (v := .bool true) rfl (OpQ.y (OpY.moveB rfl h13)) ?_
    have p13 := h13; try simp only [bs] at p13
    refine Run.q (v := .agg #[.int .i64 N, vg]) rfl (OpQ.y (OpY.loadN (cs := [.int .i64 N, vg]) Tagg_35 rfl (Cells.blk (.tail _ (List.Mem.head _)) ⟨rfl, rfl, trivial⟩))) ?_
    refine Run.q (v := .agg #[.int .i64 Q, .slice A n c]) rfl (OpQ.y (OpY.loadN (cs := [.int .i64 Q, .slice A n c]) Tagg_39 rfl (Cells.blk (.head _) ⟨rfl, rfl, trivial⟩))) ?_
    refine Run.q (v := .bool (fitOk N es m Q xs n)) rfl (OpQ.call (vs := [.agg #[.int .i64 N, vg], .agg #[.int .i64 Q, .slice A n c]]) (caps := []) Tcall_70 rfl rfl (fun w hs => canRoute_spec (hs.sl hg) (hs.sl ha))) ?_
    refine Run.q (v := .bool (fitOk N es m Q xs n)) rfl (OpQ.y (OpY.pure rfl)) ?_
    rcases Bool.eq_false_or_eq_true (fitOk N es m Q xs n) with h18 | h18
    · refine Run.q (v := .bool true) rfl (OpQ.y (OpY.moveB rfl h18)) ?_
      have p18 := h18; try simp only [bs] at p18
      refine Run.q (v := .pointer (some ⟨b1, 0, none⟩)) rfl (OpQ.y (OpY.fieldAddr Tfo_35_0 rfl rfl)) ?_
      refine Run.q (v := .int .i64 N) rfl (OpQ.y (OpY.load1 Tone_3 rfl (Cells.blk (.tail _ (List.Mem.head _)) ⟨rfl, trivial⟩))) ?_
      refine Run.q (v := .bool (decide (N ≤ 5))) rfl (OpQ.y (OpY.pure rfl)) ?_
      refine Run.q (v := .bool (decide (N ≤ 5))) rfl (OpQ.y (OpY.pure rfl)) ?_
      rcases Bool.eq_false_or_eq_true (decide (N ≤ 5)) with h23 | h23
      · refine Run.q (v := .bool true) rfl (OpQ.y (OpY.moveB rfl h23)) ?_
        have p23 := h23; try simp only [bs] at p23
        refine Run.q (v := .pointer (some ⟨b2, 1, none⟩)) rfl (OpQ.y (OpY.fieldAddr Tfo_39_1 rfl rfl)) ?_
        refine Run.q (v := .slice A n c) rfl (OpQ.y (OpY.load1 Tone_37 rfl (Cells.blk (.head _) ⟨rfl, trivial⟩))) ?_
        refine Run.q (v := .int .i64 (((n : Nat) : Int))) rfl (OpQ.y (OpY.len Tsl_37 rfl)) ?_
        refine Run.q (v := .bool (decide ((((n : Nat) : Int)) ≤ 40))) rfl (OpQ.y (OpY.pure rfl)) ?_
        refine Run.q (v := .bool (decide ((((n : Nat) : Int)) ≤ 40))) rfl (OpQ.y (OpY.pure rfl)) ?_
        rcases Bool.eq_false_or_eq_true (decide ((((n : Nat) : Int)) ≤ 40)) with h29 | h29
        · refine Run.q (v := .bool true) rfl (OpQ.y (OpY.moveB rfl h29)) ?_
          have p29 := h29; try simp only [bs] at p29
          refine Run.q (v := .int .i64 (if circOk Q xs n = true then ((cnt2 xs n : Nat) : Int) else 0)) rfl (OpQ.y (OpY.pure rfl)) ?_
          refine Run.q (v := .bool (decide ((if circOk Q xs n = true then ((cnt2 xs n : Nat) : Int) else 0) ≤ 12))) rfl (OpQ.y (OpY.pure rfl)) ?_
          refine Run.q (v := .bool (decide ((if circOk Q xs n = true then ((cnt2 xs n : Nat) : Int) else 0) ≤ 12))) rfl (OpQ.y (OpY.pure rfl)) ?_
          refine Run.q (v := .bool (decide ((if circOk Q xs n = true then ((cnt2 xs n : Nat) : Int) else 0) ≤ 12))) rfl (OpQ.y (OpY.pure rfl)) ?_
          refine Run.done ?_
          refine Run.ret ?_
          refine ⟨.bool (decide ((if circOk Q xs n = true then ((cnt2 xs n : Nat) : Int) else 0) ≤ 12)), [], Out.one rfl rfl, (Some'.weak (.nil _)), ?_⟩
          show Value.bool _ = Value.bool _
          unfold smB
          cases hf : fitOk N es m Q xs n with
          | false => simp_all
          | true => have hc := fit_circ hf; simp_all <;> (intros; omega)
        · refine Run.q (v := .bool false) rfl (OpQ.y (OpY.moveB rfl h29)) ?_
          have p29 := h29; try simp only [bs] at p29
          refine Run.pass rfl ?_
          refine Run.pass rfl ?_
          refine Run.q (v := .bool false) rfl (OpQ.y (OpY.pure rfl)) ?_
          refine Run.q (v := .bool false) rfl (OpQ.y (OpY.pure rfl)) ?_
          refine Run.done ?_
          refine Run.ret ?_
          refine ⟨.bool false, [], Out.one rfl rfl, (Some'.weak (.nil _)), ?_⟩
          show Value.bool _ = Value.bool _
          unfold smB
          cases hf : fitOk N es m Q xs n with
          | false => simp_all
          | true => have hc := fit_circ hf; simp_all <;> (intros; omega)
      · refine Run.q (v := .bool false) rfl (OpQ.y (OpY.moveB rfl h23)) ?_
        have p23 := h23; try simp only [bs] at p23
        refine Run.pass rfl ?_
        refine Run.pass rfl ?_
        refine Run.pass rfl ?_
        refine Run.pass rfl ?_
        refine Run.q (v := .bool false) rfl (OpQ.y (OpY.pure rfl)) ?_
        refine Run.q (v := .bool false) rfl (OpQ.y (OpY.pure rfl)) ?_
        refine Run.pass rfl ?_
        refine Run.pass rfl ?_
        refine Run.q (v := .bool false) rfl (OpQ.y (OpY.pure rfl)) ?_
        refine Run.q (v := .bool false) rfl (OpQ.y (OpY.pure rfl)) ?_
        refine Run.done ?_
        refine Run.ret ?_
        refine ⟨.bool false, [], Out.one rfl rfl, (Some'.weak (.nil _)), ?_⟩
        show Value.bool _ = Value.bool _
        unfold smB
        cases hf : fitOk N es m Q xs n with
        | false => simp_all
        | true => have hc := fit_circ hf; simp_all <;> (intros; omega)
    · refine Run.q (v := .bool false) rfl (OpQ.y (OpY.moveB rfl h18)) ?_
      have p18 := h18; try simp only [bs] at p18
      refine Run.pass rfl ?_
      refine Run.pass rfl ?_
      refine Run.pass rfl ?_
      refine Run.q (v := .bool false) rfl (OpQ.y (OpY.pure rfl)) ?_
      refine Run.q (v := .bool false) rfl (OpQ.y (OpY.pure rfl)) ?_
      refine Run.pass rfl ?_
      refine Run.pass rfl ?_
      refine Run.pass rfl ?_
      refine Run.pass rfl ?_
      refine Run.q (v := .bool false) rfl (OpQ.y (OpY.pure rfl)) ?_
      refine Run.q (v := .bool false) rfl (OpQ.y (OpY.pure rfl)) ?_
      refine Run.pass rfl ?_
      refine Run.pass rfl ?_
      refine Run.q (v := .bool false) rfl (OpQ.y (OpY.pure rfl)) ?_
      refine Run.q (v := .bool false) rfl (OpQ.y (OpY.pure rfl)) ?_
      refine Run.done ?_
      refine Run.ret ?_
      refine ⟨.bool false, [], Out.one rfl rfl, (Some'.weak (.nil _)), ?_⟩
      show Value.bool _ = Value.bool _
      unfold smB
      cases hf : fitOk N es m Q xs n with
      | false => simp_all
      | true => have hc := fit_circ hf; simp_all <;> (intros; omega)
  · refine Run.q (v := .bool false) rfl (OpQ.y (OpY.moveB rfl h13)) ?_
    have p13 := h13; try simp only [bs] at p13
    refine Run.pass rfl ?_
    refine Run.pass rfl ?_
    refine Run.pass rfl ?_
    refine Run.q (v := .bool false) rfl (OpQ.y (OpY.pure rfl)) ?_
    refine Run.q (v := .bool false) rfl (OpQ.y (OpY.pure rfl)) ?_
    refine Run.pass rfl ?_
    refine Run.pass rfl ?_
    refine Run.pass rfl ?_
    refine Run.q (v := .bool false) rfl (OpQ.y (OpY.pure rfl)) ?_
    refine Run.q (v := .bool false) rfl (OpQ.y (OpY.pure rfl)) ?_
    refine Run.pass rfl ?_
    refine Run.pass rfl ?_
    refine Run.pass rfl ?_
    refine Run.pass rfl ?_
    refine Run.q (v := .bool false) rfl (OpQ.y (OpY.pure rfl)) ?_
    refine Run.q (v := .bool false) rfl (OpQ.y (OpY.pure rfl)) ?_
    refine Run.pass rfl ?_
    refine Run.pass rfl ?_
    refine Run.q (v := .bool false) rfl (OpQ.y (OpY.pure rfl)) ?_
    refine Run.q (v := .bool false) rfl (OpQ.y (OpY.pure rfl)) ?_
    refine Run.done ?_
    refine Run.ret ?_
    refine ⟨.bool false, [], Out.one rfl rfl, (Some'.weak (.nil _)), ?_⟩
    show Value.bool _ = Value.bool _
    unfold smB
    cases hf : fitOk N es m Q xs n with
    | false => simp_all
    | true => have hc := fit_circ hf; simp_all <;> (intros; omega)

set_option maxHeartbeats 1000000 in
set_option maxRecDepth 20000 in
theorem l23Small_spec {N Q : Int} {vg va : Value} {m n : Nat} {es xs : List Int} {w : World} (hN : In64 N) (hw : ∀ x ∈ es, In64 x) (hg : Sl w vg 2 m (ints es)) (ha : Sl w va 3 n (ints xs)) : Calls Try.prog 34 #[.agg #[.int .i64 N, vg], .agg #[.int .i64 Q, va]] w (Post No w fun v _ => v = .bool (smB N es m Q xs n)) := by
  have hxl := ha.len
  have hn := ha.le
  obtain ⟨A, c, rfl, _, _⟩ := ha.form0
  refine enter (n := 38) (args := [.agg #[.int .i64 N, vg], .agg #[.int .i64 Q, .slice A n c]]) Try.func34 rfl rfl (St.empty _ _) ?_
  refine Run.seq ?_
  refine Run.region ?_
  refine Run.step rfl (OpStep.box (us := [.int .i64 N, vg]) rfl fun b1 => ?_)
  refine Run.step rfl (OpStep.box (us := [.int .i64 Q, .slice A n c]) rfl fun b2 => ?_)
  refine Run.q (v := .bool false) rfl (OpQ.y (OpY.pure rfl)) ?_
  refine Run.done ?_
  refine Run.seq ?_
  refine Run.region ?_
  refine Run.q (v := .int .i64 0) rfl (OpQ.y (OpY.pure rfl)) ?_
  refine Run.done ?_
  refine Run.seq ?_
  refine Run.seq ?_
  refine Run.region ?_
  refine Run.q (v := .pointer (some ⟨b2, 1, none⟩)) rfl (OpQ.y (OpY.fieldAddr Tfo_39_1 rfl rfl)) ?_
  refine Run.q (v := .slice A n c) rfl (OpQ.y (OpY.load1 Tone_37 rfl (Cells.blk (.head _) ⟨rfl, trivial⟩))) ?_
  refine Run.q (v := .int .i64 (((n : Nat) : Int))) rfl (OpQ.y (OpY.len Tsl_37 rfl)) ?_
  refine Run.q (v := .int .i64 0) rfl (OpQ.y (OpY.pure rfl)) ?_
  refine Run.done ?_
  refine Run.block ?_
  refine Run.loop (ι := Nat) [5, 7, 11, 12, 13, 14, 15, 16, 17, 18, 19] (fun k => [(5, .int .i64 (((cnt2 xs k : Nat) : Int))), (11, .int .i64 (((k : Nat) : Int)))]) (fun k => [.blk b2 39 [.int .i64 Q, .slice A n c], .blk b1 35 [.int .i64 N, vg]]) (fun k => k ≤ n ∧ (True)) (fun k => n - k) 0 ?_ ?_ ?_ ?_
  · exact ⟨Nat.zero_le _, by first | trivial | (intro i hi; omega)⟩
  · exact ⟨rfl, rfl, trivial⟩
  · exact (Some'.weak (.take (.take (.nil _))))
  · rintro k fr hinv
    show Run _ _ (over _ _ [(5, .int .i64 (((cnt2 xs k : Nat) : Int))), (11, .int .i64 (((k : Nat) : Int)))] fr) [.blk b2 39 [.int .i64 Q, .slice A n c], .blk b1 35 [.int .i64 N, vg]]
    try dsimp only at hinv
    refine Run.seq ?_
    refine Run.region ?_
    refine Run.q (v := .bool (decide ((((k : Nat) : Int)) < (((n : Nat) : Int))))) rfl (OpQ.y (OpY.pure rfl)) ?_
    refine Run.done ?_
    refine Run.seq ?_
    refine Run.cond (b := decide ((((k : Nat) : Int)) < (((n : Nat) : Int)))) rfl (fun h12 => ?_) (fun h12 => ?_)
    · have p12 := h12; try simp only [bs] at p12
      have hltk : k < n := by omega
      obtain ⟨b, o, rfl⟩ := ha.opn (by omega)
      have hcl := cnt2_le xs k
      refine Run.skip ?_
      refine Run.seq ?_
      refine Run.block ?_
      refine Run.seq ?_
      refine Run.region ?_
      refine Run.q (v := .pointer (some ⟨b, o + k * 3, none⟩)) rfl (OpQ.y (OpY.index (kk := k) Tsl_37 rfl rfl (by omega) (by omega) (by first | rfl | omega))) ?_
      refine Run.q (v := .agg #[.int .i64 (ix xs (k * 3)), .int .i64 (ix xs (k * 3 + 1)), .int .i64 (ix xs (k * 3 + 2))]) rfl (OpQ.y (OpY.loadN (cs := [.int .i64 (ix xs (k * 3)), .int .i64 (ix xs (k * 3 + 1)), .int .i64 (ix xs (k * 3 + 2))]) Tagg_81 rfl (Cells.arg (k := k * 3) ha rfl (by omega) (pre3 (by omega))))) ?_
      refine Run.step rfl (OpStep.alloc (zs := [.int .i64 0, .int .i64 0, .int .i64 0]) Tzero_81 fun b3 => ?_)
      refine Run.step rfl (OpStep.storeAll (us := [.int .i64 (ix xs (k * 3)), .int .i64 (ix xs (k * 3 + 1)), .int .i64 (ix xs (k * 3 + 2))]) Tsize_81 rfl rfl rfl (.here _) rfl ?_)
      refine Run.done ?_
      refine Run.seq ?_
      refine Run.region ?_
      refine Run.q (v := .agg #[.int .i64 (ix xs (k * 3)), .int .i64 (ix xs (k * 3 + 1)), .int .i64 (ix xs (k * 3 + 2))]) rfl (OpQ.y (OpY.loadN (cs := [.int .i64 (ix xs (k * 3)), .int .i64 (ix xs (k * 3 + 1)), .int .i64 (ix xs (k * 3 + 2))]) Tagg_81 rfl (Cells.blk (.head _) ⟨rfl, rfl, rfl, trivial⟩))) ?_
      refine Run.q (v := .bool (decide (9 ≤ ix xs (k * 3) ∧ ix xs (k * 3) ≤ 11))) rfl (OpQ.call (vs := [.agg #[.int .i64 (ix xs (k * 3)), .int .i64 (ix xs (k * 3 + 1)), .int .i64 (ix xs (k * 3 + 2))]]) (caps := []) Tcall_59 rfl rfl (fun w hs => l22Two_spec _ _ _ w)) ?_
      refine Run.done ?_
      refine Run.cond (b := decide (9 ≤ ix xs (k * 3) ∧ ix xs (k * 3) ≤ 11)) rfl (fun h16 => ?_) (fun h16 => ?_)
      · have p16 := h16; try simp only [bs] at p16
        have hnx : cnt2 xs (k + 1) = cnt2 xs k + 1 := by rw [cnt2, if_pos (by unfold isTwoI; exact h16)]
        refine Run.region ?_
        refine Run.q (v := .int .i64 (((cnt2 xs k : Nat) : Int))) rfl (OpQ.y (OpY.pure rfl)) ?_
        refine Run.q (v := .int .i64 ((((cnt2 xs k : Nat) : Int)) + 1)) rfl (OpQ.y (OpY.add rfl rfl rfl (by omega) (by omega))) ?_
        refine Run.q (v := .int .i64 ((((cnt2 xs k : Nat) : Int)) + 1)) rfl (OpQ.y (OpY.pure rfl)) ?_
        refine Run.done ?_
        refine Run.blockEnd ?_
        refine Run.region ?_
        refine Run.q (v := .int .i64 ((((k : Nat) : Int)) + 1)) rfl (OpQ.y (OpY.add rfl rfl rfl (by omega) (by omega))) ?_
        refine Run.q (v := .int .i64 ((((k : Nat) : Int)) + 1)) rfl (OpQ.y (OpY.pure rfl)) ?_
        refine Run.done ?_
        refine Run.goal ⟨(by repeat (first | exact Same.refl _ _ | refine Same.put rfl ?_ | refine Same.over rfl rfl ?_)), k + 1, ?_, ?_, ?_, ?_⟩
        · refine ⟨by omega, ?_⟩
          trivial
        · omega
        · exact ⟨(by show Value.int _ _ = Value.int _ _; rw [hnx] <;> first | done | rfl | (congr 1)), (by first | rfl | (congr 1; omega) | simp), trivial⟩
        · exact (Some'.weak (.skip (.takeEq (by first | rfl | simp) (.take (.nil _)))))
      · have p16 := h16; try simp only [bs] at p16
        have hnx : cnt2 xs (k + 1) = cnt2 xs k := by rw [cnt2, if_neg (by unfold isTwoI; rw [h16]; decide)]
        refine Run.skip ?_
        refine Run.blockEnd ?_
        refine Run.region ?_
        refine Run.q (v := .int .i64 ((((k : Nat) : Int)) + 1)) rfl (OpQ.y (OpY.add rfl rfl rfl (by omega) (by omega))) ?_
        refine Run.q (v := .int .i64 ((((k : Nat) : Int)) + 1)) rfl (OpQ.y (OpY.pure rfl)) ?_
        refine Run.done ?_
        refine Run.goal ⟨(by repeat (first | exact Same.refl _ _ | refine Same.put rfl ?_ | refine Same.over rfl rfl ?_)), k + 1, ?_, ?_, ?_, ?_⟩
        · refine ⟨by omega, ?_⟩
          trivial
        · omega
        · exact ⟨(by show Value.int _ _ = Value.int _ _; rw [hnx] <;> first | done | rfl | (congr 1)), (by first | rfl | (congr 1; omega) | simp), trivial⟩
        · exact (Some'.weak (.skip (.takeEq (by first | rfl | simp) (.take (.nil _)))))
    · have p12 := h12; try simp only [bs] at p12
      have hknk : k = n := by omega
      refine Run.exit rfl ?_
      refine Run.seq ?_
      refine Run.region ?_
      refine Run.q (v := .agg #[.int .i64 N, vg]) rfl (OpQ.y (OpY.loadN (cs := [.int .i64 N, vg]) Tagg_35 rfl (Cells.blk (.tail _ (List.Mem.head _)) ⟨rfl, rfl, trivial⟩))) ?_
      refine Run.q (v := .agg #[.int .i64 Q, .slice A n c]) rfl (OpQ.y (OpY.loadN (cs := [.int .i64 Q, .slice A n c]) Tagg_39 rfl (Cells.blk (.head _) ⟨rfl, rfl, trivial⟩))) ?_
      refine Run.q (v := .bool (fitOk N es m Q xs n)) rfl (OpQ.call (vs := [.agg #[.int .i64 N, vg], .agg #[.int .i64 Q, .slice A n c]]) (caps := []) Tcall_60 rfl rfl (fun w hs => l23Fits_spec hN hw (hs.sl hg) (hs.sl ha))) ?_
      rcases Bool.eq_false_or_eq_true (fitOk N es m Q xs n) with h23 | h23
      · refine Run.q (v := .bool true) rfl (OpQ.y (OpY.moveB rfl h23)) ?_
        have p23 := h23; try simp only [bs] at p23
        refine Run.q (v := .pointer (some ⟨b1, 0, none⟩)) rfl (OpQ.y (OpY.fieldAddr Tfo_35_0 rfl rfl)) ?_
        refine Run.q (v := .int .i64 N) rfl (OpQ.y (OpY.load1 Tone_3 rfl (Cells.blk (.tail _ (List.Mem.head _)) ⟨rfl, trivial⟩))) ?_
        refine Run.q (v := .bool (decide (N ≤ 5))) rfl (OpQ.y (OpY.pure rfl)) ?_
        refine Run.q (v := .bool (decide (N ≤ 5))) rfl (OpQ.y (OpY.pure rfl)) ?_
        rcases Bool.eq_false_or_eq_true (decide (N ≤ 5)) with h28 | h28
        · refine Run.q (v := .bool true) rfl (OpQ.y (OpY.moveB rfl h28)) ?_
          have p28 := h28; try simp only [bs] at p28
          refine Run.q (v := .pointer (some ⟨b2, 1, none⟩)) rfl (OpQ.y (OpY.fieldAddr Tfo_39_1 rfl rfl)) ?_
          refine Run.q (v := .slice A n c) rfl (OpQ.y (OpY.load1 Tone_37 rfl (Cells.blk (.head _) ⟨rfl, trivial⟩))) ?_
          refine Run.q (v := .int .i64 (((n : Nat) : Int))) rfl (OpQ.y (OpY.len Tsl_37 rfl)) ?_
          refine Run.q (v := .bool (decide ((((n : Nat) : Int)) ≤ 40))) rfl (OpQ.y (OpY.pure rfl)) ?_
          refine Run.q (v := .bool (decide ((((n : Nat) : Int)) ≤ 40))) rfl (OpQ.y (OpY.pure rfl)) ?_
          rcases Bool.eq_false_or_eq_true (decide ((((n : Nat) : Int)) ≤ 40)) with h34 | h34
          · refine Run.q (v := .bool true) rfl (OpQ.y (OpY.moveB rfl h34)) ?_
            have p34 := h34; try simp only [bs] at p34
            refine Run.q (v := .int .i64 (((cnt2 xs k : Nat) : Int))) rfl (OpQ.y (OpY.pure rfl)) ?_
            refine Run.q (v := .bool (decide ((((cnt2 xs k : Nat) : Int)) ≤ 12))) rfl (OpQ.y (OpY.pure rfl)) ?_
            refine Run.q (v := .bool (decide ((((cnt2 xs k : Nat) : Int)) ≤ 12))) rfl (OpQ.y (OpY.pure rfl)) ?_
            refine Run.q (v := .bool (decide ((((cnt2 xs k : Nat) : Int)) ≤ 12))) rfl (OpQ.y (OpY.pure rfl)) ?_
            refine Run.done ?_
            refine Run.ret ?_
            refine ⟨.bool (decide ((((cnt2 xs k : Nat) : Int)) ≤ 12)), [], Out.one rfl rfl, (Some'.weak (.nil _)), ?_⟩
            show Value.bool _ = Value.bool _
            unfold smB
            cases hf : fitOk N es m Q xs n with
            | false => simp_all
            | true => simp_all <;> (intros; omega)
          · refine Run.q (v := .bool false) rfl (OpQ.y (OpY.moveB rfl h34)) ?_
            have p34 := h34; try simp only [bs] at p34
            refine Run.pass rfl ?_
            refine Run.pass rfl ?_
            refine Run.q (v := .bool false) rfl (OpQ.y (OpY.pure rfl)) ?_
            refine Run.q (v := .bool false) rfl (OpQ.y (OpY.pure rfl)) ?_
            refine Run.done ?_
            refine Run.ret ?_
            refine ⟨.bool false, [], Out.one rfl rfl, (Some'.weak (.nil _)), ?_⟩
            show Value.bool _ = Value.bool _
            unfold smB
            cases hf : fitOk N es m Q xs n with
            | false => simp_all
            | true => simp_all <;> (intros; omega)
        · refine Run.q (v := .bool false) rfl (OpQ.y (OpY.moveB rfl h28)) ?_
          have p28 := h28; try simp only [bs] at p28
          refine Run.pass rfl ?_
          refine Run.pass rfl ?_
          refine Run.pass rfl ?_
          refine Run.pass rfl ?_
          refine Run.q (v := .bool false) rfl (OpQ.y (OpY.pure rfl)) ?_
          refine Run.q (v := .bool false) rfl (OpQ.y (OpY.pure rfl)) ?_
          refine Run.pass rfl ?_
          refine Run.pass rfl ?_
          refine Run.q (v := .bool false) rfl (OpQ.y (OpY.pure rfl)) ?_
          refine Run.q (v := .bool false) rfl (OpQ.y (OpY.pure rfl)) ?_
          refine Run.done ?_
          refine Run.ret ?_
          refine ⟨.bool false, [], Out.one rfl rfl, (Some'.weak (.nil _)), ?_⟩
          show Value.bool _ = Value.bool _
          unfold smB
          cases hf : fitOk N es m Q xs n with
          | false => simp_all
          | true => simp_all <;> (intros; omega)
      · refine Run.q (v := .bool false) rfl (OpQ.y (OpY.moveB rfl h23)) ?_
        have p23 := h23; try simp only [bs] at p23
        refine Run.pass rfl ?_
        refine Run.pass rfl ?_
        refine Run.pass rfl ?_
        refine Run.q (v := .bool false) rfl (OpQ.y (OpY.pure rfl)) ?_
        refine Run.q (v := .bool false) rfl (OpQ.y (OpY.pure rfl)) ?_
        refine Run.pass rfl ?_
        refine Run.pass rfl ?_
        refine Run.pass rfl ?_
        refine Run.pass rfl ?_
        refine Run.q (v := .bool false) rfl (OpQ.y (OpY.pure rfl)) ?_
        refine Run.q (v := .bool false) rfl (OpQ.y (OpY.pure rfl)) ?_
        refine Run.pass rfl ?_
        refine Run.pass rfl ?_
        refine Run.q (v := .bool false) rfl (OpQ.y (OpY.pure rfl)) ?_
        refine Run.q (v := .bool false) rfl (OpQ.y (OpY.pure rfl)) ?_
        refine Run.done ?_
        refine Run.ret ?_
        refine ⟨.bool false, [], Out.one rfl rfl, (Some'.weak (.nil _)), ?_⟩
        show Value.bool _ = Value.bool _
        unfold smB
        cases hf : fitOk N es m Q xs n with
        | false => simp_all
        | true => simp_all <;> (intros; omega)

set_option maxHeartbeats 1000000 in
set_option maxRecDepth 20000 in
theorem swapsIn_spec {vb va : Value} {n : Nat} {xs : List Int} {w : World} (ha : Sl w va 3 n (ints xs)) : Calls Try.prog 31 #[.agg #[vb, va]] w (Post No w fun v _ => v = .int .i64 ((swN xs n : Nat) : Int)) := by
  have hxl := ha.len
  have hn := ha.le
  obtain ⟨A, c, rfl, _, _⟩ := ha.form0
  refine enter (n := 21) (args := [.agg #[vb, .slice A n c]]) Try.func31 rfl rfl (St.empty _ _) ?_
  refine Run.seq ?_
  refine Run.region ?_
  refine Run.step rfl (OpStep.box (us := [vb, .slice A n c]) rfl fun b1 => ?_)
  refine Run.q (v := .int .i64 0) rfl (OpQ.y (OpY.pure rfl)) ?_
  refine Run.done ?_
  refine Run.seq ?_
  refine Run.region ?_
  refine Run.q (v := .int .i64 0) rfl (OpQ.y (OpY.pure rfl)) ?_
  refine Run.done ?_
  refine Run.seq ?_
  refine Run.seq ?_
  refine Run.region ?_
  refine Run.q (v := .pointer (some ⟨b1, 1, none⟩)) rfl (OpQ.y (OpY.fieldAddr Tfo_48_1 rfl rfl)) ?_
  refine Run.q (v := .slice A n c) rfl (OpQ.y (OpY.load1 Tone_46 rfl (Cells.blk (.head _) ⟨rfl, trivial⟩))) ?_
  refine Run.q (v := .int .i64 (((n : Nat) : Int))) rfl (OpQ.y (OpY.len Tsl_46 rfl)) ?_
  refine Run.q (v := .int .i64 0) rfl (OpQ.y (OpY.pure rfl)) ?_
  refine Run.done ?_
  refine Run.block ?_
  refine Run.loop (ι := Nat) [3, 5, 9, 10, 11, 12, 13, 14, 15, 16, 17, 18, 19] (fun k => [(3, .int .i64 (((swN xs k : Nat) : Int))), (9, .int .i64 (((k : Nat) : Int)))]) (fun k => [.blk b1 48 [vb, .slice A n c]]) (fun k => k ≤ n ∧ (True)) (fun k => n - k) 0 ?_ ?_ ?_ ?_
  · exact ⟨Nat.zero_le _, by first | trivial | (intro i hi; omega)⟩
  · exact ⟨rfl, rfl, trivial⟩
  · exact (Some'.weak (.take (.nil _)))
  · rintro k fr hinv
    show Run _ _ (over _ _ [(3, .int .i64 (((swN xs k : Nat) : Int))), (9, .int .i64 (((k : Nat) : Int)))] fr) [.blk b1 48 [vb, .slice A n c]]
    try dsimp only at hinv
    refine Run.seq ?_
    refine Run.region ?_
    refine Run.q (v := .bool (decide ((((k : Nat) : Int)) < (((n : Nat) : Int))))) rfl (OpQ.y (OpY.pure rfl)) ?_
    refine Run.done ?_
    refine Run.seq ?_
    refine Run.cond (b := decide ((((k : Nat) : Int)) < (((n : Nat) : Int)))) rfl (fun h10 => ?_) (fun h10 => ?_)
    · have p10 := h10; try simp only [bs] at p10
      have hltk : k < n := by omega
      obtain ⟨b, o, rfl⟩ := ha.opn (by omega)
      have hcl := swN_le xs k
      refine Run.skip ?_
      refine Run.seq ?_
      refine Run.block ?_
      refine Run.seq ?_
      refine Run.region ?_
      refine Run.q (v := .pointer (some ⟨b, o + k * 3, none⟩)) rfl (OpQ.y (OpY.index (kk := k) Tsl_46 rfl rfl (by omega) (by omega) (by first | rfl | omega))) ?_
      refine Run.q (v := .agg #[.int .i64 (ix xs (k * 3)), .int .i64 (ix xs (k * 3 + 1)), .int .i64 (ix xs (k * 3 + 2))]) rfl (OpQ.y (OpY.loadN (cs := [.int .i64 (ix xs (k * 3)), .int .i64 (ix xs (k * 3 + 1)), .int .i64 (ix xs (k * 3 + 2))]) Tagg_101 rfl (Cells.arg (k := k * 3) ha rfl (by omega) (pre3 (by omega))))) ?_
      refine Run.step rfl (OpStep.alloc (zs := [.int .i64 0, .int .i64 0, .int .i64 0]) Tzero_101 fun b2 => ?_)
      refine Run.step rfl (OpStep.storeAll (us := [.int .i64 (ix xs (k * 3)), .int .i64 (ix xs (k * 3 + 1)), .int .i64 (ix xs (k * 3 + 2))]) Tsize_101 rfl rfl rfl (.here _) rfl ?_)
      refine Run.done ?_
      refine Run.region ?_
      refine Run.q (v := .int .i64 (((swN xs k : Nat) : Int))) rfl (OpQ.y (OpY.pure rfl)) ?_
      refine Run.q (v := .pointer (some ⟨b2, 0, none⟩)) rfl (OpQ.y (OpY.fieldAddr Tfo_101_0 rfl rfl)) ?_
      refine Run.q (v := .int .i64 (ix xs (k * 3))) rfl (OpQ.y (OpY.load1 Tone_3 rfl (Cells.blk (.head _) ⟨rfl, trivial⟩))) ?_
      refine Run.q (v := .bool ((ix xs (k * 3)) == (-1))) rfl (OpQ.y (OpY.pure rfl)) ?_
      refine Run.q (v := .int .i64 (if (ix xs (k * 3)) == (-1) then 1 else 0)) rfl (OpQ.call (vs := [.bool ((ix xs (k * 3)) == (-1))]) (caps := []) Tcall_56 rfl rfl (fun w hs => small_spec _ w)) ?_
      refine Run.q (v := .int .i64 ((((swN xs k : Nat) : Int)) + (if (ix xs (k * 3)) == (-1) then 1 else 0))) rfl (OpQ.y (OpY.add rfl rfl rfl (by omega) (by omega))) ?_
      refine Run.q (v := .int .i64 ((((swN xs k : Nat) : Int)) + (if (ix xs (k * 3)) == (-1) then 1 else 0))) rfl (OpQ.y (OpY.pure rfl)) ?_
      refine Run.done ?_
      refine Run.blockEnd ?_
      refine Run.region ?_
      refine Run.q (v := .int .i64 ((((k : Nat) : Int)) + 1)) rfl (OpQ.y (OpY.add rfl rfl rfl (by omega) (by omega))) ?_
      refine Run.q (v := .int .i64 ((((k : Nat) : Int)) + 1)) rfl (OpQ.y (OpY.pure rfl)) ?_
      refine Run.done ?_
      refine Run.goal ⟨(by repeat (first | exact Same.refl _ _ | refine Same.put rfl ?_ | refine Same.over rfl rfl ?_)), k + 1, ?_, ?_, ?_, ?_⟩
      · refine ⟨by omega, ?_⟩
        trivial
      · omega
      · exact ⟨(by show Value.int _ _ = Value.int _ _; rw [swN]; split <;> first | (simp_all; done) | (simp_all; congr 1)), (by first | rfl | (congr 1; omega) | simp), trivial⟩
      · exact (Some'.weak (.skip (.takeEq (by first | rfl | simp) (.nil _))))
    · have p10 := h10; try simp only [bs] at p10
      have hknk : k = n := by omega
      refine Run.exit rfl ?_
      refine Run.seq ?_
      refine Run.region ?_
      refine Run.q (v := .int .i64 (((swN xs k : Nat) : Int))) rfl (OpQ.y (OpY.pure rfl)) ?_
      refine Run.q (v := .int .i64 (((swN xs k : Nat) : Int))) rfl (OpQ.y (OpY.pure rfl)) ?_
      refine Run.done ?_
      refine Run.ret ?_
      refine ⟨.int .i64 (((swN xs k : Nat) : Int)), [], Out.one rfl rfl, (Some'.weak (.nil _)), ?_⟩
      show _ = _; rw [hknk]

end Go.Proofs.Ytekikmdjldincaa
/- Walks: copies of lists of truth values and of steps; is all done. -/
set_option linter.unusedSimpArgs false
set_option linter.unusedVariables false
namespace Go.Proofs.Ytekikmdjldincaa
open Go Go.RowKit
namespace LsfT
theorem Tbool_4 : Try.prog.underlying 4 = some .bool := by kernel_rfl
theorem Tcall_76 : callable Try.prog 76 = true := by kernel_rfl
theorem Tone_4 : oneOf Try.prog 4 = true := by kernel_rfl
theorem Tsl_46 : sliceOf Try.prog 46 = some (101, 3, 24, [.int .i64 0, .int .i64 0, .int .i64 0]) := by kernel_rfl
theorem Tsl_85 : sliceOf Try.prog 85 = some (4, 1, 1, [.bool false]) := by kernel_rfl
end LsfT
open LsfT
theorem bls_of_nil {ds : List Bool} (h : (bls ds).length = 0) : ds = [] := by simpa [bls] using h
def allD (ds : List Bool) (n : Nat) : Bool := !anyI (fun i => !bx ds i) n

set_option maxHeartbeats 1000000 in
set_option maxRecDepth 20000 in
theorem CloneBool_nil {n c : Nat} {ds : List Bool} {w : World} (hb : n ≤ 100000000) (ha : Sl w (.slice none n c) 1 n (bls ds)) : Calls Try.prog 77 #[.slice none n c] w (Post No w fun v H => H = [.own v 4 1 n (bls ds)]) := by
  have hxl := ha.1
  obtain rfl : n = 0 := by
    rcases Nat.eq_zero_or_pos n with h | h
    · exact h
    · obtain ⟨b, o, hbo⟩ := ha.opn h; cases hbo
  obtain rfl : ds = [] := by first | exact bls_of_nil (by omega) | simpa [ints] using hxl
  refine enter (n := 8) (args := [.slice none 0 c]) Try.func77 rfl rfl (St.empty _ _) ?_
  refine Run.seq ?_
  refine Run.region ?_
  refine Run.q (v := .slice none 0 0) rfl (OpQ.y (OpY.pure rfl)) ?_
  refine Run.done ?_
  refine Run.seq ?_
  refine Run.seq ?_
  refine Run.region ?_
  refine Run.q (v := .slice none 0 c) rfl (OpQ.y (OpY.pure rfl)) ?_
  refine Run.q (v := .bool true) rfl (OpQ.y (OpY.eqNilNil Tsl_85 rfl rfl)) ?_
  refine Run.done ?_
  refine Run.cond (b := true) rfl (fun _ => ?_) (fun h => nomatch h)
  refine Run.seq ?_
  refine Run.weak (H' := [.own (.slice none 0 0) 4 1 0 ([])]) (Weak.nilOwn _ _) ?_ ⟨_, _, rfl, fun _ => nofun, fun _ => nofun⟩
  refine Run.region ?_
  refine Run.q (v := .slice none 0 0) rfl (OpQ.y (OpY.pure rfl)) ?_
  refine Run.done ?_
  refine Run.ret ?_
  refine ⟨.slice none 0 0, [.own (.slice none 0 0) 4 1 0 ([])], Out.one rfl rfl, (Some'.weak (.take (.nil _))), ?_⟩
  rfl

set_option maxHeartbeats 1000000 in
set_option maxRecDepth 20000 in
theorem CloneBool_some {a : Addr} {n c : Nat} {ds : List Bool} {w : World} (hb : n ≤ 100000000) (ha : Sl w (.slice (some a) n c) 1 n (bls ds)) : Calls Try.prog 77 #[.slice (some a) n c] w (Post No w fun v H => H = [.own v 4 1 n (bls ds)]) := by
  have hxl := ha.1
  refine enter (n := 8) (args := [.slice (some a) n c]) Try.func77 rfl rfl (St.empty _ _) ?_
  refine Run.seq ?_
  refine Run.region ?_
  refine Run.q (v := .slice none 0 0) rfl (OpQ.y (OpY.pure rfl)) ?_
  refine Run.done ?_
  refine Run.seq ?_
  refine Run.seq ?_
  refine Run.region ?_
  refine Run.q (v := .slice (some a) n c) rfl (OpQ.y (OpY.pure rfl)) ?_
  refine Run.q (v := .bool false) rfl (OpQ.y (OpY.eqNilSome Tsl_85 rfl rfl)) ?_
  refine Run.done ?_
  refine Run.cond (b := false) rfl (fun h => nomatch h) (fun _ => ?_)
  refine Run.skip ?_
  refine Run.seq ?_
  refine Run.region ?_
  refine Run.step rfl (OpStep.buildSlice (us := []) Tsl_85 (by decide) (by decide) rfl rfl fun b1 => ?_)
  refine Run.q (v := .slice (some a) n c) rfl (OpQ.y (OpY.pure rfl)) ?_
  refine Run.step rfl (OpStep.append (H1 := []) (H2 := []) (v := .slice (some ⟨b1, 0, none⟩) 0 0) (u := .slice (some a) n c) (n := 0) (m := n) (xs := []) (ys := bls ds) Tsl_85 (by decide) rfl rfl rfl rfl (fun w hs => hs.sl ha) (by exact List.all_eq_true.2 (bls_all _)) (by omega) (by simp only [maxLen]; omega) fun av1 hnav1 => ?_)
  refine Run.weak (H' := [.own av1 4 1 n (bls ds)]) (Some'.weak (.takeEq (by simp) (.nil _))) ?_ ⟨_, _, rfl, fun _ => nofun, fun _ => nofun⟩
  refine Run.q (v := av1) rfl (OpQ.y (OpY.pure rfl)) ?_
  refine Run.done ?_
  refine Run.ret ?_
  refine ⟨av1, [.own av1 4 1 n (bls ds)], Out.one rfl rfl, (Some'.weak (.take (.nil _))), ?_⟩
  rfl

theorem CloneBool_spec {va : Value} {n : Nat} {ds : List Bool} {w : World} (hb : n ≤ 100000000) (ha : Sl w va 1 n (bls ds)) : Calls Try.prog 77 #[va] w (Post No w fun v H => H = [.own v 4 1 n (bls ds)]) := by
  obtain ⟨A, c, rfl, _, _⟩ := ha.form0
  cases A with
  | none => exact CloneBool_nil hb ha
  | some a => exact CloneBool_some hb ha

set_option maxHeartbeats 1000000 in
set_option maxRecDepth 20000 in
theorem CloneStep_nil {n c : Nat} {xs : List Int} {w : World} (hb : n ≤ 100000000) (ha : Sl w (.slice none n c) 3 n (ints xs)) : Calls Try.prog 79 #[.slice none n c] w (Post No w fun v H => H = [.own v 101 3 n (ints xs)]) := by
  have hxl := ha.1
  obtain rfl : n = 0 := by
    rcases Nat.eq_zero_or_pos n with h | h
    · exact h
    · obtain ⟨b, o, hbo⟩ := ha.opn h; cases hbo
  obtain rfl : xs = [] := by first | exact bls_of_nil (by omega) | simpa [ints] using hxl
  refine enter (n := 8) (args := [.slice none 0 c]) Try.func79 rfl rfl (St.empty _ _) ?_
  refine Run.seq ?_
  refine Run.region ?_
  refine Run.q (v := .slice none 0 0) rfl (OpQ.y (OpY.pure rfl)) ?_
  refine Run.done ?_
  refine Run.seq ?_
  refine Run.seq ?_
  refine Run.region ?_
  refine Run.q (v := .slice none 0 c) rfl (OpQ.y (OpY.pure rfl)) ?_
  refine Run.q (v := .bool true) rfl (OpQ.y (OpY.eqNilNil Tsl_46 rfl rfl)) ?_
  refine Run.done ?_
  refine Run.cond (b := true) rfl (fun _ => ?_) (fun h => nomatch h)
  refine Run.seq ?_
  refine Run.weak (H' := [.own (.slice none 0 0) 101 3 0 ([])]) (Weak.nilOwn _ _) ?_ ⟨_, _, rfl, fun _ => nofun, fun _ => nofun⟩
  refine Run.region ?_
  refine Run.q (v := .slice none 0 0) rfl (OpQ.y (OpY.pure rfl)) ?_
  refine Run.done ?_
  refine Run.ret ?_
  refine ⟨.slice none 0 0, [.own (.slice none 0 0) 101 3 0 ([])], Out.one rfl rfl, (Some'.weak (.take (.nil _))), ?_⟩
  rfl

set_option maxHeartbeats 1000000 in
set_option maxRecDepth 20000 in
theorem CloneStep_some {a : Addr} {n c : Nat} {xs : List Int} {w : World} (hb : n ≤ 100000000) (ha : Sl w (.slice (some a) n c) 3 n (ints xs)) : Calls Try.prog 79 #[.slice (some a) n c] w (Post No w fun v H => H = [.own v 101 3 n (ints xs)]) := by
  have hxl := ha.1
  refine enter (n := 8) (args := [.slice (some a) n c]) Try.func79 rfl rfl (St.empty _ _) ?_
  refine Run.seq ?_
  refine Run.region ?_
  refine Run.q (v := .slice none 0 0) rfl (OpQ.y (OpY.pure rfl)) ?_
  refine Run.done ?_
  refine Run.seq ?_
  refine Run.seq ?_
  refine Run.region ?_
  refine Run.q (v := .slice (some a) n c) rfl (OpQ.y (OpY.pure rfl)) ?_
  refine Run.q (v := .bool false) rfl (OpQ.y (OpY.eqNilSome Tsl_46 rfl rfl)) ?_
  refine Run.done ?_
  refine Run.cond (b := false) rfl (fun h => nomatch h) (fun _ => ?_)
  refine Run.skip ?_
  refine Run.seq ?_
  refine Run.region ?_
  refine Run.step rfl (OpStep.buildSlice (us := []) Tsl_46 (by decide) (by decide) rfl rfl fun b1 => ?_)
  refine Run.q (v := .slice (some a) n c) rfl (OpQ.y (OpY.pure rfl)) ?_
  refine Run.step rfl (OpStep.append (H1 := []) (H2 := []) (v := .slice (some ⟨b1, 0, none⟩) 0 0) (u := .slice (some a) n c) (n := 0) (m := n) (xs := []) (ys := ints xs) Tsl_46 (by decide) rfl rfl rfl rfl (fun w hs => hs.sl ha) (by exact ints_all xs) (by omega) (by simp only [maxLen]; omega) fun av1 hnav1 => ?_)
  refine Run.weak (H' := [.own av1 101 3 n (ints xs)]) (Some'.weak (.takeEq (by simp) (.nil _))) ?_ ⟨_, _, rfl, fun _ => nofun, fun _ => nofun⟩
  refine Run.q (v := av1) rfl (OpQ.y (OpY.pure rfl)) ?_
  refine Run.done ?_
  refine Run.ret ?_
  refine ⟨av1, [.own av1 101 3 n (ints xs)], Out.one rfl rfl, (Some'.weak (.take (.nil _))), ?_⟩
  rfl

theorem CloneStep_spec {va : Value} {n : Nat} {xs : List Int} {w : World} (hb : n ≤ 100000000) (ha : Sl w va 3 n (ints xs)) : Calls Try.prog 79 #[va] w (Post No w fun v H => H = [.own v 101 3 n (ints xs)]) := by
  obtain ⟨A, c, rfl, _, _⟩ := ha.form0
  cases A with
  | none => exact CloneStep_nil hb ha
  | some a => exact CloneStep_some hb ha

set_option maxHeartbeats 1000000 in
set_option maxRecDepth 20000 in
theorem IndexNot_spec {va : Value} {n : Nat} {ds : List Bool} {w : World} (ha : Sl w va 1 n (bls ds)) : Calls Try.prog 76 #[va, .bool false] w (Post No w fun v _ => v = .int .i64 (findI (fun i => !bx ds i) n)) := by
  have hxl := ha.blen
  have hn := ha.le
  obtain ⟨A, c, rfl, _, _⟩ := ha.form0
  refine enter (n := 19) (args := [.slice A n c, .bool false]) Try.func76 rfl rfl (St.empty _ _) ?_
  refine Run.seq ?_
  refine Run.region ?_
  refine Run.q (v := .int .i64 0) rfl (OpQ.y (OpY.pure rfl)) ?_
  refine Run.done ?_
  refine Run.seq ?_
  refine Run.seq ?_
  refine Run.region ?_
  refine Run.q (v := .slice A n c) rfl (OpQ.y (OpY.pure rfl)) ?_
  refine Run.q (v := .int .i64 (((n : Nat) : Int))) rfl (OpQ.y (OpY.len Tsl_85 rfl)) ?_
  refine Run.q (v := .int .i64 0) rfl (OpQ.y (OpY.pure rfl)) ?_
  refine Run.done ?_
  refine Run.block ?_
  refine Run.loop (ι := Nat) [4, 5, 8, 9, 10, 11, 12, 13, 14, 15, 16, 17, 18] (fun k => [(8, .int .i64 (((k : Nat) : Int)))]) (fun k => []) (fun k => k ≤ n ∧ ∀ i, i < k → (!bx ds i) = false) (fun k => n - k) 0 ?_ ?_ ?_ ?_
  · exact ⟨Nat.zero_le _, fun i hi => by omega⟩
  · exact ⟨rfl, trivial⟩
  · exact (Some'.weak (.nil _))
  · rintro k fr hinv
    show Run _ _ (over _ _ [(8, .int .i64 (((k : Nat) : Int)))] fr) []
    try dsimp only at hinv
    refine Run.seq ?_
    refine Run.region ?_
    refine Run.q (v := .bool (decide ((((k : Nat) : Int)) < (((n : Nat) : Int))))) rfl (OpQ.y (OpY.pure rfl)) ?_
    refine Run.done ?_
    refine Run.seq ?_
    refine Run.cond (b := decide ((((k : Nat) : Int)) < (((n : Nat) : Int)))) rfl (fun h9 => ?_) (fun h9 => ?_)
    · have p9 := h9; try simp only [bs] at p9
      have hltk : k < n := by omega
      obtain ⟨b, o, rfl⟩ := ha.opn (by omega)
      refine Run.skip ?_
      refine Run.seq ?_
      refine Run.block ?_
      refine Run.seq ?_
      refine Run.region ?_
      refine Run.q (v := .int .i64 (((k : Nat) : Int))) rfl (OpQ.y (OpY.pure rfl)) ?_
      refine Run.q (v := .int .i64 (((k : Nat) : Int))) rfl (OpQ.y (OpY.pure rfl)) ?_
      refine Run.done ?_
      refine Run.seq ?_
      refine Run.region ?_
      refine Run.q (v := .bool false) rfl (OpQ.y (OpY.pure rfl)) ?_
      refine Run.q (v := .slice (some ⟨b, o, none⟩) n c) rfl (OpQ.y (OpY.pure rfl)) ?_
      refine Run.q (v := .int .i64 (((k : Nat) : Int))) rfl (OpQ.y (OpY.pure rfl)) ?_
      refine Run.q (v := .pointer (some ⟨b, o + k, none⟩)) rfl (OpQ.y (OpY.index (kk := k) Tsl_85 rfl rfl (by omega) (by omega) (by first | rfl | omega))) ?_
      refine Run.q (v := .bool (bx ds (k))) rfl (OpQ.y (OpY.load1 Tone_4 rfl (Cells.arg (k := k) ha rfl (by omega) (preBl (by omega))))) ?_
      refine Run.q (v := .bool (false == (bx ds (k)))) rfl (OpQ.y (OpY.eqB Tbool_4 rfl rfl)) ?_
      refine Run.done ?_
      refine Run.cond (b := false == (bx ds (k))) rfl (fun h16 => ?_) (fun h16 => ?_)
      · have p16 := h16; try simp only [bs] at p16
        have hb : bx ds k = false := by simp_all
        have hres : findI (fun i => !bx ds i) n = k := findI_hit hinv.2 (by rw [hb]; rfl) hltk
        refine Run.seq ?_
        refine Run.region ?_
        refine Run.q (v := .int .i64 (((k : Nat) : Int))) rfl (OpQ.y (OpY.pure rfl)) ?_
        refine Run.q (v := .int .i64 (((k : Nat) : Int))) rfl (OpQ.y (OpY.pure rfl)) ?_
        refine Run.done ?_
        refine Run.ret ?_
        refine ⟨.int .i64 (((k : Nat) : Int)), [], Out.one rfl rfl, (Some'.weak (.nil _)), ?_⟩
        show _ = _; rw [hres]
      · have p16 := h16; try simp only [bs] at p16
        have hb : bx ds k = true := by simp_all
        have hgood : (!bx ds k) = false := by rw [hb]; rfl
        refine Run.skip ?_
        refine Run.blockEnd ?_
        refine Run.region ?_
        refine Run.q (v := .int .i64 ((((k : Nat) : Int)) + 1)) rfl (OpQ.y (OpY.add rfl rfl rfl (by omega) (by omega))) ?_
        refine Run.q (v := .int .i64 ((((k : Nat) : Int)) + 1)) rfl (OpQ.y (OpY.pure rfl)) ?_
        refine Run.done ?_
        refine Run.goal ⟨(by repeat (first | exact Same.refl _ _ | refine Same.put rfl ?_ | refine Same.over rfl rfl ?_)), k + 1, ?_, ?_, ?_, ?_⟩
        · refine ⟨by omega, ?_⟩
          intro i hi
          rcases Nat.lt_succ_iff_lt_or_eq.1 hi with h | h
          · exact hinv.2 i h
          · rw [h]; exact hgood
        · omega
        · exact ⟨(by first | rfl | (congr 1; omega) | simp), trivial⟩
        · exact (Some'.weak (.nil _))
    · have p9 := h9; try simp only [bs] at p9
      have hkn : k = n := by omega
      have hres : findI (fun i => !bx ds i) n = -1 := by rw [← hkn]; exact findI_none hinv.2
      refine Run.exit rfl ?_
      refine Run.seq ?_
      refine Run.region ?_
      refine Run.q (v := .int .i64 (-1)) rfl (OpQ.y (OpY.pure rfl)) ?_
      refine Run.done ?_
      refine Run.ret ?_
      refine ⟨.int .i64 (-1), [], Out.one rfl rfl, (Some'.weak (.nil _)), ?_⟩
      show _ = _; rw [hres]

set_option maxHeartbeats 1000000 in
set_option maxRecDepth 20000 in
theorem ContainsNot_spec {va : Value} {n : Nat} {ds : List Bool} {w : World} (ha : Sl w va 1 n (bls ds)) : Calls Try.prog 53 #[va, .bool false] w (Post No w fun v _ => v = .bool (!allD ds n)) := by
  refine enter (n := 9) (args := [va, .bool false]) Try.func53 rfl rfl (St.empty _ _) ?_
  refine Run.seq ?_
  refine Run.region ?_
  refine Run.q (v := .bool false) rfl (OpQ.y (OpY.pure rfl)) ?_
  refine Run.done ?_
  refine Run.seq ?_
  refine Run.region ?_
  refine Run.q (v := va) rfl (OpQ.y (OpY.pure rfl)) ?_
  refine Run.q (v := .bool false) rfl (OpQ.y (OpY.pure rfl)) ?_
  refine Run.q (v := .int .i64 (findI (fun i => !bx ds i) n)) rfl (OpQ.call (vs := [va, .bool false]) (caps := []) Tcall_76 rfl rfl (fun w hs => IndexNot_spec (hs.sl ha))) ?_
  refine Run.q (v := .bool (decide ((findI (fun i => !bx ds i) n) ≥ 0))) rfl (OpQ.y (OpY.pure rfl)) ?_
  refine Run.q (v := .bool (decide ((findI (fun i => !bx ds i) n) ≥ 0))) rfl (OpQ.y (OpY.pure rfl)) ?_
  refine Run.done ?_
  refine Run.ret ?_
  refine ⟨.bool (decide ((findI (fun i => !bx ds i) n) ≥ 0)), [], Out.one rfl rfl, (Some'.weak (.nil _)), ?_⟩
  show _ = _; rw [findI_ge, allD, Bool.not_not]

end Go.Proofs.Ytekikmdjldincaa
