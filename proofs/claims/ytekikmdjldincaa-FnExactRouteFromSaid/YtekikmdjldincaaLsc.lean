/- Walks: the reference does what can be done. -/
import Derived.Test.YtekikmdjldincaaLsb
import Derived.Test.YtekikmdjldincaaProg
set_option linter.unusedSimpArgs false
set_option linter.unusedVariables false
namespace Go.Proofs.Ytekikmdjldincaa
open Go Go.RowKit
namespace LscT
theorem Tagg_110 : aggOf Try.prog 110 = some 4 := by kernel_rfl
theorem Tagg_35 : aggOf Try.prog 35 = some 2 := by kernel_rfl
theorem Tagg_39 : aggOf Try.prog 39 = some 2 := by kernel_rfl
theorem Tagg_81 : aggOf Try.prog 81 = some 3 := by kernel_rfl
theorem Tcall_82 : callable Try.prog 82 = true := by kernel_rfl
theorem Tcall_83 : callable Try.prog 83 = true := by kernel_rfl
theorem Tfo_110_0 : fieldOff Try.prog 110 0 = some 0 := by kernel_rfl
theorem Tfo_110_1 : fieldOff Try.prog 110 1 = some 1 := by kernel_rfl
theorem Tfo_110_3 : fieldOff Try.prog 110 3 = some 3 := by kernel_rfl
theorem Tfo_39_1 : fieldOff Try.prog 39 1 = some 1 := by kernel_rfl
theorem Tone_28 : oneOf Try.prog 28 = true := by kernel_rfl
theorem Tone_37 : oneOf Try.prog 37 = true := by kernel_rfl
theorem Tone_46 : oneOf Try.prog 46 = true := by kernel_rfl
theorem Tone_85 : oneOf Try.prog 85 = true := by kernel_rfl
theorem Tsize_110 : (Try.prog.info? 110).map (·.size) = some 4 := by kernel_rfl
theorem Tsize_4 : (Try.prog.info? 4).map (·.size) = some 1 := by kernel_rfl
theorem Tsize_46 : (Try.prog.info? 46).map (·.size) = some 1 := by kernel_rfl
theorem Tsize_85 : (Try.prog.info? 85).map (·.size) = some 1 := by kernel_rfl
theorem Tsl_37 : sliceOf Try.prog 37 = some (81, 3, 24, [.int .i64 0, .int .i64 0, .int .i64 0]) := by kernel_rfl
theorem Tsl_46 : sliceOf Try.prog 46 = some (101, 3, 24, [.int .i64 0, .int .i64 0, .int .i64 0]) := by kernel_rfl
theorem Tsl_85 : sliceOf Try.prog 85 = some (4, 1, 1, [.bool false]) := by kernel_rfl
theorem Tzero_110 : zeroOf Try.prog 110 = some [.slice none 0 0, .slice none 0 0, .int .i64 0, .slice none 0 0] := by kernel_rfl
end LscT
open LscT
set_option maxHeartbeats 1000000 in
set_option maxRecDepth 20000 in
theorem l23Run_spec {N Q pv : Int} {vg vc vp vd vs : Value} {m n pn : Nat} {es xs ps : List Int} {ds0 : List Bool} {L0 : List T3} {w : World} (hn4 : n ≤ 400) (hin : HIN n pn xs ps) (hL : L0.length ≤ 20000000) (hg : Ap [.own vs 101 3 (L0.length) (ints (fl3 L0))] w vg 2 m (ints es)) (hc : Ap [.own vs 101 3 (L0.length) (ints (fl3 L0))] w vc 3 n (ints xs)) (hp : Ap [.own vs 101 3 (L0.length) (ints (fl3 L0))] w vp 1 pn (ints ps)) (hd : Ap [.own vs 101 3 (L0.length) (ints (fl3 L0))] w vd 1 n (bls ds0)) (h : (Res.own vs 101 3 (L0.length) (ints (fl3 L0))).holds w) : Calls Try.prog 63 #[.agg #[.int .i64 N, vg], .agg #[.int .i64 Q, vc], .agg #[vp, vd, .int .i64 pv, vs]] w (Post (Of [.own vs 101 3 (L0.length) (ints (fl3 L0))]) w fun v H => ∃ vd2 vs2, v = .agg #[vp, vd2, .int .i64 pv, vs2] ∧ H = [.own vd2 4 1 n (bls ((advS (goB es m xs ps) n ds0 L0).1)), .own vs2 101 3 (((advS (goB es m xs ps) n ds0 L0).2).length) (ints (fl3 ((advS (goB es m xs ps) n ds0 L0).2)))]) := by
  have hcl := hc.sl.len
  have hdl := hd.sl.blen
  obtain ⟨Ac, cc, rfl, _, _⟩ := hc.sl.form0
  obtain ⟨Av, cv, rfl, _, _⟩ := hp.sl.form0
  have hund : und ds0 ≤ ds0.length := List.count_le_length
  refine enter (n := 48) (args := [.agg #[.int .i64 N, vg], .agg #[.int .i64 Q, .slice Ac n cc], .agg #[.slice Av pn cv, vd, .int .i64 pv, vs]]) Try.func63 rfl rfl (St.start1 h) ?_
  refine Run.seq ?_
  refine Run.region ?_
  refine Run.step rfl (OpStep.box (us := [.int .i64 N, vg]) rfl fun b1 => ?_)
  refine Run.step rfl (OpStep.box (us := [.int .i64 Q, .slice Ac n cc]) rfl fun b2 => ?_)
  refine Run.step rfl (OpStep.box (us := [.slice Av pn cv, vd, .int .i64 pv, vs]) rfl fun b3 => ?_)
  refine Run.step rfl (OpStep.alloc (zs := [.slice none 0 0, .slice none 0 0, .int .i64 0, .slice none 0 0]) Tzero_110 fun b4 => ?_)
  refine Run.done ?_
  refine Run.seq ?_
  refine Run.region ?_
  refine Run.step rfl (OpStep.buildSlice (us := []) Tsl_85 (by decide) (by decide) rfl rfl fun b5 => ?_)
  refine Run.q (v := .pointer (some ⟨b3, 1, none⟩)) rfl (OpQ.y (OpY.fieldAddr Tfo_110_1 rfl rfl)) ?_
  refine Run.q (v := vd) rfl (OpQ.y (OpY.load1 Tone_85 rfl (Cells.blk (.tail _ (.tail _ (List.Mem.head _))) ⟨rfl, trivial⟩))) ?_
  refine Run.step rfl (OpStep.append (H1 := []) (H2 := [.blk b4 110 [.slice none 0 0, .slice none 0 0, .int .i64 0, .slice none 0 0], .blk b3 110 [.slice Av pn cv, vd, .int .i64 pv, vs], .blk b2 39 [.int .i64 Q, .slice Ac n cc], .blk b1 35 [.int .i64 N, vg], .own vs 101 3 (L0.length) (ints (fl3 L0))]) (v := .slice (some ⟨b5, 0, none⟩) 0 0) (u := vd) (n := 0) (m := n) (xs := []) (ys := bls ds0) Tsl_85 (by decide) rfl rfl rfl rfl (fun w hs => hd.go hs) (by exact List.all_eq_true.2 (bls_all _)) (by omega) (by simp only [maxLen]; omega) fun av1 hnav1 => ?_)
  refine Run.weak (H' := [.own av1 4 1 n (bls ds0), .blk b4 110 [.slice none 0 0, .slice none 0 0, .int .i64 0, .slice none 0 0], .blk b3 110 [.slice Av pn cv, vd, .int .i64 pv, vs], .blk b2 39 [.int .i64 Q, .slice Ac n cc], .blk b1 35 [.int .i64 N, vg], .own vs 101 3 (L0.length) (ints (fl3 L0))]) (Some'.weak (.takeEq (by simp) (.take (.take (.take (.take (.take (.nil _)))))))) ?_ ⟨_, _, rfl, fun _ => nofun, fun _ => nofun⟩
  refine Run.q (v := .pointer (some ⟨b3, 1, none⟩)) rfl (OpQ.y (OpY.fieldAddr Tfo_110_1 rfl rfl)) ?_
  refine Run.formOwn (.head _) (fun A_av11 c_av11 hv hcapc_av11 hmaxc_av11 => ?_) (fun _ _ _ => ⟨nofun, nofun, nofun⟩)
  subst hv
  refine Run.step rfl (OpStep.store (us := [.slice A_av11 n c_av11]) Tsize_85 rfl rfl rfl (.there _ (.there _ (.here _))) (by simp only [List.length_cons, List.length_nil]; omega) ?_)
  show Run _ _ _ [.own (.slice A_av11 n c_av11) 4 1 n (bls ds0), .blk b4 110 [.slice none 0 0, .slice none 0 0, .int .i64 0, .slice none 0 0], .blk b3 110 [.slice Av pn cv, .slice A_av11 n c_av11, .int .i64 pv, vs], .blk b2 39 [.int .i64 Q, .slice Ac n cc], .blk b1 35 [.int .i64 N, vg], .own vs 101 3 (L0.length) (ints (fl3 L0))]
  refine Run.done ?_
  refine Run.seq ?_
  refine Run.seq ?_
  refine Run.region ?_
  refine Run.q (v := .int .i64 0) rfl (OpQ.y (OpY.pure rfl)) ?_
  refine Run.done ?_
  refine Run.block ?_
  refine Run.loop (ι := Nat × List Bool × List T3 × Value × Value) [7, 13, 14, 15, 16, 17, 18, 19, 20, 21, 22, 23, 24, 25, 26, 27, 28, 29, 30, 31, 32, 33, 34, 35, 36, 37, 38, 39, 40, 41, 42, 43, 44, 45, 46] (fun ⟨i, ds, L, wd, ws⟩ => [(7, .int .i64 (((i : Nat) : Int)))]) (fun ⟨i, ds, L, wd, ws⟩ => [.own wd 4 1 n (bls ds), .own ws 101 3 (L.length) (ints (fl3 L)), .blk b4 110 [.slice none 0 0, .slice none 0 0, .int .i64 0, .slice none 0 0], .blk b3 110 [.slice Av pn cv, wd, .int .i64 pv, ws], .blk b2 39 [.int .i64 Q, .slice Ac n cc], .blk b1 35 [.int .i64 N, vg]]) (fun ⟨i, ds, L, wd, ws⟩ => i ≤ n ∧ ds.length = n ∧ (∀ j, j < i → goB es m xs ps ds j = false) ∧ advS (goB es m xs ps) n ds L = advS (goB es m xs ps) n ds0 L0 ∧ L.length + und ds ≤ L0.length + und ds0) (fun ⟨i, ds, L, wd, ws⟩ => und ds * (n + 1) + (n - i)) (0, ds0, L0, .slice A_av11 n c_av11, vs) ?_ ?_ ?_ ?_
  · exact ⟨Nat.zero_le _, hdl, fun j hj => by omega, rfl, Nat.le_refl _⟩
  · exact ⟨rfl, trivial⟩
  · exact ((Weak.selF [0, 4, 0, 0, 0, 0]).trans (Some'.weak (.takeEq (by first | rfl | simp) (.takeEq (by first | rfl | simp) (.take (.takeEq (by first | rfl | simp) (.take (.take (.nil _)))))))))
  · rintro ⟨i, ds, L, wd, ws⟩ fr hinv
    show Run _ _ (over _ _ [(7, .int .i64 (((i : Nat) : Int)))] fr) [.own wd 4 1 n (bls ds), .own ws 101 3 (L.length) (ints (fl3 L)), .blk b4 110 [.slice none 0 0, .slice none 0 0, .int .i64 0, .slice none 0 0], .blk b3 110 [.slice Av pn cv, wd, .int .i64 pv, ws], .blk b2 39 [.int .i64 Q, .slice Ac n cc], .blk b1 35 [.int .i64 N, vg]]
    try dsimp only at hinv
    refine Run.seq ?_
    refine Run.seq ?_
    refine Run.region ?_
    refine Run.q (v := .int .i64 (((i : Nat) : Int))) rfl (OpQ.y (OpY.pure rfl)) ?_
    refine Run.q (v := .pointer (some ⟨b2, 1, none⟩)) rfl (OpQ.y (OpY.fieldAddr Tfo_39_1 rfl rfl)) ?_
    refine Run.q (v := .slice Ac n cc) rfl (OpQ.y (OpY.load1 Tone_37 rfl (Cells.blk (.tail _ (.tail _ (.tail _ (.tail _ (List.Mem.head _))))) ⟨rfl, trivial⟩))) ?_
    refine Run.q (v := .int .i64 (((n : Nat) : Int))) rfl (OpQ.y (OpY.len Tsl_37 rfl)) ?_
    refine Run.q (v := .bool (decide ((((i : Nat) : Int)) < (((n : Nat) : Int))))) rfl (OpQ.y (OpY.pure rfl)) ?_
    refine Run.done ?_
    refine Run.cond (b := decide ((((i : Nat) : Int)) < (((n : Nat) : Int)))) rfl (fun h17 => ?_) (fun h17 => ?_)
    · have p17 := h17; try simp only [bs] at p17
      have hin1 : i < n := by omega
      obtain ⟨hiN, hdl2, hlow, hsame, hLl⟩ := hinv
      obtain ⟨bc, oc, rfl⟩ := hc.sl.opn (by omega)
      refine Run.openOwn (.head _) (by omega) (fun gd cd hvgd hcapgd _ => ?_) (fun _ _ _ => ⟨nofun, nofun, nofun⟩)
      subst hvgd
      refine Run.skip ?_
      refine Run.seq ?_
      refine Run.block ?_
      refine Run.seq ?_
      refine Run.draws (by kernel_rfl) (by kernel_rfl) ?_
      refine Lex.q (v := .agg #[.int .i64 Q, .slice (some ⟨bc, oc, none⟩) n cc]) rfl (OpQ.y (OpY.loadN (cs := [.int .i64 Q, .slice (some ⟨bc, oc, none⟩) n cc]) Tagg_39 rfl (Cells.blk (.tail _ (.tail _ (.tail _ (.tail _ (List.Mem.head _))))) ⟨rfl, rfl, trivial⟩))) ?_
      refine Lex.q (v := .pointer (some ⟨b3, 1, none⟩)) rfl (OpQ.y (OpY.fieldAddr Tfo_110_1 rfl rfl)) ?_
      refine Lex.q (v := .slice (some ⟨gd, 0, none⟩) n cd) rfl (OpQ.y (OpY.load1 Tone_85 rfl (Cells.blk (.tail _ (.tail _ (.tail _ (List.Mem.head _)))) ⟨rfl, trivial⟩))) ?_
      refine Lex.q (v := .int .i64 (((i : Nat) : Int))) rfl (OpQ.y (OpY.pure rfl)) ?_
      refine Lex.q (v := .bool (rdy xs ds i)) rfl (OpQ.call (vs := [.agg #[.int .i64 Q, .slice (some ⟨bc, oc, none⟩) n cc], .slice (some ⟨gd, 0, none⟩) n cd, .int .i64 (((i : Nat) : Int))]) (caps := []) Tcall_82 rfl rfl (fun w hs => l23Ready_spec hin1 (hc.go hs) (hs.slOwn (.head _)))) ?_
      rcases Bool.eq_false_or_eq_true (rdy xs ds i) with h25 | h25
      · refine Lex.q (v := .bool true) rfl (OpQ.y (OpY.moveB rfl h25)) ?_
        have p25 := h25; try simp only [bs] at p25
        refine Lex.q (v := .agg #[.int .i64 N, vg]) rfl (OpQ.y (OpY.loadN (cs := [.int .i64 N, vg]) Tagg_35 rfl (Cells.blk (.tail _ (.tail _ (.tail _ (.tail _ (.tail _ (List.Mem.head _)))))) ⟨rfl, rfl, trivial⟩))) ?_
        refine Lex.q (v := .pointer (some ⟨b3, 0, none⟩)) rfl (OpQ.y (OpY.fieldAddr Tfo_110_0 rfl rfl)) ?_
        refine Lex.q (v := .slice Av pn cv) rfl (OpQ.y (OpY.load1 Tone_28 rfl (Cells.blk (.tail _ (.tail _ (.tail _ (List.Mem.head _)))) ⟨rfl, trivial⟩))) ?_
        refine Lex.q (v := .pointer (some ⟨b2, 1, none⟩)) rfl (OpQ.y (OpY.fieldAddr Tfo_39_1 rfl rfl)) ?_
        refine Lex.q (v := .slice (some ⟨bc, oc, none⟩) n cc) rfl (OpQ.y (OpY.load1 Tone_37 rfl (Cells.blk (.tail _ (.tail _ (.tail _ (.tail _ (List.Mem.head _))))) ⟨rfl, trivial⟩))) ?_
        refine Lex.q (v := .int .i64 (((i : Nat) : Int))) rfl (OpQ.y (OpY.pure rfl)) ?_
        refine Lex.q (v := .pointer (some ⟨bc, oc + i * 3, none⟩)) rfl (OpQ.y (OpY.index (kk := i) Tsl_37 rfl rfl (by omega) (by omega) (by first | rfl | omega))) ?_
        refine Lex.q (v := .agg #[.int .i64 (ix xs (i * 3)), .int .i64 (ix xs (i * 3 + 1)), .int .i64 (ix xs (i * 3 + 2))]) rfl (OpQ.y (OpY.loadN (cs := [.int .i64 (ix xs (i * 3)), .int .i64 (ix xs (i * 3 + 1)), .int .i64 (ix xs (i * 3 + 2))]) Tagg_81 rfl (Cells.ap (k := i * 3) hc rfl (by omega) (pre3 (by omega))))) ?_
        refine Lex.q (v := .bool (nearG es m xs ps i)) rfl (OpQ.call (vs := [.agg #[.int .i64 N, vg], .slice Av pn cv, .agg #[.int .i64 (ix xs (i * 3)), .int .i64 (ix xs (i * 3 + 1)), .int .i64 (ix xs (i * 3 + 2))]]) (caps := []) Tcall_83 rfl rfl (fun w hs => l23Near_spec (fun ht => by have hh := hin i hin1 ht; exact ⟨hh.1.1, hh.1.2, hh.2.1.1, hh.2.1.2⟩) (hg.go hs) (hp.go hs))) ?_
        refine Lex.q (v := .bool (nearG es m xs ps i)) rfl (OpQ.y (OpY.pure rfl)) ?_
        refine Lex.done ?_
        refine Run.cond (b := nearG es m xs ps i) rfl (fun h35 => ?_) (fun h35 => ?_)
        · have p35 := h35; try simp only [bs] at p35
          have hgo : goB es m xs ps ds i = true := by unfold goB; simp_all
          have hopen := goB_open hgo
          have hu := und_set (ds := ds) (i := i) (by omega) hopen
          have hst := advS_step (L := L) hdl2 hin1 hgo hopen hlow
          have hmu : und (ds.set i true) * (n + 1) + (n + 1) = und ds * (n + 1) := by rw [hu, Nat.add_mul, Nat.one_mul]
          refine Run.seq ?_
          refine Run.region ?_
          refine Run.q (v := .pointer (some ⟨b3, 1, none⟩)) rfl (OpQ.y (OpY.fieldAddr Tfo_110_1 rfl rfl)) ?_
          refine Run.q (v := .slice (some ⟨gd, 0, none⟩) n cd) rfl (OpQ.y (OpY.load1 Tone_85 rfl (Cells.blk (.tail _ (.tail _ (.tail _ (List.Mem.head _)))) ⟨rfl, trivial⟩))) ?_
          refine Run.q (v := .int .i64 (((i : Nat) : Int))) rfl (OpQ.y (OpY.pure rfl)) ?_
          refine Run.q (v := .pointer (some ⟨gd, i, none⟩)) rfl (OpQ.y (OpY.index (kk := i) Tsl_85 rfl rfl (by omega) (by omega) (by first | rfl | omega))) ?_
          refine Run.step rfl (OpStep.storeOwn (us := [.bool true]) Tsize_4 rfl rfl rfl rfl (by rw [bls_set]; exact (.here _)) (by simp only [List.length_cons, List.length_nil]; omega) ?_)
          refine Run.done ?_
          refine Run.seq ?_
          refine Run.region ?_
          refine Run.q (v := .pointer (some ⟨b3, 3, none⟩)) rfl (OpQ.y (OpY.fieldAddr Tfo_110_3 rfl rfl)) ?_
          refine Run.q (v := ws) rfl (OpQ.y (OpY.load1 Tone_46 rfl (Cells.blk (.tail _ (.tail _ (.tail _ (List.Mem.head _)))) ⟨rfl, trivial⟩))) ?_
          refine Run.q (v := .int .i64 (((i : Nat) : Int))) rfl (OpQ.y (OpY.pure rfl)) ?_
          refine Run.q (v := .agg #[.int .i64 (((i : Nat) : Int)), .int .i64 0, .int .i64 0]) rfl (OpQ.y (OpY.build (cs := [.int .i64 (((i : Nat) : Int)), .int .i64 0, .int .i64 0]) (by kernel_rfl))) ?_
          refine Run.step rfl (OpStep.buildSlice (us := [.int .i64 (((i : Nat) : Int)), .int .i64 0, .int .i64 0]) Tsl_46 (by decide) (by decide) ⟨rfl, [.int .i64 (((i : Nat) : Int)), .int .i64 0, .int .i64 0], _, rfl, rfl, rfl, rfl⟩ rfl fun b6 => ?_)
          refine Run.step rfl (OpStep.append (H1 := [.own (.slice (some ⟨b6, 0, none⟩) 1 1) 101 3 1 ([.int .i64 (((i : Nat) : Int)), .int .i64 0, .int .i64 0]), .own (.slice (some ⟨gd, 0, none⟩) n cd) 4 1 n (bls (ds.set i true))]) (H2 := [.blk b4 110 [.slice none 0 0, .slice none 0 0, .int .i64 0, .slice none 0 0], .blk b3 110 [.slice Av pn cv, .slice (some ⟨gd, 0, none⟩) n cd, .int .i64 pv, ws], .blk b2 39 [.int .i64 Q, .slice (some ⟨bc, oc, none⟩) n cc], .blk b1 35 [.int .i64 N, vg]]) (v := ws) (u := .slice (some ⟨b6, 0, none⟩) 1 1) (n := L.length) (m := 1) (xs := ints (fl3 L)) (ys := [.int .i64 (((i : Nat) : Int)), .int .i64 0, .int .i64 0]) Tsl_46 (by decide) rfl rfl rfl rfl (fun w hs => hs.slOwn (.head _)) (by simp [Value.oneCell']) (by omega) (by simp only [maxLen]; omega) fun av2 hnav2 => ?_)
          refine Run.weak (H' := [.own (.slice (some ⟨b6, 0, none⟩) 1 1) 101 3 1 ([.int .i64 (((i : Nat) : Int)), .int .i64 0, .int .i64 0]), .own (.slice (some ⟨gd, 0, none⟩) n cd) 4 1 n (bls (ds.set i true)), .own av2 101 3 ((L ++ [st3 i]).length) (ints (fl3 (L ++ [st3 i]))), .blk b4 110 [.slice none 0 0, .slice none 0 0, .int .i64 0, .slice none 0 0], .blk b3 110 [.slice Av pn cv, .slice (some ⟨gd, 0, none⟩) n cd, .int .i64 pv, ws], .blk b2 39 [.int .i64 Q, .slice (some ⟨bc, oc, none⟩) n cc], .blk b1 35 [.int .i64 N, vg]]) (Some'.weak (.take (.take (.takeEq (by rw [ints_fl3]; exact congrArg (fun k => Res.own _ _ _ k _) (by simp)) (.take (.take (.take (.take (.nil _))))))))) ?_ ⟨_, _, rfl, fun _ => nofun, fun _ => nofun⟩
          refine Run.q (v := .pointer (some ⟨b3, 3, none⟩)) rfl (OpQ.y (OpY.fieldAddr Tfo_110_3 rfl rfl)) ?_
          refine Run.formOwn (.tail _ (.tail _ (List.Mem.head _))) (fun A_av21 c_av21 hv hcapc_av21 hmaxc_av21 => ?_) (fun _ _ _ => ⟨nofun, nofun, nofun⟩)
          subst hv
          refine Run.step rfl (OpStep.store (us := [.slice A_av21 ((L ++ [st3 i]).length) c_av21]) Tsize_46 rfl rfl rfl (.there _ (.there _ (.there _ (.there _ (.here _))))) (by simp only [List.length_cons, List.length_nil]; omega) ?_)
          show Run _ _ _ [.own (.slice (some ⟨b6, 0, none⟩) 1 1) 101 3 1 ([.int .i64 (((i : Nat) : Int)), .int .i64 0, .int .i64 0]), .own (.slice (some ⟨gd, 0, none⟩) n cd) 4 1 n (bls (ds.set i true)), .own (.slice A_av21 ((L ++ [st3 i]).length) c_av21) 101 3 ((L ++ [st3 i]).length) (ints (fl3 (L ++ [st3 i]))), .blk b4 110 [.slice none 0 0, .slice none 0 0, .int .i64 0, .slice none 0 0], .blk b3 110 [.slice Av pn cv, .slice (some ⟨gd, 0, none⟩) n cd, .int .i64 pv, .slice A_av21 ((L ++ [st3 i]).length) c_av21], .blk b2 39 [.int .i64 Q, .slice (some ⟨bc, oc, none⟩) n cc], .blk b1 35 [.int .i64 N, vg]]
          refine Run.done ?_
          refine Run.region ?_
          refine Run.q (v := .int .i64 (-1)) rfl (OpQ.y (OpY.pure rfl)) ?_
          refine Run.done ?_
          refine Run.blockEnd ?_
          refine Run.region ?_
          refine Run.q (v := .int .i64 (-1)) rfl (OpQ.y (OpY.pure rfl)) ?_
          refine Run.q (v := .int .i64 ((-1) + 1)) rfl (OpQ.y (OpY.add rfl rfl rfl (by omega) (by omega))) ?_
          refine Run.q (v := .int .i64 ((-1) + 1)) rfl (OpQ.y (OpY.pure rfl)) ?_
          refine Run.done ?_
          refine Run.goal ⟨(by repeat (first | exact Same.refl _ _ | refine Same.put rfl ?_ | refine Same.over rfl rfl ?_)), (0, ds.set i true, L ++ [st3 i], .slice (some ⟨gd, 0, none⟩) n cd, .slice A_av21 ((L ++ [st3 i]).length) c_av21), ?_, ?_, ?_, ?_⟩
          · first | exact ⟨hin1, hdl2, hlow1, hsame, hLl⟩ | exact ⟨Nat.zero_le _, by rw [List.length_set]; exact hdl2, fun j hj => by omega, by rw [← hst]; exact hsame, by rw [List.length_append]; simp only [List.length_cons, List.length_nil]; omega⟩
          · dsimp only; omega
          · exact ⟨(by show Value.int _ _ = Value.int _ _; congr 1 <;> omega), trivial⟩
          · exact ((Weak.selF [1, 1, 1, 1, 1, 1]).trans (Some'.weak (.takeEq (by first | rfl | simp) (.takeEq (by first | rfl | simp) (.take (.takeEq (by first | rfl | simp) (.takeEq (by first | rfl | simp) (.take (.nil _)))))))))
        · have p35 := h35; try simp only [bs] at p35
          have hgo : goB es m xs ps ds i = false := by unfold goB; simp_all
          have hlow1 : ∀ j, j < i + 1 → goB es m xs ps ds j = false := by
            intro j hj
            rcases Nat.lt_succ_iff_lt_or_eq.1 hj with h | h
            · exact hlow j h
            · rw [h]; exact hgo
          refine Run.skip ?_
          refine Run.blockEnd ?_
          refine Run.region ?_
          refine Run.q (v := .int .i64 (((i : Nat) : Int))) rfl (OpQ.y (OpY.pure rfl)) ?_
          refine Run.q (v := .int .i64 ((((i : Nat) : Int)) + 1)) rfl (OpQ.y (OpY.add rfl rfl rfl (by omega) (by omega))) ?_
          refine Run.q (v := .int .i64 ((((i : Nat) : Int)) + 1)) rfl (OpQ.y (OpY.pure rfl)) ?_
          refine Run.done ?_
          refine Run.goal ⟨(by repeat (first | exact Same.refl _ _ | refine Same.put rfl ?_ | refine Same.over rfl rfl ?_)), (i + 1, ds, L, .slice (some ⟨gd, 0, none⟩) n cd, ws), ?_, ?_, ?_, ?_⟩
          · first | exact ⟨hin1, hdl2, hlow1, hsame, hLl⟩ | exact ⟨Nat.zero_le _, by rw [List.length_set]; exact hdl2, fun j hj => by omega, by rw [← hst]; exact hsame, by rw [List.length_append]; simp only [List.length_cons, List.length_nil]; omega⟩
          · dsimp only; omega
          · exact ⟨(by show Value.int _ _ = Value.int _ _; congr 1 <;> omega), trivial⟩
          · exact ((Weak.refl _).trans (Some'.weak (.takeEq (by first | rfl | simp) (.takeEq (by first | rfl | simp) (.take (.takeEq (by first | rfl | simp) (.takeEq (by first | rfl | simp) (.take (.nil _)))))))))
      · refine Lex.q (v := .bool false) rfl (OpQ.y (OpY.moveB rfl h25)) ?_
        have p25 := h25; try simp only [bs] at p25
        have hgo : goB es m xs ps ds i = false := by unfold goB; simp_all
        have hlow1 : ∀ j, j < i + 1 → goB es m xs ps ds j = false := by
          intro j hj
          rcases Nat.lt_succ_iff_lt_or_eq.1 hj with h | h
          · exact hlow j h
          · rw [h]; exact hgo
        refine Lex.pass rfl ?_
        refine Lex.pass rfl ?_
        refine Lex.pass rfl ?_
        refine Lex.pass rfl ?_
        refine Lex.pass rfl ?_
        refine Lex.pass rfl ?_
        refine Lex.pass rfl ?_
        refine Lex.pass rfl ?_
        refine Lex.pass rfl ?_
        refine Lex.q (v := .bool false) rfl (OpQ.y (OpY.pure rfl)) ?_
        refine Lex.done ?_
        refine Run.cond (b := false) rfl (fun h => nomatch h) (fun _ => ?_)
        refine Run.skip ?_
        refine Run.blockEnd ?_
        refine Run.region ?_
        refine Run.q (v := .int .i64 (((i : Nat) : Int))) rfl (OpQ.y (OpY.pure rfl)) ?_
        refine Run.q (v := .int .i64 ((((i : Nat) : Int)) + 1)) rfl (OpQ.y (OpY.add rfl rfl rfl (by omega) (by omega))) ?_
        refine Run.q (v := .int .i64 ((((i : Nat) : Int)) + 1)) rfl (OpQ.y (OpY.pure rfl)) ?_
        refine Run.done ?_
        refine Run.goal ⟨(by repeat (first | exact Same.refl _ _ | refine Same.put rfl ?_ | refine Same.over rfl rfl ?_)), (i + 1, ds, L, .slice (some ⟨gd, 0, none⟩) n cd, ws), ?_, ?_, ?_, ?_⟩
        · first | exact ⟨hin1, hdl2, hlow1, hsame, hLl⟩ | exact ⟨Nat.zero_le _, by rw [List.length_set]; exact hdl2, fun j hj => by omega, by rw [← hst]; exact hsame, by rw [List.length_append]; simp only [List.length_cons, List.length_nil]; omega⟩
        · dsimp only; omega
        · exact ⟨(by show Value.int _ _ = Value.int _ _; congr 1 <;> omega), trivial⟩
        · exact ((Weak.refl _).trans (Some'.weak (.takeEq (by first | rfl | simp) (.takeEq (by first | rfl | simp) (.take (.takeEq (by first | rfl | simp) (.takeEq (by first | rfl | simp) (.take (.nil _)))))))))
    · have p17 := h17; try simp only [bs] at p17
      have hfin : advS (goB es m xs ps) n ds0 L0 = (ds, L) := by rw [← hinv.2.2.2.1]; exact advS_stop fun j hj => hinv.2.2.1 j (by omega)
      refine Run.exit rfl ?_
      refine Run.seq ?_
      refine Run.region ?_
      refine Run.q (v := .agg #[.slice Av pn cv, wd, .int .i64 pv, ws]) rfl (OpQ.y (OpY.loadN (cs := [.slice Av pn cv, wd, .int .i64 pv, ws]) Tagg_110 rfl (Cells.blk (.tail _ (.tail _ (.tail _ (List.Mem.head _)))) ⟨rfl, rfl, rfl, rfl, trivial⟩))) ?_
      refine Run.formOwn (.head _) (fun A_wd1 c_wd1 hv hcapc_wd1 hmaxc_wd1 => ?_) (fun _ _ _ => ⟨nofun, nofun, nofun⟩)
      subst hv
      refine Run.formOwn (.tail _ (List.Mem.head _)) (fun A_ws1 c_ws1 hv hcapc_ws1 hmaxc_ws1 => ?_) (fun _ _ _ => ⟨nofun, nofun, nofun⟩)
      subst hv
      refine Run.step rfl (OpStep.storeAll (us := [.slice Av pn cv, .slice A_wd1 n c_wd1, .int .i64 pv, .slice A_ws1 (L.length) c_ws1]) Tsize_110 rfl rfl rfl (.there _ (.there _ (.here _))) rfl ?_)
      refine Run.done ?_
      refine Run.ret ?_
      refine ⟨.agg #[.slice Av pn cv, .slice A_wd1 n c_wd1, .int .i64 pv, .slice A_ws1 (L.length) c_ws1], [.own (.slice A_wd1 n c_wd1) 4 1 n (bls ((advS (goB es m xs ps) n ds0 L0).1)), .own (.slice A_ws1 (L.length) c_ws1) 101 3 (((advS (goB es m xs ps) n ds0 L0).2).length) (ints (fl3 ((advS (goB es m xs ps) n ds0 L0).2)))], Out.cell1 (cs := [.slice Av pn cv, .slice A_wd1 n c_wd1, .int .i64 pv, .slice A_ws1 (L.length) c_ws1]) rfl Tagg_110 rfl (Cells.blk (.tail _ (.tail _ (List.Mem.head _))) ⟨rfl, rfl, rfl, rfl, trivial⟩), (Some'.weak (.takeEq (by rw [hfin]) (.takeEq (by rw [hfin]) (.nil _)))), ?_⟩
      exact ⟨_, _, rfl, rfl⟩

end Go.Proofs.Ytekikmdjldincaa
