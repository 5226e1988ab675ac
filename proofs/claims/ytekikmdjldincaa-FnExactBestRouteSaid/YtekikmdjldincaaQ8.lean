/- Walks: a node of the search after a swap. -/
import Derived.Test.YtekikmdjldincaaQ7
import Derived.Test.YtekikmdjldincaaProg
import Derived.Test.YtekikmdjldincaaQ2
set_option linter.unusedSimpArgs false
set_option linter.unusedVariables false
namespace Go.Proofs.Ytekikmdjldincaa
open Go Go.RowKit
namespace LsgT
theorem Tagg_87 : aggOf Try.prog 87 = some 6 := by kernel_rfl
theorem Tagg_90 : aggOf Try.prog 90 = some 7 := by kernel_rfl
theorem Tcall_51 : callable Try.prog 51 = true := by kernel_rfl
theorem Tcall_54 : callable Try.prog 54 = true := by kernel_rfl
theorem Tcall_77 : callable Try.prog 77 = true := by kernel_rfl
theorem Tcall_78 : callable Try.prog 78 = true := by kernel_rfl
theorem Tcall_79 : callable Try.prog 79 = true := by kernel_rfl
theorem Tfo_77_0 : fieldOff Try.prog 77 0 = some 0 := by kernel_rfl
theorem Tfo_77_1 : fieldOff Try.prog 77 1 = some 1 := by kernel_rfl
theorem Tfo_87_2 : fieldOff Try.prog 87 2 = some 4 := by kernel_rfl
theorem Tfo_87_3 : fieldOff Try.prog 87 3 = some 5 := by kernel_rfl
theorem Tfo_90_0 : fieldOff Try.prog 90 0 = some 0 := by kernel_rfl
theorem Tfo_90_1 : fieldOff Try.prog 90 1 = some 6 := by kernel_rfl
theorem Tone_28 : oneOf Try.prog 28 = true := by kernel_rfl
theorem Tone_3 : oneOf Try.prog 3 = true := by kernel_rfl
theorem Tone_46 : oneOf Try.prog 46 = true := by kernel_rfl
theorem Tone_85 : oneOf Try.prog 85 = true := by kernel_rfl
theorem Tsize_28 : (Try.prog.info? 28).map (·.size) = some 1 := by kernel_rfl
theorem Tsize_85 : (Try.prog.info? 85).map (·.size) = some 1 := by kernel_rfl
theorem Tsize_87 : (Try.prog.info? 87).map (·.size) = some 6 := by kernel_rfl
theorem Tsize_90 : (Try.prog.info? 90).map (·.size) = some 7 := by kernel_rfl
theorem Tsl_46 : sliceOf Try.prog 46 = some (101, 3, 24, [.int .i64 0, .int .i64 0, .int .i64 0]) := by kernel_rfl
theorem Tzero_87 : zeroOf Try.prog 87 = some [.int .i64 0, .slice none 0 0, .int .i64 0, .slice none 0 0, .slice none 0 0, .slice none 0 0] := by kernel_rfl
theorem Tzero_90 : zeroOf Try.prog 90 = some [.int .i64 0, .slice none 0 0, .int .i64 0, .slice none 0 0, .slice none 0 0, .slice none 0 0, .slice none 0 0] := by kernel_rfl
end LsgT
open LsgT
/-- Three may come up. -/
theorem DW.three {E : Env} {ops : Array Oper} {base : List Res} {k : List It} {fuel : Nat} {listed : Array Bool} {f : Fr} {H : List Res} {i j l : Nat} {o o' o2 : Oper} (hr : Region.ready .any ops listed = [i, j, l]) (hi : ops[i]? = some o) (hj : ops[j]? = some o') (hl : ops[l]? = some o2) (hw : wantedF ops f o = true) (hw' : wantedF ops f o' = true) (hw2 : wantedF ops f o2 = true)
    (h : OpStep E o f H fun f' H' => Weak H' base ∧ DW E ops base k fuel (listed.setIfInBounds i true) f' H')
    (h' : OpStep E o' f H fun f' H' => Weak H' base ∧ DW E ops base k fuel (listed.setIfInBounds j true) f' H')
    (h2 : OpStep E o2 f H fun f' H' => Weak H' base ∧ DW E ops base k fuel (listed.setIfInBounds l true) f' H') : DW E ops base k (fuel + 1) listed f H := by
  intro a w ha hst
  refine wpAnyH_all hr (by simp) fun q hq => ?_
  simp only [List.mem_cons, List.not_mem_nil, or_false] at hq
  rcases hq with rfl | rfl | rfl
  · unfold wpOp
    simp only [hi]
    rw [wantedF_eq ha, hw, if_pos rfl]
    exact .inl (h a w ha hst _ _ fun f' H' a' w' h1 h2 h3 => ⟨h3.1 _ _ _ h2, h3.2 a' w' h1 h2⟩)
  · unfold wpOp
    simp only [hj]
    rw [wantedF_eq ha, hw', if_pos rfl]
    exact .inl (h' a w ha hst _ _ fun f' H' a' w' h1 h2 h3 => ⟨h3.1 _ _ _ h2, h3.2 a' w' h1 h2⟩)
  · unfold wpOp
    simp only [hl]
    rw [wantedF_eq ha, hw2, if_pos rfl]
    exact .inl (h2 a w ha hst _ _ fun f' H' a' w' h1 h2 h3 => ⟨h3.1 _ _ _ h2, h3.2 a' w' h1 h2⟩)
theorem hin_of {N Q : Int} {xs ps : List Int} {n pn : Nat} (hc : circOk Q xs n = true) (hp : plOk N Q ps pn = true) : HIN n pn xs ps := by
  intro k hk h2
  have ha := two_args (circOk_gate hc hk) h2
  have h1 := plOk_at hp ha.1 ha.2.1
  have h3 := plOk_at hp ha.2.2.1 ha.2.2.2.1
  refine ⟨⟨ha.1, h1.1⟩, ⟨ha.2.2.1, h3.1⟩, fun e => ?_⟩
  simp only [plOk, Bool.and_eq_true] at hp
  have hd := (placeOk_iff.1 hp.1).2
  rcases Nat.lt_or_ge (ix xs (k * 3 + 1)).toNat (ix xs (k * 3 + 2)).toNat with h | h
  · exact hd _ _ h h3.1 e
  · exact hd _ _ (by omega) h1.1 e.symm

set_option maxHeartbeats 1000000 in
set_option maxRecDepth 20000 in
theorem swapped_spec {N Q a b : Int} {vg vc vp vd vs : Value} {m n pn : Nat} {es xs ps : List Int} {ds : List Bool} {L : List T3} {w : World} (hn4 : n ≤ 40) (h0 : 0 < pn) (h5 : pn ≤ 1000) (hdl : ds.length = n) (he : edgesOk N es m = true) (hin : HIN n pn xs (swL a b ps)) (hL : L.length ≤ 15000000) (hg : Sl w vg 2 m (ints es)) (hc : Sl w vc 3 n (ints xs)) (hp : Sl w vp 1 pn (ints ps)) (hd : Sl w vd 1 n (bls ds)) (hs_ : Sl w vs 3 L.length (ints (fl3 L))) : Calls Try.prog 55 #[.agg #[.int .i64 N, vg, .int .i64 Q, vc, vp, vd, vs], .agg #[.int .i64 a, .int .i64 b]] w (Post No w fun v H => ∃ vp2 vd2 vs2, v = .agg #[.int .i64 N, vg, .int .i64 Q, vc, vp2, vd2, vs2] ∧ H = [.own vp2 3 1 pn (ints (swL a b ps)), .own vd2 4 1 n (bls (advS (goB es m xs (swL a b ps)) n ds (L ++ [((-1, a, b) : T3)])).1), .own vs2 101 3 ((advS (goB es m xs (swL a b ps)) n ds (L ++ [((-1, a, b) : T3)])).2.length) (ints (fl3 (advS (goB es m xs (swL a b ps)) n ds (L ++ [((-1, a, b) : T3)])).2))]) := by
  have hpl : ps.length = pn := by have := hp.len; omega
  obtain ⟨Ac, cc, rfl, _, _⟩ := hc.form0
  obtain ⟨Ag, cg, rfl, _, _⟩ := hg.form0
  obtain ⟨Av, cv, rfl, _, _⟩ := hp.form0
  obtain ⟨Ad, cd, rfl, _, _⟩ := hd.form0
  obtain ⟨As, cs, rfl, _, _⟩ := hs_.form0
  refine enter (n := 37) (args := [.agg #[.int .i64 N, .slice Ag m cg, .int .i64 Q, .slice Ac n cc, .slice Av pn cv, .slice Ad n cd, .slice As (L.length) cs], .agg #[.int .i64 a, .int .i64 b]]) Try.func55 rfl rfl (St.empty _ _) ?_
  refine Run.seq ?_
  refine Run.region ?_
  refine Run.step rfl (OpStep.box (us := [.int .i64 N, .slice Ag m cg, .int .i64 Q, .slice Ac n cc, .slice Av pn cv, .slice Ad n cd, .slice As (L.length) cs]) rfl fun b1 => ?_)
  refine Run.step rfl (OpStep.box (us := [.int .i64 a, .int .i64 b]) rfl fun b2 => ?_)
  refine Run.step rfl (OpStep.alloc (zs := [.int .i64 0, .slice none 0 0, .int .i64 0, .slice none 0 0, .slice none 0 0, .slice none 0 0, .slice none 0 0]) Tzero_90 fun b3 => ?_)
  refine Run.done ?_
  refine Run.seq ?_
  refine Run.region ?_
  refine Run.q (v := .pointer (some ⟨b1, 0, none⟩)) rfl (OpQ.y (OpY.fieldAddr Tfo_90_0 rfl rfl)) ?_
  refine Run.q (v := .agg #[.int .i64 N, .slice Ag m cg, .int .i64 Q, .slice Ac n cc, .slice Av pn cv, .slice Ad n cd]) rfl (OpQ.y (OpY.loadN (cs := [.int .i64 N, .slice Ag m cg, .int .i64 Q, .slice Ac n cc, .slice Av pn cv, .slice Ad n cd]) Tagg_87 rfl (Cells.blk (.tail _ (.tail _ (List.Mem.head _))) ⟨rfl, rfl, rfl, rfl, rfl, rfl, trivial⟩))) ?_
  refine Run.step rfl (OpStep.alloc (zs := [.int .i64 0, .slice none 0 0, .int .i64 0, .slice none 0 0, .slice none 0 0, .slice none 0 0]) Tzero_87 fun b4 => ?_)
  refine Run.step rfl (OpStep.storeAll (us := [.int .i64 N, .slice Ag m cg, .int .i64 Q, .slice Ac n cc, .slice Av pn cv, .slice Ad n cd]) Tsize_87 rfl rfl rfl (.here _) rfl ?_)
  refine Run.done ?_
  refine Run.seq ?_
  refine Run.lastlyB [7, 9] [.blk b4 87 [.int .i64 N, .slice Ag m cg, .int .i64 Q, .slice Ac n cc, .slice Av pn cv, .slice Ad n cd], .blk b3 90 [.int .i64 0, .slice none 0 0, .int .i64 0, .slice none 0 0, .slice none 0 0, .slice none 0 0, .slice none 0 0], .blk b2 77 [.int .i64 a, .int .i64 b], .blk b1 90 [.int .i64 N, .slice Ag m cg, .int .i64 Q, .slice Ac n cc, .slice Av pn cv, .slice Ad n cd, .slice As (L.length) cs]] (by kernel_rfl) ?_
  refine DL.takeP (i := 0) (v := .pointer (some ⟨b4, 4, none⟩)) rfl (by kernel_rfl) (by kernel_rfl) (by kernel_rfl) (fun _ _ _ h => h) rfl (fun _ => OpY.fieldAddr Tfo_87_2 rfl rfl) ?_
  refine DL.take (i := 1) (v := .slice Av pn cv) rfl (by kernel_rfl) (by kernel_rfl) (by kernel_rfl) (by kernel_rfl) (fun _ _ _ h => h) (Some'.weak (.take (.take (.take (.take (.nil _)))))) rfl (OpY.load1 Tone_28 rfl (Cells.blk (.head _) ⟨rfl, trivial⟩)) ?_
  refine DL.takeP (i := 3) (v := .pointer (some ⟨b4, 5, none⟩)) rfl (by kernel_rfl) (by kernel_rfl) (by kernel_rfl) (fun _ _ _ h => h) rfl (fun _ => OpY.fieldAddr Tfo_87_3 rfl rfl) ?_
  refine DL.take (i := 4) (v := .slice Ad n cd) rfl (by kernel_rfl) (by kernel_rfl) (by kernel_rfl) (by kernel_rfl) (fun _ _ _ h => h) (Some'.weak (.take (.take (.take (.take (.nil _)))))) rfl (OpY.load1 Tone_85 rfl (Cells.blk (.head _) ⟨rfl, trivial⟩)) ?_
  refine DL.stepS (i := 2) (by kernel_rfl) rfl rfl (OpStep.call (vs := [.slice Av pn cv]) (caps := []) Tcall_54 rfl rfl (fun w hs => CloneInt_spec (by omega) h0 (hs.sl hp)) ?_)
  rintro up _ rfl
  refine ⟨(Some'.weak (.skip (.take (.take (.take (.take (.nil _))))))), ?_⟩
  refine DL.takeP (i := 6) (v := .pointer (some ⟨b4, 4, none⟩)) rfl (by kernel_rfl) (by kernel_rfl) (by kernel_rfl) (fun _ _ _ h => h) rfl (fun _ => OpY.fieldAddr Tfo_87_2 rfl rfl) ?_
  refine DL.stepS (i := 5) (by kernel_rfl) rfl rfl (OpStep.call (vs := [.slice Ad n cd]) (caps := []) Tcall_77 rfl rfl (fun w hs => CloneBool_spec (by omega) (hs.sl hd)) ?_)
  rintro ud _ rfl
  refine ⟨(Some'.weak (.skip (.skip (.take (.take (.take (.take (.nil _)))))))), ?_⟩
  refine DL.formOwn (.tail _ (List.Mem.head _)) (fun A_up1 c_up1 hv hcapc_up1 hmaxc_up1 => ?_)
  subst hv
  refine DL.step (i := 7) (by kernel_rfl) (by kernel_rfl) rfl rfl (OpStep.store (us := [.slice A_up1 pn c_up1]) Tsize_28 rfl rfl rfl (.there _ (.there _ (.here _))) (by simp only [List.length_cons, List.length_nil]; omega) ?_)
  show DL _ _ _ _ _ _ _ _ [.own ud 4 1 n (bls ds), .own (.slice A_up1 pn c_up1) 3 1 pn (ints ps), .blk b4 87 [.int .i64 N, .slice Ag m cg, .int .i64 Q, .slice Ac n cc, .slice A_up1 pn c_up1, .slice Ad n cd], .blk b3 90 [.int .i64 0, .slice none 0 0, .int .i64 0, .slice none 0 0, .slice none 0 0, .slice none 0 0, .slice none 0 0], .blk b2 77 [.int .i64 a, .int .i64 b], .blk b1 90 [.int .i64 N, .slice Ag m cg, .int .i64 Q, .slice Ac n cc, .slice Av pn cv, .slice Ad n cd, .slice As (L.length) cs]]
  refine DL.takeP (i := 8) (v := .pointer (some ⟨b4, 5, none⟩)) rfl (by kernel_rfl) (by kernel_rfl) (by kernel_rfl) (fun _ _ _ h => h) rfl (fun _ => OpY.fieldAddr Tfo_87_3 rfl rfl) ?_
  refine DL.formOwn (.head _) (fun A_ud1 c_ud1 hv hcapc_ud1 hmaxc_ud1 => ?_)
  subst hv
  refine DL.step (i := 9) (by kernel_rfl) (by kernel_rfl) rfl rfl (OpStep.store (us := [.slice A_ud1 n c_ud1]) Tsize_85 rfl rfl rfl (.there _ (.there _ (.here _))) (by simp only [List.length_cons, List.length_nil]; omega) ?_)
  show DL _ _ _ _ _ _ _ _ [.own (.slice A_ud1 n c_ud1) 4 1 n (bls ds), .own (.slice A_up1 pn c_up1) 3 1 pn (ints ps), .blk b4 87 [.int .i64 N, .slice Ag m cg, .int .i64 Q, .slice Ac n cc, .slice A_up1 pn c_up1, .slice A_ud1 n c_ud1], .blk b3 90 [.int .i64 0, .slice none 0 0, .int .i64 0, .slice none 0 0, .slice none 0 0, .slice none 0 0, .slice none 0 0], .blk b2 77 [.int .i64 a, .int .i64 b], .blk b1 90 [.int .i64 N, .slice Ag m cg, .int .i64 Q, .slice Ac n cc, .slice Av pn cv, .slice Ad n cd, .slice As (L.length) cs]]
  refine DL.done (by kernel_rfl) ?_
  refine Run.seq ?_
  refine Run.openOwn (.tail _ (List.Mem.head _)) (by omega) (fun gp cp hvgp hcapgp _ => ?_) (fun _ _ _ => ⟨nofun, nofun, nofun⟩)
  injection hvgp with hAgp _ hcgp; subst hAgp; subst hcgp
  refine Run.region ?_
  refine Run.q (v := .agg #[.int .i64 N, .slice Ag m cg, .int .i64 Q, .slice Ac n cc, .slice (some ⟨gp, 0, none⟩) pn c_up1, .slice A_ud1 n c_ud1]) rfl (OpQ.y (OpY.loadN (cs := [.int .i64 N, .slice Ag m cg, .int .i64 Q, .slice Ac n cc, .slice (some ⟨gp, 0, none⟩) pn c_up1, .slice A_ud1 n c_ud1]) Tagg_87 rfl (Cells.blk (.tail _ (.tail _ (List.Mem.head _))) ⟨rfl, rfl, rfl, rfl, rfl, rfl, trivial⟩))) ?_
  refine Run.q (v := .pointer (some ⟨b2, 0, none⟩)) rfl (OpQ.y (OpY.fieldAddr Tfo_77_0 rfl rfl)) ?_
  refine Run.q (v := .int .i64 a) rfl (OpQ.y (OpY.load1 Tone_3 rfl (Cells.blk (.tail _ (.tail _ (.tail _ (.tail _ (List.Mem.head _))))) ⟨rfl, trivial⟩))) ?_
  refine Run.q (v := .pointer (some ⟨b2, 1, none⟩)) rfl (OpQ.y (OpY.fieldAddr Tfo_77_1 rfl rfl)) ?_
  refine Run.q (v := .int .i64 b) rfl (OpQ.y (OpY.load1 Tone_3 rfl (Cells.blk (.tail _ (.tail _ (.tail _ (.tail _ (List.Mem.head _))))) ⟨rfl, trivial⟩))) ?_
  refine Run.step rfl (OpStep.callM (H1 := [.own (.slice (some ⟨gp, 0, none⟩) pn c_up1) 3 1 pn (ints ps)]) (H2 := [.own (.slice A_ud1 n c_ud1) 4 1 n (bls ds), .blk b4 87 [.int .i64 N, .slice Ag m cg, .int .i64 Q, .slice Ac n cc, .slice (some ⟨gp, 0, none⟩) pn c_up1, .slice A_ud1 n c_ud1], .blk b3 90 [.int .i64 0, .slice none 0 0, .int .i64 0, .slice none 0 0, .slice none 0 0, .slice none 0 0, .slice none 0 0], .blk b2 77 [.int .i64 a, .int .i64 b], .blk b1 90 [.int .i64 N, .slice Ag m cg, .int .i64 Q, .slice Ac n cc, .slice Av pn cv, .slice Ad n cd, .slice As (L.length) cs]]) (vs := [.agg #[.int .i64 N, .slice Ag m cg, .int .i64 Q, .slice Ac n cc, .slice (some ⟨gp, 0, none⟩) pn c_up1, .slice A_ud1 n c_ud1], .int .i64 a, .int .i64 b]) (caps := []) Tcall_78 rfl rfl (Weak.selF [1]) (fun w hs => rswap_spec hpl (hs.holds _ (.head _))) ?_)
  rintro _ _ ⟨rfl, rfl⟩
  show Run _ _ (putF _ _ _ (.tuple #[])) [.own (.slice (some ⟨gp, 0, none⟩) pn c_up1) 3 1 pn (ints (swL a b ps)), .own (.slice A_ud1 n c_ud1) 4 1 n (bls ds), .blk b4 87 [.int .i64 N, .slice Ag m cg, .int .i64 Q, .slice Ac n cc, .slice (some ⟨gp, 0, none⟩) pn c_up1, .slice A_ud1 n c_ud1], .blk b3 90 [.int .i64 0, .slice none 0 0, .int .i64 0, .slice none 0 0, .slice none 0 0, .slice none 0 0, .slice none 0 0], .blk b2 77 [.int .i64 a, .int .i64 b], .blk b1 90 [.int .i64 N, .slice Ag m cg, .int .i64 Q, .slice Ac n cc, .slice Av pn cv, .slice Ad n cd, .slice As (L.length) cs]]
  refine Run.done ?_
  refine Run.seq ?_
  refine Run.heldB (base := [.blk b4 87 [.int .i64 N, .slice Ag m cg, .int .i64 Q, .slice Ac n cc, .slice (some ⟨gp, 0, none⟩) pn c_up1, .slice A_ud1 n c_ud1], .blk b3 90 [.int .i64 0, .slice none 0 0, .int .i64 0, .slice none 0 0, .slice none 0 0, .slice none 0 0, .slice none 0 0], .blk b2 77 [.int .i64 a, .int .i64 b], .blk b1 90 [.int .i64 N, .slice Ag m cg, .int .i64 Q, .slice Ac n cc, .slice Av pn cv, .slice Ad n cd, .slice As (L.length) cs]]) (by kernel_rfl) ?_
  refine DW.take (i := 0) (v := .agg #[.int .i64 N, .slice Ag m cg, .int .i64 Q, .slice Ac n cc, .slice (some ⟨gp, 0, none⟩) pn c_up1, .slice A_ud1 n c_ud1]) rfl (by kernel_rfl) (by kernel_rfl) (by kernel_rfl) (fun _ _ _ h => h) (Some'.weak (.skip (.skip (.take (.take (.take (.take (.nil _)))))))) rfl (OpY.loadN (cs := [.int .i64 N, .slice Ag m cg, .int .i64 Q, .slice Ac n cc, .slice (some ⟨gp, 0, none⟩) pn c_up1, .slice A_ud1 n c_ud1]) Tagg_87 rfl (Cells.blk (.head _) ⟨rfl, rfl, rfl, rfl, rfl, rfl, trivial⟩)) ?_
  refine DW.take (i := 1) (v := .pointer (some ⟨b1, 6, none⟩)) rfl (by kernel_rfl) (by kernel_rfl) (by kernel_rfl) (fun _ _ _ h => h) (Some'.weak (.skip (.skip (.take (.take (.take (.take (.nil _)))))))) rfl (OpY.fieldAddr Tfo_90_1 rfl rfl) ?_
  refine DW.take (i := 2) (v := .slice As (L.length) cs) rfl (by kernel_rfl) (by kernel_rfl) (by kernel_rfl) (fun _ _ _ h => h) (Some'.weak (.skip (.skip (.take (.take (.take (.take (.nil _)))))))) rfl (OpY.load1 Tone_46 rfl (Cells.blk (.tail _ (.tail _ (.tail _ (List.Mem.head _)))) ⟨rfl, trivial⟩)) ?_
  refine DW.take (i := 4) (v := .pointer (some ⟨b2, 0, none⟩)) rfl (by kernel_rfl) (by kernel_rfl) (by kernel_rfl) (fun _ _ _ h => h) (Some'.weak (.skip (.skip (.take (.take (.take (.take (.nil _)))))))) rfl (OpY.fieldAddr Tfo_77_0 rfl rfl) ?_
  refine DW.take (i := 5) (v := .int .i64 a) rfl (by kernel_rfl) (by kernel_rfl) (by kernel_rfl) (fun _ _ _ h => h) (Some'.weak (.skip (.skip (.take (.take (.take (.take (.nil _)))))))) rfl (OpY.load1 Tone_3 rfl (Cells.blk (.tail _ (.tail _ (List.Mem.head _))) ⟨rfl, trivial⟩)) ?_
  refine DW.take (i := 6) (v := .pointer (some ⟨b2, 1, none⟩)) rfl (by kernel_rfl) (by kernel_rfl) (by kernel_rfl) (fun _ _ _ h => h) (Some'.weak (.skip (.skip (.take (.take (.take (.take (.nil _)))))))) rfl (OpY.fieldAddr Tfo_77_1 rfl rfl) ?_
  refine DW.take (i := 7) (v := .int .i64 b) rfl (by kernel_rfl) (by kernel_rfl) (by kernel_rfl) (fun _ _ _ h => h) (Some'.weak (.skip (.skip (.take (.take (.take (.take (.nil _)))))))) rfl (OpY.load1 Tone_3 rfl (Cells.blk (.tail _ (.tail _ (List.Mem.head _))) ⟨rfl, trivial⟩)) ?_
  refine DW.take (i := 8) (v := .agg #[.int .i64 (-1), .int .i64 a, .int .i64 b]) rfl (by kernel_rfl) (by kernel_rfl) (by kernel_rfl) (fun _ _ _ h => h) (Some'.weak (.skip (.skip (.take (.take (.take (.take (.nil _)))))))) rfl (OpY.build (cs := [.int .i64 (-1), .int .i64 a, .int .i64 b]) (by kernel_rfl)) ?_
  refine DW.three (i := 3) (j := 9) (l := 12) (by kernel_rfl) rfl rfl rfl rfl rfl rfl ?_ ?_ ?_
  · refine OpStep.call (vs := [.slice As (L.length) cs]) (caps := []) Tcall_79 rfl rfl (fun w hs => CloneStep_spec (by omega) (hs.sl hs_)) ?_
    rintro us _ rfl
    refine ⟨(Some'.weak (.skip (.skip (.skip (.take (.take (.take (.take (.nil _))))))))), ?_⟩
    refine DW.two (i := 9) (j := 12) (by kernel_rfl) rfl rfl rfl rfl ?_ ?_
    · refine OpStep.buildSlice (us := [.int .i64 (-1), .int .i64 a, .int .i64 b]) Tsl_46 (by decide) (by decide) ⟨rfl, [.int .i64 (-1), .int .i64 a, .int .i64 b], _, rfl, rfl, rfl, rfl⟩ rfl fun b5 => ?_
      refine ⟨(Some'.weak (.skip (.skip (.skip (.skip (.take (.take (.take (.take (.nil _)))))))))), ?_⟩
      refine DW.two (i := 10) (j := 12) (by kernel_rfl) rfl rfl rfl rfl ?_ ?_
      · refine OpStep.append (H1 := [.own (.slice (some ⟨b5, 0, none⟩) 1 1) 101 3 1 ([.int .i64 (-1), .int .i64 a, .int .i64 b])]) (H2 := [.own (.slice (some ⟨gp, 0, none⟩) pn c_up1) 3 1 pn (ints (swL a b ps)), .own (.slice A_ud1 n c_ud1) 4 1 n (bls ds), .blk b4 87 [.int .i64 N, .slice Ag m cg, .int .i64 Q, .slice Ac n cc, .slice (some ⟨gp, 0, none⟩) pn c_up1, .slice A_ud1 n c_ud1], .blk b3 90 [.int .i64 0, .slice none 0 0, .int .i64 0, .slice none 0 0, .slice none 0 0, .slice none 0 0, .slice none 0 0], .blk b2 77 [.int .i64 a, .int .i64 b], .blk b1 90 [.int .i64 N, .slice Ag m cg, .int .i64 Q, .slice Ac n cc, .slice Av pn cv, .slice Ad n cd, .slice As (L.length) cs]]) (v := us) (u := .slice (some ⟨b5, 0, none⟩) 1 1) (n := L.length) (m := 1) (xs := ints (fl3 L)) (ys := [.int .i64 (-1), .int .i64 a, .int .i64 b]) Tsl_46 (by decide) rfl rfl rfl rfl (fun w hs => hs.slOwn (.head _)) (by simp [Value.oneCell']) (by omega) (by simp only [maxLen]; omega) fun av1 hnav1 => ?_
        refine DW.weakS (H' := [.own (.slice (some ⟨b5, 0, none⟩) 1 1) 101 3 1 ([.int .i64 (-1), .int .i64 a, .int .i64 b]), .own av1 101 3 ((L ++ [((-1, a, b) : T3)]).length) (ints (fl3 (L ++ [((-1, a, b) : T3)]))), .own (.slice (some ⟨gp, 0, none⟩) pn c_up1) 3 1 pn (ints (swL a b ps)), .own (.slice A_ud1 n c_ud1) 4 1 n (bls ds), .blk b4 87 [.int .i64 N, .slice Ag m cg, .int .i64 Q, .slice Ac n cc, .slice (some ⟨gp, 0, none⟩) pn c_up1, .slice A_ud1 n c_ud1], .blk b3 90 [.int .i64 0, .slice none 0 0, .int .i64 0, .slice none 0 0, .slice none 0 0, .slice none 0 0, .slice none 0 0], .blk b2 77 [.int .i64 a, .int .i64 b], .blk b1 90 [.int .i64 N, .slice Ag m cg, .int .i64 Q, .slice Ac n cc, .slice Av pn cv, .slice Ad n cd, .slice As (L.length) cs]]) (Some'.weak (.take (.takeEq (by rw [ints_fl3]; exact congrArg (fun k => Res.own _ _ _ k _) (by simp)) (.take (.take (.take (.take (.take (.take (.nil _)))))))))) ?_
        refine ⟨(Some'.weak (.skip (.skip (.skip (.skip (.take (.take (.take (.take (.nil _)))))))))), ?_⟩
        refine DW.formOwn (.tail _ (List.Mem.head _)) (fun A_av11 c_av11 hv hcapc_av11 hmaxc_av11 => ?_)
        subst hv
        refine DW.take (i := 11) (v := .agg #[.int .i64 N, .slice Ag m cg, .int .i64 Q, .slice Ac n cc, .slice (some ⟨gp, 0, none⟩) pn c_up1, .slice A_ud1 n c_ud1, .slice A_av11 ((L ++ [((-1, a, b) : T3)]).length) c_av11]) rfl (by kernel_rfl) (by kernel_rfl) (by kernel_rfl) (fun _ _ _ h => h) (Some'.weak (.skip (.skip (.skip (.skip (.take (.take (.take (.take (.nil _)))))))))) rfl (OpY.build (cs := [.int .i64 N, .slice Ag m cg, .int .i64 Q, .slice Ac n cc, .slice (some ⟨gp, 0, none⟩) pn c_up1, .slice A_ud1 n c_ud1, .slice A_av11 ((L ++ [((-1, a, b) : T3)]).length) c_av11]) (by kernel_rfl)) ?_
        refine DW.step (i := 12) (by kernel_rfl) rfl rfl (OpStep.alloc (zs := [.int .i64 0, .slice none 0 0, .int .i64 0, .slice none 0 0, .slice none 0 0, .slice none 0 0, .slice none 0 0]) Tzero_90 fun b6 => ?_)
        refine ⟨(Some'.weak (.skip (.skip (.skip (.skip (.skip (.take (.take (.take (.take (.nil _))))))))))), ?_⟩
        refine DW.step (i := 13) (by kernel_rfl) rfl rfl (OpStep.storeAll (us := [.int .i64 N, .slice Ag m cg, .int .i64 Q, .slice Ac n cc, .slice (some ⟨gp, 0, none⟩) pn c_up1, .slice A_ud1 n c_ud1, .slice A_av11 ((L ++ [((-1, a, b) : T3)]).length) c_av11]) Tsize_90 rfl rfl rfl (.here _) rfl ?_)
        refine ⟨(Some'.weak (.skip (.skip (.skip (.skip (.skip (.take (.take (.take (.take (.nil _))))))))))), ?_⟩
        refine DW.done (by kernel_rfl) ?_
        refine Run.seq ?_
        refine Run.region ?_
        refine Run.step rfl (OpStep.callM (H1 := [.blk b6 90 [.int .i64 N, .slice Ag m cg, .int .i64 Q, .slice Ac n cc, .slice (some ⟨gp, 0, none⟩) pn c_up1, .slice A_ud1 n c_ud1, .slice A_av11 ((L ++ [((-1, a, b) : T3)]).length) c_av11], .own (.slice A_ud1 n c_ud1) 4 1 n (bls ds), .own (.slice A_av11 ((L ++ [((-1, a, b) : T3)]).length) c_av11) 101 3 ((L ++ [((-1, a, b) : T3)]).length) (ints (fl3 (L ++ [((-1, a, b) : T3)])))]) (H2 := [.own (.slice (some ⟨b5, 0, none⟩) 1 1) 101 3 1 ([.int .i64 (-1), .int .i64 a, .int .i64 b]), .own (.slice (some ⟨gp, 0, none⟩) pn c_up1) 3 1 pn (ints (swL a b ps)), .blk b4 87 [.int .i64 N, .slice Ag m cg, .int .i64 Q, .slice Ac n cc, .slice (some ⟨gp, 0, none⟩) pn c_up1, .slice A_ud1 n c_ud1], .blk b3 90 [.int .i64 0, .slice none 0 0, .int .i64 0, .slice none 0 0, .slice none 0 0, .slice none 0 0, .slice none 0 0], .blk b2 77 [.int .i64 a, .int .i64 b], .blk b1 90 [.int .i64 N, .slice Ag m cg, .int .i64 Q, .slice Ac n cc, .slice Av pn cv, .slice Ad n cd, .slice As (L.length) cs]]) (vs := [.pointer (some ⟨b6, 0, none⟩)]) (caps := []) Tcall_51 rfl rfl (Weak.selF [0, 3, 1]) (fun w hs => advance_spec (by omega) hdl he hin (by rw [List.length_append]; simp only [List.length_cons, List.length_nil]; omega) (Ap.arg hg hs) (Ap.arg hc hs) (Ap.own (.tail _ (.head _)) hs) (hs.sub (List.sublist_append_left _ _)).self) ?_)
        rintro _ _ ⟨vd2, vs2, rfl, rfl⟩
        show Run _ _ (putF _ _ _ (.tuple #[])) [.blk b6 90 [.int .i64 N, .slice Ag m cg, .int .i64 Q, .slice Ac n cc, .slice (some ⟨gp, 0, none⟩) pn c_up1, vd2, vs2], .own vd2 4 1 n (bls (advS (goB es m xs (swL a b ps)) n ds (L ++ [((-1, a, b) : T3)])).1), .own vs2 101 3 ((advS (goB es m xs (swL a b ps)) n ds (L ++ [((-1, a, b) : T3)])).2.length) (ints (fl3 (advS (goB es m xs (swL a b ps)) n ds (L ++ [((-1, a, b) : T3)])).2)), .own (.slice (some ⟨b5, 0, none⟩) 1 1) 101 3 1 ([.int .i64 (-1), .int .i64 a, .int .i64 b]), .own (.slice (some ⟨gp, 0, none⟩) pn c_up1) 3 1 pn (ints (swL a b ps)), .blk b4 87 [.int .i64 N, .slice Ag m cg, .int .i64 Q, .slice Ac n cc, .slice (some ⟨gp, 0, none⟩) pn c_up1, .slice A_ud1 n c_ud1], .blk b3 90 [.int .i64 0, .slice none 0 0, .int .i64 0, .slice none 0 0, .slice none 0 0, .slice none 0 0, .slice none 0 0], .blk b2 77 [.int .i64 a, .int .i64 b], .blk b1 90 [.int .i64 N, .slice Ag m cg, .int .i64 Q, .slice Ac n cc, .slice Av pn cv, .slice Ad n cd, .slice As (L.length) cs]]
        refine Run.done ?_
        refine Run.seq ?_
        refine Run.region ?_
        refine Run.q (v := .agg #[.int .i64 N, .slice Ag m cg, .int .i64 Q, .slice Ac n cc, .slice (some ⟨gp, 0, none⟩) pn c_up1, vd2, vs2]) rfl (OpQ.y (OpY.loadN (cs := [.int .i64 N, .slice Ag m cg, .int .i64 Q, .slice Ac n cc, .slice (some ⟨gp, 0, none⟩) pn c_up1, vd2, vs2]) Tagg_90 rfl (Cells.blk (.head _) ⟨rfl, rfl, rfl, rfl, rfl, rfl, rfl, trivial⟩))) ?_
        refine Run.formOwn (.tail _ (List.Mem.head _)) (fun A_vd21 c_vd21 hv hcapc_vd21 hmaxc_vd21 => ?_) (fun _ _ _ => ⟨nofun, nofun, nofun⟩)
        subst hv
        refine Run.formOwn (.tail _ (.tail _ (List.Mem.head _))) (fun A_vs21 c_vs21 hv hcapc_vs21 hmaxc_vs21 => ?_) (fun _ _ _ => ⟨nofun, nofun, nofun⟩)
        subst hv
        refine Run.step rfl (OpStep.storeAll (us := [.int .i64 N, .slice Ag m cg, .int .i64 Q, .slice Ac n cc, .slice (some ⟨gp, 0, none⟩) pn c_up1, .slice A_vd21 n c_vd21, .slice A_vs21 ((advS (goB es m xs (swL a b ps)) n ds (L ++ [((-1, a, b) : T3)])).2.length) c_vs21]) Tsize_90 rfl rfl rfl (.there _ (.there _ (.there _ (.there _ (.there _ (.there _ (.here _))))))) rfl ?_)
        refine Run.done ?_
        refine Run.ret ?_
        refine ⟨.agg #[.int .i64 N, .slice Ag m cg, .int .i64 Q, .slice Ac n cc, .slice (some ⟨gp, 0, none⟩) pn c_up1, .slice A_vd21 n c_vd21, .slice A_vs21 ((advS (goB es m xs (swL a b ps)) n ds (L ++ [((-1, a, b) : T3)])).2.length) c_vs21], [.own (.slice (some ⟨gp, 0, none⟩) pn c_up1) 3 1 pn (ints (swL a b ps)), .own (.slice A_vd21 n c_vd21) 4 1 n (bls (advS (goB es m xs (swL a b ps)) n ds (L ++ [((-1, a, b) : T3)])).1), .own (.slice A_vs21 ((advS (goB es m xs (swL a b ps)) n ds (L ++ [((-1, a, b) : T3)])).2.length) c_vs21) 101 3 ((advS (goB es m xs (swL a b ps)) n ds (L ++ [((-1, a, b) : T3)])).2.length) (ints (fl3 (advS (goB es m xs (swL a b ps)) n ds (L ++ [((-1, a, b) : T3)])).2))], Out.cell1 (cs := [.int .i64 N, .slice Ag m cg, .int .i64 Q, .slice Ac n cc, .slice (some ⟨gp, 0, none⟩) pn c_up1, .slice A_vd21 n c_vd21, .slice A_vs21 ((advS (goB es m xs (swL a b ps)) n ds (L ++ [((-1, a, b) : T3)])).2.length) c_vs21]) rfl Tagg_90 rfl (Cells.blk (.tail _ (.tail _ (.tail _ (.tail _ (.tail _ (.tail _ (List.Mem.head _))))))) ⟨rfl, rfl, rfl, rfl, rfl, rfl, rfl, trivial⟩), ((Weak.selF [4, 1, 1]).trans (Some'.weak (.take (.take (.take (.nil _)))))), ?_⟩
        exact ⟨_, _, _, rfl, rfl⟩
      · refine OpStep.alloc (zs := [.int .i64 0, .slice none 0 0, .int .i64 0, .slice none 0 0, .slice none 0 0, .slice none 0 0, .slice none 0 0]) Tzero_90 fun b7 => ?_
        refine ⟨(Some'.weak (.skip (.skip (.skip (.skip (.skip (.take (.take (.take (.take (.nil _))))))))))), ?_⟩
        refine DW.step (i := 10) (by kernel_rfl) rfl rfl (OpStep.append (H1 := [.blk b7 90 [.int .i64 0, .slice none 0 0, .int .i64 0, .slice none 0 0, .slice none 0 0, .slice none 0 0, .slice none 0 0], .own (.slice (some ⟨b5, 0, none⟩) 1 1) 101 3 1 ([.int .i64 (-1), .int .i64 a, .int .i64 b])]) (H2 := [.own (.slice (some ⟨gp, 0, none⟩) pn c_up1) 3 1 pn (ints (swL a b ps)), .own (.slice A_ud1 n c_ud1) 4 1 n (bls ds), .blk b4 87 [.int .i64 N, .slice Ag m cg, .int .i64 Q, .slice Ac n cc, .slice (some ⟨gp, 0, none⟩) pn c_up1, .slice A_ud1 n c_ud1], .blk b3 90 [.int .i64 0, .slice none 0 0, .int .i64 0, .slice none 0 0, .slice none 0 0, .slice none 0 0, .slice none 0 0], .blk b2 77 [.int .i64 a, .int .i64 b], .blk b1 90 [.int .i64 N, .slice Ag m cg, .int .i64 Q, .slice Ac n cc, .slice Av pn cv, .slice Ad n cd, .slice As (L.length) cs]]) (v := us) (u := .slice (some ⟨b5, 0, none⟩) 1 1) (n := L.length) (m := 1) (xs := ints (fl3 L)) (ys := [.int .i64 (-1), .int .i64 a, .int .i64 b]) Tsl_46 (by decide) rfl rfl rfl rfl (fun w hs => hs.slOwn (.tail _ (List.Mem.head _))) (by simp [Value.oneCell']) (by omega) (by simp only [maxLen]; omega) fun av2 hnav2 => ?_)
        refine DW.weakS (H' := [.blk b7 90 [.int .i64 0, .slice none 0 0, .int .i64 0, .slice none 0 0, .slice none 0 0, .slice none 0 0, .slice none 0 0], .own (.slice (some ⟨b5, 0, none⟩) 1 1) 101 3 1 ([.int .i64 (-1), .int .i64 a, .int .i64 b]), .own av2 101 3 ((L ++ [((-1, a, b) : T3)]).length) (ints (fl3 (L ++ [((-1, a, b) : T3)]))), .own (.slice (some ⟨gp, 0, none⟩) pn c_up1) 3 1 pn (ints (swL a b ps)), .own (.slice A_ud1 n c_ud1) 4 1 n (bls ds), .blk b4 87 [.int .i64 N, .slice Ag m cg, .int .i64 Q, .slice Ac n cc, .slice (some ⟨gp, 0, none⟩) pn c_up1, .slice A_ud1 n c_ud1], .blk b3 90 [.int .i64 0, .slice none 0 0, .int .i64 0, .slice none 0 0, .slice none 0 0, .slice none 0 0, .slice none 0 0], .blk b2 77 [.int .i64 a, .int .i64 b], .blk b1 90 [.int .i64 N, .slice Ag m cg, .int .i64 Q, .slice Ac n cc, .slice Av pn cv, .slice Ad n cd, .slice As (L.length) cs]]) (Some'.weak (.take (.take (.takeEq (by rw [ints_fl3]; exact congrArg (fun k => Res.own _ _ _ k _) (by simp)) (.take (.take (.take (.take (.take (.take (.nil _))))))))))) ?_
        refine ⟨(Some'.weak (.skip (.skip (.skip (.skip (.skip (.take (.take (.take (.take (.nil _))))))))))), ?_⟩
        refine DW.formOwn (.tail _ (.tail _ (List.Mem.head _))) (fun A_av21 c_av21 hv hcapc_av21 hmaxc_av21 => ?_)
        subst hv
        refine DW.take (i := 11) (v := .agg #[.int .i64 N, .slice Ag m cg, .int .i64 Q, .slice Ac n cc, .slice (some ⟨gp, 0, none⟩) pn c_up1, .slice A_ud1 n c_ud1, .slice A_av21 ((L ++ [((-1, a, b) : T3)]).length) c_av21]) rfl (by kernel_rfl) (by kernel_rfl) (by kernel_rfl) (fun _ _ _ h => h) (Some'.weak (.skip (.skip (.skip (.skip (.skip (.take (.take (.take (.take (.nil _))))))))))) rfl (OpY.build (cs := [.int .i64 N, .slice Ag m cg, .int .i64 Q, .slice Ac n cc, .slice (some ⟨gp, 0, none⟩) pn c_up1, .slice A_ud1 n c_ud1, .slice A_av21 ((L ++ [((-1, a, b) : T3)]).length) c_av21]) (by kernel_rfl)) ?_
        refine DW.step (i := 13) (by kernel_rfl) rfl rfl (OpStep.storeAll (us := [.int .i64 N, .slice Ag m cg, .int .i64 Q, .slice Ac n cc, .slice (some ⟨gp, 0, none⟩) pn c_up1, .slice A_ud1 n c_ud1, .slice A_av21 ((L ++ [((-1, a, b) : T3)]).length) c_av21]) Tsize_90 rfl rfl rfl (.here _) rfl ?_)
        refine ⟨(Some'.weak (.skip (.skip (.skip (.skip (.skip (.take (.take (.take (.take (.nil _))))))))))), ?_⟩
        refine DW.done (by kernel_rfl) ?_
        refine Run.seq ?_
        refine Run.region ?_
        refine Run.step rfl (OpStep.callM (H1 := [.blk b7 90 [.int .i64 N, .slice Ag m cg, .int .i64 Q, .slice Ac n cc, .slice (some ⟨gp, 0, none⟩) pn c_up1, .slice A_ud1 n c_ud1, .slice A_av21 ((L ++ [((-1, a, b) : T3)]).length) c_av21], .own (.slice A_ud1 n c_ud1) 4 1 n (bls ds), .own (.slice A_av21 ((L ++ [((-1, a, b) : T3)]).length) c_av21) 101 3 ((L ++ [((-1, a, b) : T3)]).length) (ints (fl3 (L ++ [((-1, a, b) : T3)])))]) (H2 := [.own (.slice (some ⟨b5, 0, none⟩) 1 1) 101 3 1 ([.int .i64 (-1), .int .i64 a, .int .i64 b]), .own (.slice (some ⟨gp, 0, none⟩) pn c_up1) 3 1 pn (ints (swL a b ps)), .blk b4 87 [.int .i64 N, .slice Ag m cg, .int .i64 Q, .slice Ac n cc, .slice (some ⟨gp, 0, none⟩) pn c_up1, .slice A_ud1 n c_ud1], .blk b3 90 [.int .i64 0, .slice none 0 0, .int .i64 0, .slice none 0 0, .slice none 0 0, .slice none 0 0, .slice none 0 0], .blk b2 77 [.int .i64 a, .int .i64 b], .blk b1 90 [.int .i64 N, .slice Ag m cg, .int .i64 Q, .slice Ac n cc, .slice Av pn cv, .slice Ad n cd, .slice As (L.length) cs]]) (vs := [.pointer (some ⟨b7, 0, none⟩)]) (caps := []) Tcall_51 rfl rfl (Weak.selF [0, 3, 1]) (fun w hs => advance_spec (by omega) hdl he hin (by rw [List.length_append]; simp only [List.length_cons, List.length_nil]; omega) (Ap.arg hg hs) (Ap.arg hc hs) (Ap.own (.tail _ (.head _)) hs) (hs.sub (List.sublist_append_left _ _)).self) ?_)
        rintro _ _ ⟨vd2, vs2, rfl, rfl⟩
        show Run _ _ (putF _ _ _ (.tuple #[])) [.blk b7 90 [.int .i64 N, .slice Ag m cg, .int .i64 Q, .slice Ac n cc, .slice (some ⟨gp, 0, none⟩) pn c_up1, vd2, vs2], .own vd2 4 1 n (bls (advS (goB es m xs (swL a b ps)) n ds (L ++ [((-1, a, b) : T3)])).1), .own vs2 101 3 ((advS (goB es m xs (swL a b ps)) n ds (L ++ [((-1, a, b) : T3)])).2.length) (ints (fl3 (advS (goB es m xs (swL a b ps)) n ds (L ++ [((-1, a, b) : T3)])).2)), .own (.slice (some ⟨b5, 0, none⟩) 1 1) 101 3 1 ([.int .i64 (-1), .int .i64 a, .int .i64 b]), .own (.slice (some ⟨gp, 0, none⟩) pn c_up1) 3 1 pn (ints (swL a b ps)), .blk b4 87 [.int .i64 N, .slice Ag m cg, .int .i64 Q, .slice Ac n cc, .slice (some ⟨gp, 0, none⟩) pn c_up1, .slice A_ud1 n c_ud1], .blk b3 90 [.int .i64 0, .slice none 0 0, .int .i64 0, .slice none 0 0, .slice none 0 0, .slice none 0 0, .slice none 0 0], .blk b2 77 [.int .i64 a, .int .i64 b], .blk b1 90 [.int .i64 N, .slice Ag m cg, .int .i64 Q, .slice Ac n cc, .slice Av pn cv, .slice Ad n cd, .slice As (L.length) cs]]
        refine Run.done ?_
        refine Run.seq ?_
        refine Run.region ?_
        refine Run.q (v := .agg #[.int .i64 N, .slice Ag m cg, .int .i64 Q, .slice Ac n cc, .slice (some ⟨gp, 0, none⟩) pn c_up1, vd2, vs2]) rfl (OpQ.y (OpY.loadN (cs := [.int .i64 N, .slice Ag m cg, .int .i64 Q, .slice Ac n cc, .slice (some ⟨gp, 0, none⟩) pn c_up1, vd2, vs2]) Tagg_90 rfl (Cells.blk (.head _) ⟨rfl, rfl, rfl, rfl, rfl, rfl, rfl, trivial⟩))) ?_
        refine Run.formOwn (.tail _ (List.Mem.head _)) (fun A_vd22 c_vd22 hv hcapc_vd22 hmaxc_vd22 => ?_) (fun _ _ _ => ⟨nofun, nofun, nofun⟩)
        subst hv
        refine Run.formOwn (.tail _ (.tail _ (List.Mem.head _))) (fun A_vs22 c_vs22 hv hcapc_vs22 hmaxc_vs22 => ?_) (fun _ _ _ => ⟨nofun, nofun, nofun⟩)
        subst hv
        refine Run.step rfl (OpStep.storeAll (us := [.int .i64 N, .slice Ag m cg, .int .i64 Q, .slice Ac n cc, .slice (some ⟨gp, 0, none⟩) pn c_up1, .slice A_vd22 n c_vd22, .slice A_vs22 ((advS (goB es m xs (swL a b ps)) n ds (L ++ [((-1, a, b) : T3)])).2.length) c_vs22]) Tsize_90 rfl rfl rfl (.there _ (.there _ (.there _ (.there _ (.there _ (.there _ (.here _))))))) rfl ?_)
        refine Run.done ?_
        refine Run.ret ?_
        refine ⟨.agg #[.int .i64 N, .slice Ag m cg, .int .i64 Q, .slice Ac n cc, .slice (some ⟨gp, 0, none⟩) pn c_up1, .slice A_vd22 n c_vd22, .slice A_vs22 ((advS (goB es m xs (swL a b ps)) n ds (L ++ [((-1, a, b) : T3)])).2.length) c_vs22], [.own (.slice (some ⟨gp, 0, none⟩) pn c_up1) 3 1 pn (ints (swL a b ps)), .own (.slice A_vd22 n c_vd22) 4 1 n (bls (advS (goB es m xs (swL a b ps)) n ds (L ++ [((-1, a, b) : T3)])).1), .own (.slice A_vs22 ((advS (goB es m xs (swL a b ps)) n ds (L ++ [((-1, a, b) : T3)])).2.length) c_vs22) 101 3 ((advS (goB es m xs (swL a b ps)) n ds (L ++ [((-1, a, b) : T3)])).2.length) (ints (fl3 (advS (goB es m xs (swL a b ps)) n ds (L ++ [((-1, a, b) : T3)])).2))], Out.cell1 (cs := [.int .i64 N, .slice Ag m cg, .int .i64 Q, .slice Ac n cc, .slice (some ⟨gp, 0, none⟩) pn c_up1, .slice A_vd22 n c_vd22, .slice A_vs22 ((advS (goB es m xs (swL a b ps)) n ds (L ++ [((-1, a, b) : T3)])).2.length) c_vs22]) rfl Tagg_90 rfl (Cells.blk (.tail _ (.tail _ (.tail _ (.tail _ (.tail _ (.tail _ (List.Mem.head _))))))) ⟨rfl, rfl, rfl, rfl, rfl, rfl, rfl, trivial⟩), ((Weak.selF [4, 1, 1]).trans (Some'.weak (.take (.take (.take (.nil _)))))), ?_⟩
        exact ⟨_, _, _, rfl, rfl⟩
    · refine OpStep.alloc (zs := [.int .i64 0, .slice none 0 0, .int .i64 0, .slice none 0 0, .slice none 0 0, .slice none 0 0, .slice none 0 0]) Tzero_90 fun b8 => ?_
      refine ⟨(Some'.weak (.skip (.skip (.skip (.skip (.take (.take (.take (.take (.nil _)))))))))), ?_⟩
      refine DW.step (i := 9) (by kernel_rfl) rfl rfl (OpStep.buildSlice (us := [.int .i64 (-1), .int .i64 a, .int .i64 b]) Tsl_46 (by decide) (by decide) ⟨rfl, [.int .i64 (-1), .int .i64 a, .int .i64 b], _, rfl, rfl, rfl, rfl⟩ rfl fun b9 => ?_)
      refine ⟨(Some'.weak (.skip (.skip (.skip (.skip (.skip (.take (.take (.take (.take (.nil _))))))))))), ?_⟩
      refine DW.step (i := 10) (by kernel_rfl) rfl rfl (OpStep.append (H1 := [.own (.slice (some ⟨b9, 0, none⟩) 1 1) 101 3 1 ([.int .i64 (-1), .int .i64 a, .int .i64 b]), .blk b8 90 [.int .i64 0, .slice none 0 0, .int .i64 0, .slice none 0 0, .slice none 0 0, .slice none 0 0, .slice none 0 0]]) (H2 := [.own (.slice (some ⟨gp, 0, none⟩) pn c_up1) 3 1 pn (ints (swL a b ps)), .own (.slice A_ud1 n c_ud1) 4 1 n (bls ds), .blk b4 87 [.int .i64 N, .slice Ag m cg, .int .i64 Q, .slice Ac n cc, .slice (some ⟨gp, 0, none⟩) pn c_up1, .slice A_ud1 n c_ud1], .blk b3 90 [.int .i64 0, .slice none 0 0, .int .i64 0, .slice none 0 0, .slice none 0 0, .slice none 0 0, .slice none 0 0], .blk b2 77 [.int .i64 a, .int .i64 b], .blk b1 90 [.int .i64 N, .slice Ag m cg, .int .i64 Q, .slice Ac n cc, .slice Av pn cv, .slice Ad n cd, .slice As (L.length) cs]]) (v := us) (u := .slice (some ⟨b9, 0, none⟩) 1 1) (n := L.length) (m := 1) (xs := ints (fl3 L)) (ys := [.int .i64 (-1), .int .i64 a, .int .i64 b]) Tsl_46 (by decide) rfl rfl rfl rfl (fun w hs => hs.slOwn (.head _)) (by simp [Value.oneCell']) (by omega) (by simp only [maxLen]; omega) fun av3 hnav3 => ?_)
      refine DW.weakS (H' := [.own (.slice (some ⟨b9, 0, none⟩) 1 1) 101 3 1 ([.int .i64 (-1), .int .i64 a, .int .i64 b]), .blk b8 90 [.int .i64 0, .slice none 0 0, .int .i64 0, .slice none 0 0, .slice none 0 0, .slice none 0 0, .slice none 0 0], .own av3 101 3 ((L ++ [((-1, a, b) : T3)]).length) (ints (fl3 (L ++ [((-1, a, b) : T3)]))), .own (.slice (some ⟨gp, 0, none⟩) pn c_up1) 3 1 pn (ints (swL a b ps)), .own (.slice A_ud1 n c_ud1) 4 1 n (bls ds), .blk b4 87 [.int .i64 N, .slice Ag m cg, .int .i64 Q, .slice Ac n cc, .slice (some ⟨gp, 0, none⟩) pn c_up1, .slice A_ud1 n c_ud1], .blk b3 90 [.int .i64 0, .slice none 0 0, .int .i64 0, .slice none 0 0, .slice none 0 0, .slice none 0 0, .slice none 0 0], .blk b2 77 [.int .i64 a, .int .i64 b], .blk b1 90 [.int .i64 N, .slice Ag m cg, .int .i64 Q, .slice Ac n cc, .slice Av pn cv, .slice Ad n cd, .slice As (L.length) cs]]) (Some'.weak (.take (.take (.takeEq (by rw [ints_fl3]; exact congrArg (fun k => Res.own _ _ _ k _) (by simp)) (.take (.take (.take (.take (.take (.take (.nil _))))))))))) ?_
      refine ⟨(Some'.weak (.skip (.skip (.skip (.skip (.skip (.take (.take (.take (.take (.nil _))))))))))), ?_⟩
      refine DW.formOwn (.tail _ (.tail _ (List.Mem.head _))) (fun A_av31 c_av31 hv hcapc_av31 hmaxc_av31 => ?_)
      subst hv
      refine DW.take (i := 11) (v := .agg #[.int .i64 N, .slice Ag m cg, .int .i64 Q, .slice Ac n cc, .slice (some ⟨gp, 0, none⟩) pn c_up1, .slice A_ud1 n c_ud1, .slice A_av31 ((L ++ [((-1, a, b) : T3)]).length) c_av31]) rfl (by kernel_rfl) (by kernel_rfl) (by kernel_rfl) (fun _ _ _ h => h) (Some'.weak (.skip (.skip (.skip (.skip (.skip (.take (.take (.take (.take (.nil _))))))))))) rfl (OpY.build (cs := [.int .i64 N, .slice Ag m cg, .int .i64 Q, .slice Ac n cc, .slice (some ⟨gp, 0, none⟩) pn c_up1, .slice A_ud1 n c_ud1, .slice A_av31 ((L ++ [((-1, a, b) : T3)]).length) c_av31]) (by kernel_rfl)) ?_
      refine DW.step (i := 13) (by kernel_rfl) rfl rfl (OpStep.storeAll (us := [.int .i64 N, .slice Ag m cg, .int .i64 Q, .slice Ac n cc, .slice (some ⟨gp, 0, none⟩) pn c_up1, .slice A_ud1 n c_ud1, .slice A_av31 ((L ++ [((-1, a, b) : T3)]).length) c_av31]) Tsize_90 rfl rfl rfl (.there _ (.here _)) rfl ?_)
      refine ⟨(Some'.weak (.skip (.skip (.skip (.skip (.skip (.take (.take (.take (.take (.nil _))))))))))), ?_⟩
      refine DW.done (by kernel_rfl) ?_
      refine Run.seq ?_
      refine Run.region ?_
      refine Run.step rfl (OpStep.callM (H1 := [.blk b8 90 [.int .i64 N, .slice Ag m cg, .int .i64 Q, .slice Ac n cc, .slice (some ⟨gp, 0, none⟩) pn c_up1, .slice A_ud1 n c_ud1, .slice A_av31 ((L ++ [((-1, a, b) : T3)]).length) c_av31], .own (.slice A_ud1 n c_ud1) 4 1 n (bls ds), .own (.slice A_av31 ((L ++ [((-1, a, b) : T3)]).length) c_av31) 101 3 ((L ++ [((-1, a, b) : T3)]).length) (ints (fl3 (L ++ [((-1, a, b) : T3)])))]) (H2 := [.own (.slice (some ⟨b9, 0, none⟩) 1 1) 101 3 1 ([.int .i64 (-1), .int .i64 a, .int .i64 b]), .own (.slice (some ⟨gp, 0, none⟩) pn c_up1) 3 1 pn (ints (swL a b ps)), .blk b4 87 [.int .i64 N, .slice Ag m cg, .int .i64 Q, .slice Ac n cc, .slice (some ⟨gp, 0, none⟩) pn c_up1, .slice A_ud1 n c_ud1], .blk b3 90 [.int .i64 0, .slice none 0 0, .int .i64 0, .slice none 0 0, .slice none 0 0, .slice none 0 0, .slice none 0 0], .blk b2 77 [.int .i64 a, .int .i64 b], .blk b1 90 [.int .i64 N, .slice Ag m cg, .int .i64 Q, .slice Ac n cc, .slice Av pn cv, .slice Ad n cd, .slice As (L.length) cs]]) (vs := [.pointer (some ⟨b8, 0, none⟩)]) (caps := []) Tcall_51 rfl rfl (Weak.selF [1, 3, 1]) (fun w hs => advance_spec (by omega) hdl he hin (by rw [List.length_append]; simp only [List.length_cons, List.length_nil]; omega) (Ap.arg hg hs) (Ap.arg hc hs) (Ap.own (.tail _ (.head _)) hs) (hs.sub (List.sublist_append_left _ _)).self) ?_)
      rintro _ _ ⟨vd2, vs2, rfl, rfl⟩
      show Run _ _ (putF _ _ _ (.tuple #[])) [.blk b8 90 [.int .i64 N, .slice Ag m cg, .int .i64 Q, .slice Ac n cc, .slice (some ⟨gp, 0, none⟩) pn c_up1, vd2, vs2], .own vd2 4 1 n (bls (advS (goB es m xs (swL a b ps)) n ds (L ++ [((-1, a, b) : T3)])).1), .own vs2 101 3 ((advS (goB es m xs (swL a b ps)) n ds (L ++ [((-1, a, b) : T3)])).2.length) (ints (fl3 (advS (goB es m xs (swL a b ps)) n ds (L ++ [((-1, a, b) : T3)])).2)), .own (.slice (some ⟨b9, 0, none⟩) 1 1) 101 3 1 ([.int .i64 (-1), .int .i64 a, .int .i64 b]), .own (.slice (some ⟨gp, 0, none⟩) pn c_up1) 3 1 pn (ints (swL a b ps)), .blk b4 87 [.int .i64 N, .slice Ag m cg, .int .i64 Q, .slice Ac n cc, .slice (some ⟨gp, 0, none⟩) pn c_up1, .slice A_ud1 n c_ud1], .blk b3 90 [.int .i64 0, .slice none 0 0, .int .i64 0, .slice none 0 0, .slice none 0 0, .slice none 0 0, .slice none 0 0], .blk b2 77 [.int .i64 a, .int .i64 b], .blk b1 90 [.int .i64 N, .slice Ag m cg, .int .i64 Q, .slice Ac n cc, .slice Av pn cv, .slice Ad n cd, .slice As (L.length) cs]]
      refine Run.done ?_
      refine Run.seq ?_
      refine Run.region ?_
      refine Run.q (v := .agg #[.int .i64 N, .slice Ag m cg, .int .i64 Q, .slice Ac n cc, .slice (some ⟨gp, 0, none⟩) pn c_up1, vd2, vs2]) rfl (OpQ.y (OpY.loadN (cs := [.int .i64 N, .slice Ag m cg, .int .i64 Q, .slice Ac n cc, .slice (some ⟨gp, 0, none⟩) pn c_up1, vd2, vs2]) Tagg_90 rfl (Cells.blk (.head _) ⟨rfl, rfl, rfl, rfl, rfl, rfl, rfl, trivial⟩))) ?_
      refine Run.formOwn (.tail _ (List.Mem.head _)) (fun A_vd23 c_vd23 hv hcapc_vd23 hmaxc_vd23 => ?_) (fun _ _ _ => ⟨nofun, nofun, nofun⟩)
      subst hv
      refine Run.formOwn (.tail _ (.tail _ (List.Mem.head _))) (fun A_vs23 c_vs23 hv hcapc_vs23 hmaxc_vs23 => ?_) (fun _ _ _ => ⟨nofun, nofun, nofun⟩)
      subst hv
      refine Run.step rfl (OpStep.storeAll (us := [.int .i64 N, .slice Ag m cg, .int .i64 Q, .slice Ac n cc, .slice (some ⟨gp, 0, none⟩) pn c_up1, .slice A_vd23 n c_vd23, .slice A_vs23 ((advS (goB es m xs (swL a b ps)) n ds (L ++ [((-1, a, b) : T3)])).2.length) c_vs23]) Tsize_90 rfl rfl rfl (.there _ (.there _ (.there _ (.there _ (.there _ (.there _ (.here _))))))) rfl ?_)
      refine Run.done ?_
      refine Run.ret ?_
      refine ⟨.agg #[.int .i64 N, .slice Ag m cg, .int .i64 Q, .slice Ac n cc, .slice (some ⟨gp, 0, none⟩) pn c_up1, .slice A_vd23 n c_vd23, .slice A_vs23 ((advS (goB es m xs (swL a b ps)) n ds (L ++ [((-1, a, b) : T3)])).2.length) c_vs23], [.own (.slice (some ⟨gp, 0, none⟩) pn c_up1) 3 1 pn (ints (swL a b ps)), .own (.slice A_vd23 n c_vd23) 4 1 n (bls (advS (goB es m xs (swL a b ps)) n ds (L ++ [((-1, a, b) : T3)])).1), .own (.slice A_vs23 ((advS (goB es m xs (swL a b ps)) n ds (L ++ [((-1, a, b) : T3)])).2.length) c_vs23) 101 3 ((advS (goB es m xs (swL a b ps)) n ds (L ++ [((-1, a, b) : T3)])).2.length) (ints (fl3 (advS (goB es m xs (swL a b ps)) n ds (L ++ [((-1, a, b) : T3)])).2))], Out.cell1 (cs := [.int .i64 N, .slice Ag m cg, .int .i64 Q, .slice Ac n cc, .slice (some ⟨gp, 0, none⟩) pn c_up1, .slice A_vd23 n c_vd23, .slice A_vs23 ((advS (goB es m xs (swL a b ps)) n ds (L ++ [((-1, a, b) : T3)])).2.length) c_vs23]) rfl Tagg_90 rfl (Cells.blk (.tail _ (.tail _ (.tail _ (.tail _ (.tail _ (.tail _ (List.Mem.head _))))))) ⟨rfl, rfl, rfl, rfl, rfl, rfl, rfl, trivial⟩), ((Weak.selF [4, 1, 1]).trans (Some'.weak (.take (.take (.take (.nil _)))))), ?_⟩
      exact ⟨_, _, _, rfl, rfl⟩
  · refine OpStep.buildSlice (us := [.int .i64 (-1), .int .i64 a, .int .i64 b]) Tsl_46 (by decide) (by decide) ⟨rfl, [.int .i64 (-1), .int .i64 a, .int .i64 b], _, rfl, rfl, rfl, rfl⟩ rfl fun b10 => ?_
    refine ⟨(Some'.weak (.skip (.skip (.skip (.take (.take (.take (.take (.nil _))))))))), ?_⟩
    refine DW.two (i := 3) (j := 12) (by kernel_rfl) rfl rfl rfl rfl ?_ ?_
    · refine OpStep.call (vs := [.slice As (L.length) cs]) (caps := []) Tcall_79 rfl rfl (fun w hs => CloneStep_spec (by omega) (hs.sl hs_)) ?_
      rintro us _ rfl
      refine ⟨(Some'.weak (.skip (.skip (.skip (.skip (.take (.take (.take (.take (.nil _)))))))))), ?_⟩
      refine DW.two (i := 10) (j := 12) (by kernel_rfl) rfl rfl rfl rfl ?_ ?_
      · refine OpStep.append (H1 := []) (H2 := [.own (.slice (some ⟨b10, 0, none⟩) 1 1) 101 3 1 ([.int .i64 (-1), .int .i64 a, .int .i64 b]), .own (.slice (some ⟨gp, 0, none⟩) pn c_up1) 3 1 pn (ints (swL a b ps)), .own (.slice A_ud1 n c_ud1) 4 1 n (bls ds), .blk b4 87 [.int .i64 N, .slice Ag m cg, .int .i64 Q, .slice Ac n cc, .slice (some ⟨gp, 0, none⟩) pn c_up1, .slice A_ud1 n c_ud1], .blk b3 90 [.int .i64 0, .slice none 0 0, .int .i64 0, .slice none 0 0, .slice none 0 0, .slice none 0 0, .slice none 0 0], .blk b2 77 [.int .i64 a, .int .i64 b], .blk b1 90 [.int .i64 N, .slice Ag m cg, .int .i64 Q, .slice Ac n cc, .slice Av pn cv, .slice Ad n cd, .slice As (L.length) cs]]) (v := us) (u := .slice (some ⟨b10, 0, none⟩) 1 1) (n := L.length) (m := 1) (xs := ints (fl3 L)) (ys := [.int .i64 (-1), .int .i64 a, .int .i64 b]) Tsl_46 (by decide) rfl rfl rfl rfl (fun w hs => hs.slOwn (.tail _ (List.Mem.head _))) (by simp [Value.oneCell']) (by omega) (by simp only [maxLen]; omega) fun av4 hnav4 => ?_
        refine DW.weakS (H' := [.own av4 101 3 ((L ++ [((-1, a, b) : T3)]).length) (ints (fl3 (L ++ [((-1, a, b) : T3)]))), .own (.slice (some ⟨b10, 0, none⟩) 1 1) 101 3 1 ([.int .i64 (-1), .int .i64 a, .int .i64 b]), .own (.slice (some ⟨gp, 0, none⟩) pn c_up1) 3 1 pn (ints (swL a b ps)), .own (.slice A_ud1 n c_ud1) 4 1 n (bls ds), .blk b4 87 [.int .i64 N, .slice Ag m cg, .int .i64 Q, .slice Ac n cc, .slice (some ⟨gp, 0, none⟩) pn c_up1, .slice A_ud1 n c_ud1], .blk b3 90 [.int .i64 0, .slice none 0 0, .int .i64 0, .slice none 0 0, .slice none 0 0, .slice none 0 0, .slice none 0 0], .blk b2 77 [.int .i64 a, .int .i64 b], .blk b1 90 [.int .i64 N, .slice Ag m cg, .int .i64 Q, .slice Ac n cc, .slice Av pn cv, .slice Ad n cd, .slice As (L.length) cs]]) (Some'.weak (.takeEq (by rw [ints_fl3]; exact congrArg (fun k => Res.own _ _ _ k _) (by simp)) (.take (.take (.take (.take (.take (.take (.take (.nil _)))))))))) ?_
        refine ⟨(Some'.weak (.skip (.skip (.skip (.skip (.take (.take (.take (.take (.nil _)))))))))), ?_⟩
        refine DW.formOwn (.head _) (fun A_av41 c_av41 hv hcapc_av41 hmaxc_av41 => ?_)
        subst hv
        refine DW.take (i := 11) (v := .agg #[.int .i64 N, .slice Ag m cg, .int .i64 Q, .slice Ac n cc, .slice (some ⟨gp, 0, none⟩) pn c_up1, .slice A_ud1 n c_ud1, .slice A_av41 ((L ++ [((-1, a, b) : T3)]).length) c_av41]) rfl (by kernel_rfl) (by kernel_rfl) (by kernel_rfl) (fun _ _ _ h => h) (Some'.weak (.skip (.skip (.skip (.skip (.take (.take (.take (.take (.nil _)))))))))) rfl (OpY.build (cs := [.int .i64 N, .slice Ag m cg, .int .i64 Q, .slice Ac n cc, .slice (some ⟨gp, 0, none⟩) pn c_up1, .slice A_ud1 n c_ud1, .slice A_av41 ((L ++ [((-1, a, b) : T3)]).length) c_av41]) (by kernel_rfl)) ?_
        refine DW.step (i := 12) (by kernel_rfl) rfl rfl (OpStep.alloc (zs := [.int .i64 0, .slice none 0 0, .int .i64 0, .slice none 0 0, .slice none 0 0, .slice none 0 0, .slice none 0 0]) Tzero_90 fun b11 => ?_)
        refine ⟨(Some'.weak (.skip (.skip (.skip (.skip (.skip (.take (.take (.take (.take (.nil _))))))))))), ?_⟩
        refine DW.step (i := 13) (by kernel_rfl) rfl rfl (OpStep.storeAll (us := [.int .i64 N, .slice Ag m cg, .int .i64 Q, .slice Ac n cc, .slice (some ⟨gp, 0, none⟩) pn c_up1, .slice A_ud1 n c_ud1, .slice A_av41 ((L ++ [((-1, a, b) : T3)]).length) c_av41]) Tsize_90 rfl rfl rfl (.here _) rfl ?_)
        refine ⟨(Some'.weak (.skip (.skip (.skip (.skip (.skip (.take (.take (.take (.take (.nil _))))))))))), ?_⟩
        refine DW.done (by kernel_rfl) ?_
        refine Run.seq ?_
        refine Run.region ?_
        refine Run.step rfl (OpStep.callM (H1 := [.blk b11 90 [.int .i64 N, .slice Ag m cg, .int .i64 Q, .slice Ac n cc, .slice (some ⟨gp, 0, none⟩) pn c_up1, .slice A_ud1 n c_ud1, .slice A_av41 ((L ++ [((-1, a, b) : T3)]).length) c_av41], .own (.slice A_ud1 n c_ud1) 4 1 n (bls ds), .own (.slice A_av41 ((L ++ [((-1, a, b) : T3)]).length) c_av41) 101 3 ((L ++ [((-1, a, b) : T3)]).length) (ints (fl3 (L ++ [((-1, a, b) : T3)])))]) (H2 := [.own (.slice (some ⟨b10, 0, none⟩) 1 1) 101 3 1 ([.int .i64 (-1), .int .i64 a, .int .i64 b]), .own (.slice (some ⟨gp, 0, none⟩) pn c_up1) 3 1 pn (ints (swL a b ps)), .blk b4 87 [.int .i64 N, .slice Ag m cg, .int .i64 Q, .slice Ac n cc, .slice (some ⟨gp, 0, none⟩) pn c_up1, .slice A_ud1 n c_ud1], .blk b3 90 [.int .i64 0, .slice none 0 0, .int .i64 0, .slice none 0 0, .slice none 0 0, .slice none 0 0, .slice none 0 0], .blk b2 77 [.int .i64 a, .int .i64 b], .blk b1 90 [.int .i64 N, .slice Ag m cg, .int .i64 Q, .slice Ac n cc, .slice Av pn cv, .slice Ad n cd, .slice As (L.length) cs]]) (vs := [.pointer (some ⟨b11, 0, none⟩)]) (caps := []) Tcall_51 rfl rfl (Weak.selF [0, 3, 0]) (fun w hs => advance_spec (by omega) hdl he hin (by rw [List.length_append]; simp only [List.length_cons, List.length_nil]; omega) (Ap.arg hg hs) (Ap.arg hc hs) (Ap.own (.tail _ (.head _)) hs) (hs.sub (List.sublist_append_left _ _)).self) ?_)
        rintro _ _ ⟨vd2, vs2, rfl, rfl⟩
        show Run _ _ (putF _ _ _ (.tuple #[])) [.blk b11 90 [.int .i64 N, .slice Ag m cg, .int .i64 Q, .slice Ac n cc, .slice (some ⟨gp, 0, none⟩) pn c_up1, vd2, vs2], .own vd2 4 1 n (bls (advS (goB es m xs (swL a b ps)) n ds (L ++ [((-1, a, b) : T3)])).1), .own vs2 101 3 ((advS (goB es m xs (swL a b ps)) n ds (L ++ [((-1, a, b) : T3)])).2.length) (ints (fl3 (advS (goB es m xs (swL a b ps)) n ds (L ++ [((-1, a, b) : T3)])).2)), .own (.slice (some ⟨b10, 0, none⟩) 1 1) 101 3 1 ([.int .i64 (-1), .int .i64 a, .int .i64 b]), .own (.slice (some ⟨gp, 0, none⟩) pn c_up1) 3 1 pn (ints (swL a b ps)), .blk b4 87 [.int .i64 N, .slice Ag m cg, .int .i64 Q, .slice Ac n cc, .slice (some ⟨gp, 0, none⟩) pn c_up1, .slice A_ud1 n c_ud1], .blk b3 90 [.int .i64 0, .slice none 0 0, .int .i64 0, .slice none 0 0, .slice none 0 0, .slice none 0 0, .slice none 0 0], .blk b2 77 [.int .i64 a, .int .i64 b], .blk b1 90 [.int .i64 N, .slice Ag m cg, .int .i64 Q, .slice Ac n cc, .slice Av pn cv, .slice Ad n cd, .slice As (L.length) cs]]
        refine Run.done ?_
        refine Run.seq ?_
        refine Run.region ?_
        refine Run.q (v := .agg #[.int .i64 N, .slice Ag m cg, .int .i64 Q, .slice Ac n cc, .slice (some ⟨gp, 0, none⟩) pn c_up1, vd2, vs2]) rfl (OpQ.y (OpY.loadN (cs := [.int .i64 N, .slice Ag m cg, .int .i64 Q, .slice Ac n cc, .slice (some ⟨gp, 0, none⟩) pn c_up1, vd2, vs2]) Tagg_90 rfl (Cells.blk (.head _) ⟨rfl, rfl, rfl, rfl, rfl, rfl, rfl, trivial⟩))) ?_
        refine Run.formOwn (.tail _ (List.Mem.head _)) (fun A_vd24 c_vd24 hv hcapc_vd24 hmaxc_vd24 => ?_) (fun _ _ _ => ⟨nofun, nofun, nofun⟩)
        subst hv
        refine Run.formOwn (.tail _ (.tail _ (List.Mem.head _))) (fun A_vs24 c_vs24 hv hcapc_vs24 hmaxc_vs24 => ?_) (fun _ _ _ => ⟨nofun, nofun, nofun⟩)
        subst hv
        refine Run.step rfl (OpStep.storeAll (us := [.int .i64 N, .slice Ag m cg, .int .i64 Q, .slice Ac n cc, .slice (some ⟨gp, 0, none⟩) pn c_up1, .slice A_vd24 n c_vd24, .slice A_vs24 ((advS (goB es m xs (swL a b ps)) n ds (L ++ [((-1, a, b) : T3)])).2.length) c_vs24]) Tsize_90 rfl rfl rfl (.there _ (.there _ (.there _ (.there _ (.there _ (.there _ (.here _))))))) rfl ?_)
        refine Run.done ?_
        refine Run.ret ?_
        refine ⟨.agg #[.int .i64 N, .slice Ag m cg, .int .i64 Q, .slice Ac n cc, .slice (some ⟨gp, 0, none⟩) pn c_up1, .slice A_vd24 n c_vd24, .slice A_vs24 ((advS (goB es m xs (swL a b ps)) n ds (L ++ [((-1, a, b) : T3)])).2.length) c_vs24], [.own (.slice (some ⟨gp, 0, none⟩) pn c_up1) 3 1 pn (ints (swL a b ps)), .own (.slice A_vd24 n c_vd24) 4 1 n (bls (advS (goB es m xs (swL a b ps)) n ds (L ++ [((-1, a, b) : T3)])).1), .own (.slice A_vs24 ((advS (goB es m xs (swL a b ps)) n ds (L ++ [((-1, a, b) : T3)])).2.length) c_vs24) 101 3 ((advS (goB es m xs (swL a b ps)) n ds (L ++ [((-1, a, b) : T3)])).2.length) (ints (fl3 (advS (goB es m xs (swL a b ps)) n ds (L ++ [((-1, a, b) : T3)])).2))], Out.cell1 (cs := [.int .i64 N, .slice Ag m cg, .int .i64 Q, .slice Ac n cc, .slice (some ⟨gp, 0, none⟩) pn c_up1, .slice A_vd24 n c_vd24, .slice A_vs24 ((advS (goB es m xs (swL a b ps)) n ds (L ++ [((-1, a, b) : T3)])).2.length) c_vs24]) rfl Tagg_90 rfl (Cells.blk (.tail _ (.tail _ (.tail _ (.tail _ (.tail _ (.tail _ (List.Mem.head _))))))) ⟨rfl, rfl, rfl, rfl, rfl, rfl, rfl, trivial⟩), ((Weak.selF [4, 1, 1]).trans (Some'.weak (.take (.take (.take (.nil _)))))), ?_⟩
        exact ⟨_, _, _, rfl, rfl⟩
      · refine OpStep.alloc (zs := [.int .i64 0, .slice none 0 0, .int .i64 0, .slice none 0 0, .slice none 0 0, .slice none 0 0, .slice none 0 0]) Tzero_90 fun b12 => ?_
        refine ⟨(Some'.weak (.skip (.skip (.skip (.skip (.skip (.take (.take (.take (.take (.nil _))))))))))), ?_⟩
        refine DW.step (i := 10) (by kernel_rfl) rfl rfl (OpStep.append (H1 := [.blk b12 90 [.int .i64 0, .slice none 0 0, .int .i64 0, .slice none 0 0, .slice none 0 0, .slice none 0 0, .slice none 0 0]]) (H2 := [.own (.slice (some ⟨b10, 0, none⟩) 1 1) 101 3 1 ([.int .i64 (-1), .int .i64 a, .int .i64 b]), .own (.slice (some ⟨gp, 0, none⟩) pn c_up1) 3 1 pn (ints (swL a b ps)), .own (.slice A_ud1 n c_ud1) 4 1 n (bls ds), .blk b4 87 [.int .i64 N, .slice Ag m cg, .int .i64 Q, .slice Ac n cc, .slice (some ⟨gp, 0, none⟩) pn c_up1, .slice A_ud1 n c_ud1], .blk b3 90 [.int .i64 0, .slice none 0 0, .int .i64 0, .slice none 0 0, .slice none 0 0, .slice none 0 0, .slice none 0 0], .blk b2 77 [.int .i64 a, .int .i64 b], .blk b1 90 [.int .i64 N, .slice Ag m cg, .int .i64 Q, .slice Ac n cc, .slice Av pn cv, .slice Ad n cd, .slice As (L.length) cs]]) (v := us) (u := .slice (some ⟨b10, 0, none⟩) 1 1) (n := L.length) (m := 1) (xs := ints (fl3 L)) (ys := [.int .i64 (-1), .int .i64 a, .int .i64 b]) Tsl_46 (by decide) rfl rfl rfl rfl (fun w hs => hs.slOwn (.tail _ (.tail _ (List.Mem.head _)))) (by simp [Value.oneCell']) (by omega) (by simp only [maxLen]; omega) fun av5 hnav5 => ?_)
        refine DW.weakS (H' := [.blk b12 90 [.int .i64 0, .slice none 0 0, .int .i64 0, .slice none 0 0, .slice none 0 0, .slice none 0 0, .slice none 0 0], .own av5 101 3 ((L ++ [((-1, a, b) : T3)]).length) (ints (fl3 (L ++ [((-1, a, b) : T3)]))), .own (.slice (some ⟨b10, 0, none⟩) 1 1) 101 3 1 ([.int .i64 (-1), .int .i64 a, .int .i64 b]), .own (.slice (some ⟨gp, 0, none⟩) pn c_up1) 3 1 pn (ints (swL a b ps)), .own (.slice A_ud1 n c_ud1) 4 1 n (bls ds), .blk b4 87 [.int .i64 N, .slice Ag m cg, .int .i64 Q, .slice Ac n cc, .slice (some ⟨gp, 0, none⟩) pn c_up1, .slice A_ud1 n c_ud1], .blk b3 90 [.int .i64 0, .slice none 0 0, .int .i64 0, .slice none 0 0, .slice none 0 0, .slice none 0 0, .slice none 0 0], .blk b2 77 [.int .i64 a, .int .i64 b], .blk b1 90 [.int .i64 N, .slice Ag m cg, .int .i64 Q, .slice Ac n cc, .slice Av pn cv, .slice Ad n cd, .slice As (L.length) cs]]) (Some'.weak (.take (.takeEq (by rw [ints_fl3]; exact congrArg (fun k => Res.own _ _ _ k _) (by simp)) (.take (.take (.take (.take (.take (.take (.take (.nil _))))))))))) ?_
        refine ⟨(Some'.weak (.skip (.skip (.skip (.skip (.skip (.take (.take (.take (.take (.nil _))))))))))), ?_⟩
        refine DW.formOwn (.tail _ (List.Mem.head _)) (fun A_av51 c_av51 hv hcapc_av51 hmaxc_av51 => ?_)
        subst hv
        refine DW.take (i := 11) (v := .agg #[.int .i64 N, .slice Ag m cg, .int .i64 Q, .slice Ac n cc, .slice (some ⟨gp, 0, none⟩) pn c_up1, .slice A_ud1 n c_ud1, .slice A_av51 ((L ++ [((-1, a, b) : T3)]).length) c_av51]) rfl (by kernel_rfl) (by kernel_rfl) (by kernel_rfl) (fun _ _ _ h => h) (Some'.weak (.skip (.skip (.skip (.skip (.skip (.take (.take (.take (.take (.nil _))))))))))) rfl (OpY.build (cs := [.int .i64 N, .slice Ag m cg, .int .i64 Q, .slice Ac n cc, .slice (some ⟨gp, 0, none⟩) pn c_up1, .slice A_ud1 n c_ud1, .slice A_av51 ((L ++ [((-1, a, b) : T3)]).length) c_av51]) (by kernel_rfl)) ?_
        refine DW.step (i := 13) (by kernel_rfl) rfl rfl (OpStep.storeAll (us := [.int .i64 N, .slice Ag m cg, .int .i64 Q, .slice Ac n cc, .slice (some ⟨gp, 0, none⟩) pn c_up1, .slice A_ud1 n c_ud1, .slice A_av51 ((L ++ [((-1, a, b) : T3)]).length) c_av51]) Tsize_90 rfl rfl rfl (.here _) rfl ?_)
        refine ⟨(Some'.weak (.skip (.skip (.skip (.skip (.skip (.take (.take (.take (.take (.nil _))))))))))), ?_⟩
        refine DW.done (by kernel_rfl) ?_
        refine Run.seq ?_
        refine Run.region ?_
        refine Run.step rfl (OpStep.callM (H1 := [.blk b12 90 [.int .i64 N, .slice Ag m cg, .int .i64 Q, .slice Ac n cc, .slice (some ⟨gp, 0, none⟩) pn c_up1, .slice A_ud1 n c_ud1, .slice A_av51 ((L ++ [((-1, a, b) : T3)]).length) c_av51], .own (.slice A_ud1 n c_ud1) 4 1 n (bls ds), .own (.slice A_av51 ((L ++ [((-1, a, b) : T3)]).length) c_av51) 101 3 ((L ++ [((-1, a, b) : T3)]).length) (ints (fl3 (L ++ [((-1, a, b) : T3)])))]) (H2 := [.own (.slice (some ⟨b10, 0, none⟩) 1 1) 101 3 1 ([.int .i64 (-1), .int .i64 a, .int .i64 b]), .own (.slice (some ⟨gp, 0, none⟩) pn c_up1) 3 1 pn (ints (swL a b ps)), .blk b4 87 [.int .i64 N, .slice Ag m cg, .int .i64 Q, .slice Ac n cc, .slice (some ⟨gp, 0, none⟩) pn c_up1, .slice A_ud1 n c_ud1], .blk b3 90 [.int .i64 0, .slice none 0 0, .int .i64 0, .slice none 0 0, .slice none 0 0, .slice none 0 0, .slice none 0 0], .blk b2 77 [.int .i64 a, .int .i64 b], .blk b1 90 [.int .i64 N, .slice Ag m cg, .int .i64 Q, .slice Ac n cc, .slice Av pn cv, .slice Ad n cd, .slice As (L.length) cs]]) (vs := [.pointer (some ⟨b12, 0, none⟩)]) (caps := []) Tcall_51 rfl rfl (Weak.selF [0, 3, 0]) (fun w hs => advance_spec (by omega) hdl he hin (by rw [List.length_append]; simp only [List.length_cons, List.length_nil]; omega) (Ap.arg hg hs) (Ap.arg hc hs) (Ap.own (.tail _ (.head _)) hs) (hs.sub (List.sublist_append_left _ _)).self) ?_)
        rintro _ _ ⟨vd2, vs2, rfl, rfl⟩
        show Run _ _ (putF _ _ _ (.tuple #[])) [.blk b12 90 [.int .i64 N, .slice Ag m cg, .int .i64 Q, .slice Ac n cc, .slice (some ⟨gp, 0, none⟩) pn c_up1, vd2, vs2], .own vd2 4 1 n (bls (advS (goB es m xs (swL a b ps)) n ds (L ++ [((-1, a, b) : T3)])).1), .own vs2 101 3 ((advS (goB es m xs (swL a b ps)) n ds (L ++ [((-1, a, b) : T3)])).2.length) (ints (fl3 (advS (goB es m xs (swL a b ps)) n ds (L ++ [((-1, a, b) : T3)])).2)), .own (.slice (some ⟨b10, 0, none⟩) 1 1) 101 3 1 ([.int .i64 (-1), .int .i64 a, .int .i64 b]), .own (.slice (some ⟨gp, 0, none⟩) pn c_up1) 3 1 pn (ints (swL a b ps)), .blk b4 87 [.int .i64 N, .slice Ag m cg, .int .i64 Q, .slice Ac n cc, .slice (some ⟨gp, 0, none⟩) pn c_up1, .slice A_ud1 n c_ud1], .blk b3 90 [.int .i64 0, .slice none 0 0, .int .i64 0, .slice none 0 0, .slice none 0 0, .slice none 0 0, .slice none 0 0], .blk b2 77 [.int .i64 a, .int .i64 b], .blk b1 90 [.int .i64 N, .slice Ag m cg, .int .i64 Q, .slice Ac n cc, .slice Av pn cv, .slice Ad n cd, .slice As (L.length) cs]]
        refine Run.done ?_
        refine Run.seq ?_
        refine Run.region ?_
        refine Run.q (v := .agg #[.int .i64 N, .slice Ag m cg, .int .i64 Q, .slice Ac n cc, .slice (some ⟨gp, 0, none⟩) pn c_up1, vd2, vs2]) rfl (OpQ.y (OpY.loadN (cs := [.int .i64 N, .slice Ag m cg, .int .i64 Q, .slice Ac n cc, .slice (some ⟨gp, 0, none⟩) pn c_up1, vd2, vs2]) Tagg_90 rfl (Cells.blk (.head _) ⟨rfl, rfl, rfl, rfl, rfl, rfl, rfl, trivial⟩))) ?_
        refine Run.formOwn (.tail _ (List.Mem.head _)) (fun A_vd25 c_vd25 hv hcapc_vd25 hmaxc_vd25 => ?_) (fun _ _ _ => ⟨nofun, nofun, nofun⟩)
        subst hv
        refine Run.formOwn (.tail _ (.tail _ (List.Mem.head _))) (fun A_vs25 c_vs25 hv hcapc_vs25 hmaxc_vs25 => ?_) (fun _ _ _ => ⟨nofun, nofun, nofun⟩)
        subst hv
        refine Run.step rfl (OpStep.storeAll (us := [.int .i64 N, .slice Ag m cg, .int .i64 Q, .slice Ac n cc, .slice (some ⟨gp, 0, none⟩) pn c_up1, .slice A_vd25 n c_vd25, .slice A_vs25 ((advS (goB es m xs (swL a b ps)) n ds (L ++ [((-1, a, b) : T3)])).2.length) c_vs25]) Tsize_90 rfl rfl rfl (.there _ (.there _ (.there _ (.there _ (.there _ (.there _ (.here _))))))) rfl ?_)
        refine Run.done ?_
        refine Run.ret ?_
        refine ⟨.agg #[.int .i64 N, .slice Ag m cg, .int .i64 Q, .slice Ac n cc, .slice (some ⟨gp, 0, none⟩) pn c_up1, .slice A_vd25 n c_vd25, .slice A_vs25 ((advS (goB es m xs (swL a b ps)) n ds (L ++ [((-1, a, b) : T3)])).2.length) c_vs25], [.own (.slice (some ⟨gp, 0, none⟩) pn c_up1) 3 1 pn (ints (swL a b ps)), .own (.slice A_vd25 n c_vd25) 4 1 n (bls (advS (goB es m xs (swL a b ps)) n ds (L ++ [((-1, a, b) : T3)])).1), .own (.slice A_vs25 ((advS (goB es m xs (swL a b ps)) n ds (L ++ [((-1, a, b) : T3)])).2.length) c_vs25) 101 3 ((advS (goB es m xs (swL a b ps)) n ds (L ++ [((-1, a, b) : T3)])).2.length) (ints (fl3 (advS (goB es m xs (swL a b ps)) n ds (L ++ [((-1, a, b) : T3)])).2))], Out.cell1 (cs := [.int .i64 N, .slice Ag m cg, .int .i64 Q, .slice Ac n cc, .slice (some ⟨gp, 0, none⟩) pn c_up1, .slice A_vd25 n c_vd25, .slice A_vs25 ((advS (goB es m xs (swL a b ps)) n ds (L ++ [((-1, a, b) : T3)])).2.length) c_vs25]) rfl Tagg_90 rfl (Cells.blk (.tail _ (.tail _ (.tail _ (.tail _ (.tail _ (.tail _ (List.Mem.head _))))))) ⟨rfl, rfl, rfl, rfl, rfl, rfl, rfl, trivial⟩), ((Weak.selF [4, 1, 1]).trans (Some'.weak (.take (.take (.take (.nil _)))))), ?_⟩
        exact ⟨_, _, _, rfl, rfl⟩
    · refine OpStep.alloc (zs := [.int .i64 0, .slice none 0 0, .int .i64 0, .slice none 0 0, .slice none 0 0, .slice none 0 0, .slice none 0 0]) Tzero_90 fun b13 => ?_
      refine ⟨(Some'.weak (.skip (.skip (.skip (.skip (.take (.take (.take (.take (.nil _)))))))))), ?_⟩
      refine DW.step (i := 3) (by kernel_rfl) rfl rfl (OpStep.call (vs := [.slice As (L.length) cs]) (caps := []) Tcall_79 rfl rfl (fun w hs => CloneStep_spec (by omega) (hs.sl hs_)) ?_)
      rintro us _ rfl
      refine ⟨(Some'.weak (.skip (.skip (.skip (.skip (.skip (.take (.take (.take (.take (.nil _))))))))))), ?_⟩
      refine DW.step (i := 10) (by kernel_rfl) rfl rfl (OpStep.append (H1 := []) (H2 := [.blk b13 90 [.int .i64 0, .slice none 0 0, .int .i64 0, .slice none 0 0, .slice none 0 0, .slice none 0 0, .slice none 0 0], .own (.slice (some ⟨b10, 0, none⟩) 1 1) 101 3 1 ([.int .i64 (-1), .int .i64 a, .int .i64 b]), .own (.slice (some ⟨gp, 0, none⟩) pn c_up1) 3 1 pn (ints (swL a b ps)), .own (.slice A_ud1 n c_ud1) 4 1 n (bls ds), .blk b4 87 [.int .i64 N, .slice Ag m cg, .int .i64 Q, .slice Ac n cc, .slice (some ⟨gp, 0, none⟩) pn c_up1, .slice A_ud1 n c_ud1], .blk b3 90 [.int .i64 0, .slice none 0 0, .int .i64 0, .slice none 0 0, .slice none 0 0, .slice none 0 0, .slice none 0 0], .blk b2 77 [.int .i64 a, .int .i64 b], .blk b1 90 [.int .i64 N, .slice Ag m cg, .int .i64 Q, .slice Ac n cc, .slice Av pn cv, .slice Ad n cd, .slice As (L.length) cs]]) (v := us) (u := .slice (some ⟨b10, 0, none⟩) 1 1) (n := L.length) (m := 1) (xs := ints (fl3 L)) (ys := [.int .i64 (-1), .int .i64 a, .int .i64 b]) Tsl_46 (by decide) rfl rfl rfl rfl (fun w hs => hs.slOwn (.tail _ (.tail _ (List.Mem.head _)))) (by simp [Value.oneCell']) (by omega) (by simp only [maxLen]; omega) fun av6 hnav6 => ?_)
      refine DW.weakS (H' := [.own av6 101 3 ((L ++ [((-1, a, b) : T3)]).length) (ints (fl3 (L ++ [((-1, a, b) : T3)]))), .blk b13 90 [.int .i64 0, .slice none 0 0, .int .i64 0, .slice none 0 0, .slice none 0 0, .slice none 0 0, .slice none 0 0], .own (.slice (some ⟨b10, 0, none⟩) 1 1) 101 3 1 ([.int .i64 (-1), .int .i64 a, .int .i64 b]), .own (.slice (some ⟨gp, 0, none⟩) pn c_up1) 3 1 pn (ints (swL a b ps)), .own (.slice A_ud1 n c_ud1) 4 1 n (bls ds), .blk b4 87 [.int .i64 N, .slice Ag m cg, .int .i64 Q, .slice Ac n cc, .slice (some ⟨gp, 0, none⟩) pn c_up1, .slice A_ud1 n c_ud1], .blk b3 90 [.int .i64 0, .slice none 0 0, .int .i64 0, .slice none 0 0, .slice none 0 0, .slice none 0 0, .slice none 0 0], .blk b2 77 [.int .i64 a, .int .i64 b], .blk b1 90 [.int .i64 N, .slice Ag m cg, .int .i64 Q, .slice Ac n cc, .slice Av pn cv, .slice Ad n cd, .slice As (L.length) cs]]) (Some'.weak (.takeEq (by rw [ints_fl3]; exact congrArg (fun k => Res.own _ _ _ k _) (by simp)) (.take (.take (.take (.take (.take (.take (.take (.take (.nil _))))))))))) ?_
      refine ⟨(Some'.weak (.skip (.skip (.skip (.skip (.skip (.take (.take (.take (.take (.nil _))))))))))), ?_⟩
      refine DW.formOwn (.head _) (fun A_av61 c_av61 hv hcapc_av61 hmaxc_av61 => ?_)
      subst hv
      refine DW.take (i := 11) (v := .agg #[.int .i64 N, .slice Ag m cg, .int .i64 Q, .slice Ac n cc, .slice (some ⟨gp, 0, none⟩) pn c_up1, .slice A_ud1 n c_ud1, .slice A_av61 ((L ++ [((-1, a, b) : T3)]).length) c_av61]) rfl (by kernel_rfl) (by kernel_rfl) (by kernel_rfl) (fun _ _ _ h => h) (Some'.weak (.skip (.skip (.skip (.skip (.skip (.take (.take (.take (.take (.nil _))))))))))) rfl (OpY.build (cs := [.int .i64 N, .slice Ag m cg, .int .i64 Q, .slice Ac n cc, .slice (some ⟨gp, 0, none⟩) pn c_up1, .slice A_ud1 n c_ud1, .slice A_av61 ((L ++ [((-1, a, b) : T3)]).length) c_av61]) (by kernel_rfl)) ?_
      refine DW.step (i := 13) (by kernel_rfl) rfl rfl (OpStep.storeAll (us := [.int .i64 N, .slice Ag m cg, .int .i64 Q, .slice Ac n cc, .slice (some ⟨gp, 0, none⟩) pn c_up1, .slice A_ud1 n c_ud1, .slice A_av61 ((L ++ [((-1, a, b) : T3)]).length) c_av61]) Tsize_90 rfl rfl rfl (.there _ (.here _)) rfl ?_)
      refine ⟨(Some'.weak (.skip (.skip (.skip (.skip (.skip (.take (.take (.take (.take (.nil _))))))))))), ?_⟩
      refine DW.done (by kernel_rfl) ?_
      refine Run.seq ?_
      refine Run.region ?_
      refine Run.step rfl (OpStep.callM (H1 := [.blk b13 90 [.int .i64 N, .slice Ag m cg, .int .i64 Q, .slice Ac n cc, .slice (some ⟨gp, 0, none⟩) pn c_up1, .slice A_ud1 n c_ud1, .slice A_av61 ((L ++ [((-1, a, b) : T3)]).length) c_av61], .own (.slice A_ud1 n c_ud1) 4 1 n (bls ds), .own (.slice A_av61 ((L ++ [((-1, a, b) : T3)]).length) c_av61) 101 3 ((L ++ [((-1, a, b) : T3)]).length) (ints (fl3 (L ++ [((-1, a, b) : T3)])))]) (H2 := [.own (.slice (some ⟨b10, 0, none⟩) 1 1) 101 3 1 ([.int .i64 (-1), .int .i64 a, .int .i64 b]), .own (.slice (some ⟨gp, 0, none⟩) pn c_up1) 3 1 pn (ints (swL a b ps)), .blk b4 87 [.int .i64 N, .slice Ag m cg, .int .i64 Q, .slice Ac n cc, .slice (some ⟨gp, 0, none⟩) pn c_up1, .slice A_ud1 n c_ud1], .blk b3 90 [.int .i64 0, .slice none 0 0, .int .i64 0, .slice none 0 0, .slice none 0 0, .slice none 0 0, .slice none 0 0], .blk b2 77 [.int .i64 a, .int .i64 b], .blk b1 90 [.int .i64 N, .slice Ag m cg, .int .i64 Q, .slice Ac n cc, .slice Av pn cv, .slice Ad n cd, .slice As (L.length) cs]]) (vs := [.pointer (some ⟨b13, 0, none⟩)]) (caps := []) Tcall_51 rfl rfl (Weak.selF [1, 3, 0]) (fun w hs => advance_spec (by omega) hdl he hin (by rw [List.length_append]; simp only [List.length_cons, List.length_nil]; omega) (Ap.arg hg hs) (Ap.arg hc hs) (Ap.own (.tail _ (.head _)) hs) (hs.sub (List.sublist_append_left _ _)).self) ?_)
      rintro _ _ ⟨vd2, vs2, rfl, rfl⟩
      show Run _ _ (putF _ _ _ (.tuple #[])) [.blk b13 90 [.int .i64 N, .slice Ag m cg, .int .i64 Q, .slice Ac n cc, .slice (some ⟨gp, 0, none⟩) pn c_up1, vd2, vs2], .own vd2 4 1 n (bls (advS (goB es m xs (swL a b ps)) n ds (L ++ [((-1, a, b) : T3)])).1), .own vs2 101 3 ((advS (goB es m xs (swL a b ps)) n ds (L ++ [((-1, a, b) : T3)])).2.length) (ints (fl3 (advS (goB es m xs (swL a b ps)) n ds (L ++ [((-1, a, b) : T3)])).2)), .own (.slice (some ⟨b10, 0, none⟩) 1 1) 101 3 1 ([.int .i64 (-1), .int .i64 a, .int .i64 b]), .own (.slice (some ⟨gp, 0, none⟩) pn c_up1) 3 1 pn (ints (swL a b ps)), .blk b4 87 [.int .i64 N, .slice Ag m cg, .int .i64 Q, .slice Ac n cc, .slice (some ⟨gp, 0, none⟩) pn c_up1, .slice A_ud1 n c_ud1], .blk b3 90 [.int .i64 0, .slice none 0 0, .int .i64 0, .slice none 0 0, .slice none 0 0, .slice none 0 0, .slice none 0 0], .blk b2 77 [.int .i64 a, .int .i64 b], .blk b1 90 [.int .i64 N, .slice Ag m cg, .int .i64 Q, .slice Ac n cc, .slice Av pn cv, .slice Ad n cd, .slice As (L.length) cs]]
      refine Run.done ?_
      refine Run.seq ?_
      refine Run.region ?_
      refine Run.q (v := .agg #[.int .i64 N, .slice Ag m cg, .int .i64 Q, .slice Ac n cc, .slice (some ⟨gp, 0, none⟩) pn c_up1, vd2, vs2]) rfl (OpQ.y (OpY.loadN (cs := [.int .i64 N, .slice Ag m cg, .int .i64 Q, .slice Ac n cc, .slice (some ⟨gp, 0, none⟩) pn c_up1, vd2, vs2]) Tagg_90 rfl (Cells.blk (.head _) ⟨rfl, rfl, rfl, rfl, rfl, rfl, rfl, trivial⟩))) ?_
      refine Run.formOwn (.tail _ (List.Mem.head _)) (fun A_vd26 c_vd26 hv hcapc_vd26 hmaxc_vd26 => ?_) (fun _ _ _ => ⟨nofun, nofun, nofun⟩)
      subst hv
      refine Run.formOwn (.tail _ (.tail _ (List.Mem.head _))) (fun A_vs26 c_vs26 hv hcapc_vs26 hmaxc_vs26 => ?_) (fun _ _ _ => ⟨nofun, nofun, nofun⟩)
      subst hv
      refine Run.step rfl (OpStep.storeAll (us := [.int .i64 N, .slice Ag m cg, .int .i64 Q, .slice Ac n cc, .slice (some ⟨gp, 0, none⟩) pn c_up1, .slice A_vd26 n c_vd26, .slice A_vs26 ((advS (goB es m xs (swL a b ps)) n ds (L ++ [((-1, a, b) : T3)])).2.length) c_vs26]) Tsize_90 rfl rfl rfl (.there _ (.there _ (.there _ (.there _ (.there _ (.there _ (.here _))))))) rfl ?_)
      refine Run.done ?_
      refine Run.ret ?_
      refine ⟨.agg #[.int .i64 N, .slice Ag m cg, .int .i64 Q, .slice Ac n cc, .slice (some ⟨gp, 0, none⟩) pn c_up1, .slice A_vd26 n c_vd26, .slice A_vs26 ((advS (goB es m xs (swL a b ps)) n ds (L ++ [((-1, a, b) : T3)])).2.length) c_vs26], [.own (.slice (some ⟨gp, 0, none⟩) pn c_up1) 3 1 pn (ints (swL a b ps)), .own (.slice A_vd26 n c_vd26) 4 1 n (bls (advS (goB es m xs (swL a b ps)) n ds (L ++ [((-1, a, b) : T3)])).1), .own (.slice A_vs26 ((advS (goB es m xs (swL a b ps)) n ds (L ++ [((-1, a, b) : T3)])).2.length) c_vs26) 101 3 ((advS (goB es m xs (swL a b ps)) n ds (L ++ [((-1, a, b) : T3)])).2.length) (ints (fl3 (advS (goB es m xs (swL a b ps)) n ds (L ++ [((-1, a, b) : T3)])).2))], Out.cell1 (cs := [.int .i64 N, .slice Ag m cg, .int .i64 Q, .slice Ac n cc, .slice (some ⟨gp, 0, none⟩) pn c_up1, .slice A_vd26 n c_vd26, .slice A_vs26 ((advS (goB es m xs (swL a b ps)) n ds (L ++ [((-1, a, b) : T3)])).2.length) c_vs26]) rfl Tagg_90 rfl (Cells.blk (.tail _ (.tail _ (.tail _ (.tail _ (.tail _ (.tail _ (List.Mem.head _))))))) ⟨rfl, rfl, rfl, rfl, rfl, rfl, rfl, trivial⟩), ((Weak.selF [4, 1, 1]).trans (Some'.weak (.take (.take (.take (.nil _)))))), ?_⟩
      exact ⟨_, _, _, rfl, rfl⟩
  · refine OpStep.alloc (zs := [.int .i64 0, .slice none 0 0, .int .i64 0, .slice none 0 0, .slice none 0 0, .slice none 0 0, .slice none 0 0]) Tzero_90 fun b14 => ?_
    refine ⟨(Some'.weak (.skip (.skip (.skip (.take (.take (.take (.take (.nil _))))))))), ?_⟩
    refine DW.two (i := 3) (j := 9) (by kernel_rfl) rfl rfl rfl rfl ?_ ?_
    · refine OpStep.call (vs := [.slice As (L.length) cs]) (caps := []) Tcall_79 rfl rfl (fun w hs => CloneStep_spec (by omega) (hs.sl hs_)) ?_
      rintro us _ rfl
      refine ⟨(Some'.weak (.skip (.skip (.skip (.skip (.take (.take (.take (.take (.nil _)))))))))), ?_⟩
      refine DW.step (i := 9) (by kernel_rfl) rfl rfl (OpStep.buildSlice (us := [.int .i64 (-1), .int .i64 a, .int .i64 b]) Tsl_46 (by decide) (by decide) ⟨rfl, [.int .i64 (-1), .int .i64 a, .int .i64 b], _, rfl, rfl, rfl, rfl⟩ rfl fun b15 => ?_)
      refine ⟨(Some'.weak (.skip (.skip (.skip (.skip (.skip (.take (.take (.take (.take (.nil _))))))))))), ?_⟩
      refine DW.step (i := 10) (by kernel_rfl) rfl rfl (OpStep.append (H1 := [.own (.slice (some ⟨b15, 0, none⟩) 1 1) 101 3 1 ([.int .i64 (-1), .int .i64 a, .int .i64 b])]) (H2 := [.blk b14 90 [.int .i64 0, .slice none 0 0, .int .i64 0, .slice none 0 0, .slice none 0 0, .slice none 0 0, .slice none 0 0], .own (.slice (some ⟨gp, 0, none⟩) pn c_up1) 3 1 pn (ints (swL a b ps)), .own (.slice A_ud1 n c_ud1) 4 1 n (bls ds), .blk b4 87 [.int .i64 N, .slice Ag m cg, .int .i64 Q, .slice Ac n cc, .slice (some ⟨gp, 0, none⟩) pn c_up1, .slice A_ud1 n c_ud1], .blk b3 90 [.int .i64 0, .slice none 0 0, .int .i64 0, .slice none 0 0, .slice none 0 0, .slice none 0 0, .slice none 0 0], .blk b2 77 [.int .i64 a, .int .i64 b], .blk b1 90 [.int .i64 N, .slice Ag m cg, .int .i64 Q, .slice Ac n cc, .slice Av pn cv, .slice Ad n cd, .slice As (L.length) cs]]) (v := us) (u := .slice (some ⟨b15, 0, none⟩) 1 1) (n := L.length) (m := 1) (xs := ints (fl3 L)) (ys := [.int .i64 (-1), .int .i64 a, .int .i64 b]) Tsl_46 (by decide) rfl rfl rfl rfl (fun w hs => hs.slOwn (.head _)) (by simp [Value.oneCell']) (by omega) (by simp only [maxLen]; omega) fun av7 hnav7 => ?_)
      refine DW.weakS (H' := [.own (.slice (some ⟨b15, 0, none⟩) 1 1) 101 3 1 ([.int .i64 (-1), .int .i64 a, .int .i64 b]), .own av7 101 3 ((L ++ [((-1, a, b) : T3)]).length) (ints (fl3 (L ++ [((-1, a, b) : T3)]))), .blk b14 90 [.int .i64 0, .slice none 0 0, .int .i64 0, .slice none 0 0, .slice none 0 0, .slice none 0 0, .slice none 0 0], .own (.slice (some ⟨gp, 0, none⟩) pn c_up1) 3 1 pn (ints (swL a b ps)), .own (.slice A_ud1 n c_ud1) 4 1 n (bls ds), .blk b4 87 [.int .i64 N, .slice Ag m cg, .int .i64 Q, .slice Ac n cc, .slice (some ⟨gp, 0, none⟩) pn c_up1, .slice A_ud1 n c_ud1], .blk b3 90 [.int .i64 0, .slice none 0 0, .int .i64 0, .slice none 0 0, .slice none 0 0, .slice none 0 0, .slice none 0 0], .blk b2 77 [.int .i64 a, .int .i64 b], .blk b1 90 [.int .i64 N, .slice Ag m cg, .int .i64 Q, .slice Ac n cc, .slice Av pn cv, .slice Ad n cd, .slice As (L.length) cs]]) (Some'.weak (.take (.takeEq (by rw [ints_fl3]; exact congrArg (fun k => Res.own _ _ _ k _) (by simp)) (.take (.take (.take (.take (.take (.take (.take (.nil _))))))))))) ?_
      refine ⟨(Some'.weak (.skip (.skip (.skip (.skip (.skip (.take (.take (.take (.take (.nil _))))))))))), ?_⟩
      refine DW.formOwn (.tail _ (List.Mem.head _)) (fun A_av71 c_av71 hv hcapc_av71 hmaxc_av71 => ?_)
      subst hv
      refine DW.take (i := 11) (v := .agg #[.int .i64 N, .slice Ag m cg, .int .i64 Q, .slice Ac n cc, .slice (some ⟨gp, 0, none⟩) pn c_up1, .slice A_ud1 n c_ud1, .slice A_av71 ((L ++ [((-1, a, b) : T3)]).length) c_av71]) rfl (by kernel_rfl) (by kernel_rfl) (by kernel_rfl) (fun _ _ _ h => h) (Some'.weak (.skip (.skip (.skip (.skip (.skip (.take (.take (.take (.take (.nil _))))))))))) rfl (OpY.build (cs := [.int .i64 N, .slice Ag m cg, .int .i64 Q, .slice Ac n cc, .slice (some ⟨gp, 0, none⟩) pn c_up1, .slice A_ud1 n c_ud1, .slice A_av71 ((L ++ [((-1, a, b) : T3)]).length) c_av71]) (by kernel_rfl)) ?_
      refine DW.step (i := 13) (by kernel_rfl) rfl rfl (OpStep.storeAll (us := [.int .i64 N, .slice Ag m cg, .int .i64 Q, .slice Ac n cc, .slice (some ⟨gp, 0, none⟩) pn c_up1, .slice A_ud1 n c_ud1, .slice A_av71 ((L ++ [((-1, a, b) : T3)]).length) c_av71]) Tsize_90 rfl rfl rfl (.there _ (.there _ (.here _))) rfl ?_)
      refine ⟨(Some'.weak (.skip (.skip (.skip (.skip (.skip (.take (.take (.take (.take (.nil _))))))))))), ?_⟩
      refine DW.done (by kernel_rfl) ?_
      refine Run.seq ?_
      refine Run.region ?_
      refine Run.step rfl (OpStep.callM (H1 := [.blk b14 90 [.int .i64 N, .slice Ag m cg, .int .i64 Q, .slice Ac n cc, .slice (some ⟨gp, 0, none⟩) pn c_up1, .slice A_ud1 n c_ud1, .slice A_av71 ((L ++ [((-1, a, b) : T3)]).length) c_av71], .own (.slice A_ud1 n c_ud1) 4 1 n (bls ds), .own (.slice A_av71 ((L ++ [((-1, a, b) : T3)]).length) c_av71) 101 3 ((L ++ [((-1, a, b) : T3)]).length) (ints (fl3 (L ++ [((-1, a, b) : T3)])))]) (H2 := [.own (.slice (some ⟨b15, 0, none⟩) 1 1) 101 3 1 ([.int .i64 (-1), .int .i64 a, .int .i64 b]), .own (.slice (some ⟨gp, 0, none⟩) pn c_up1) 3 1 pn (ints (swL a b ps)), .blk b4 87 [.int .i64 N, .slice Ag m cg, .int .i64 Q, .slice Ac n cc, .slice (some ⟨gp, 0, none⟩) pn c_up1, .slice A_ud1 n c_ud1], .blk b3 90 [.int .i64 0, .slice none 0 0, .int .i64 0, .slice none 0 0, .slice none 0 0, .slice none 0 0, .slice none 0 0], .blk b2 77 [.int .i64 a, .int .i64 b], .blk b1 90 [.int .i64 N, .slice Ag m cg, .int .i64 Q, .slice Ac n cc, .slice Av pn cv, .slice Ad n cd, .slice As (L.length) cs]]) (vs := [.pointer (some ⟨b14, 0, none⟩)]) (caps := []) Tcall_51 rfl rfl (Weak.selF [2, 3, 1]) (fun w hs => advance_spec (by omega) hdl he hin (by rw [List.length_append]; simp only [List.length_cons, List.length_nil]; omega) (Ap.arg hg hs) (Ap.arg hc hs) (Ap.own (.tail _ (.head _)) hs) (hs.sub (List.sublist_append_left _ _)).self) ?_)
      rintro _ _ ⟨vd2, vs2, rfl, rfl⟩
      show Run _ _ (putF _ _ _ (.tuple #[])) [.blk b14 90 [.int .i64 N, .slice Ag m cg, .int .i64 Q, .slice Ac n cc, .slice (some ⟨gp, 0, none⟩) pn c_up1, vd2, vs2], .own vd2 4 1 n (bls (advS (goB es m xs (swL a b ps)) n ds (L ++ [((-1, a, b) : T3)])).1), .own vs2 101 3 ((advS (goB es m xs (swL a b ps)) n ds (L ++ [((-1, a, b) : T3)])).2.length) (ints (fl3 (advS (goB es m xs (swL a b ps)) n ds (L ++ [((-1, a, b) : T3)])).2)), .own (.slice (some ⟨b15, 0, none⟩) 1 1) 101 3 1 ([.int .i64 (-1), .int .i64 a, .int .i64 b]), .own (.slice (some ⟨gp, 0, none⟩) pn c_up1) 3 1 pn (ints (swL a b ps)), .blk b4 87 [.int .i64 N, .slice Ag m cg, .int .i64 Q, .slice Ac n cc, .slice (some ⟨gp, 0, none⟩) pn c_up1, .slice A_ud1 n c_ud1], .blk b3 90 [.int .i64 0, .slice none 0 0, .int .i64 0, .slice none 0 0, .slice none 0 0, .slice none 0 0, .slice none 0 0], .blk b2 77 [.int .i64 a, .int .i64 b], .blk b1 90 [.int .i64 N, .slice Ag m cg, .int .i64 Q, .slice Ac n cc, .slice Av pn cv, .slice Ad n cd, .slice As (L.length) cs]]
      refine Run.done ?_
      refine Run.seq ?_
      refine Run.region ?_
      refine Run.q (v := .agg #[.int .i64 N, .slice Ag m cg, .int .i64 Q, .slice Ac n cc, .slice (some ⟨gp, 0, none⟩) pn c_up1, vd2, vs2]) rfl (OpQ.y (OpY.loadN (cs := [.int .i64 N, .slice Ag m cg, .int .i64 Q, .slice Ac n cc, .slice (some ⟨gp, 0, none⟩) pn c_up1, vd2, vs2]) Tagg_90 rfl (Cells.blk (.head _) ⟨rfl, rfl, rfl, rfl, rfl, rfl, rfl, trivial⟩))) ?_
      refine Run.formOwn (.tail _ (List.Mem.head _)) (fun A_vd27 c_vd27 hv hcapc_vd27 hmaxc_vd27 => ?_) (fun _ _ _ => ⟨nofun, nofun, nofun⟩)
      subst hv
      refine Run.formOwn (.tail _ (.tail _ (List.Mem.head _))) (fun A_vs27 c_vs27 hv hcapc_vs27 hmaxc_vs27 => ?_) (fun _ _ _ => ⟨nofun, nofun, nofun⟩)
      subst hv
      refine Run.step rfl (OpStep.storeAll (us := [.int .i64 N, .slice Ag m cg, .int .i64 Q, .slice Ac n cc, .slice (some ⟨gp, 0, none⟩) pn c_up1, .slice A_vd27 n c_vd27, .slice A_vs27 ((advS (goB es m xs (swL a b ps)) n ds (L ++ [((-1, a, b) : T3)])).2.length) c_vs27]) Tsize_90 rfl rfl rfl (.there _ (.there _ (.there _ (.there _ (.there _ (.there _ (.here _))))))) rfl ?_)
      refine Run.done ?_
      refine Run.ret ?_
      refine ⟨.agg #[.int .i64 N, .slice Ag m cg, .int .i64 Q, .slice Ac n cc, .slice (some ⟨gp, 0, none⟩) pn c_up1, .slice A_vd27 n c_vd27, .slice A_vs27 ((advS (goB es m xs (swL a b ps)) n ds (L ++ [((-1, a, b) : T3)])).2.length) c_vs27], [.own (.slice (some ⟨gp, 0, none⟩) pn c_up1) 3 1 pn (ints (swL a b ps)), .own (.slice A_vd27 n c_vd27) 4 1 n (bls (advS (goB es m xs (swL a b ps)) n ds (L ++ [((-1, a, b) : T3)])).1), .own (.slice A_vs27 ((advS (goB es m xs (swL a b ps)) n ds (L ++ [((-1, a, b) : T3)])).2.length) c_vs27) 101 3 ((advS (goB es m xs (swL a b ps)) n ds (L ++ [((-1, a, b) : T3)])).2.length) (ints (fl3 (advS (goB es m xs (swL a b ps)) n ds (L ++ [((-1, a, b) : T3)])).2))], Out.cell1 (cs := [.int .i64 N, .slice Ag m cg, .int .i64 Q, .slice Ac n cc, .slice (some ⟨gp, 0, none⟩) pn c_up1, .slice A_vd27 n c_vd27, .slice A_vs27 ((advS (goB es m xs (swL a b ps)) n ds (L ++ [((-1, a, b) : T3)])).2.length) c_vs27]) rfl Tagg_90 rfl (Cells.blk (.tail _ (.tail _ (.tail _ (.tail _ (.tail _ (.tail _ (List.Mem.head _))))))) ⟨rfl, rfl, rfl, rfl, rfl, rfl, rfl, trivial⟩), ((Weak.selF [4, 1, 1]).trans (Some'.weak (.take (.take (.take (.nil _)))))), ?_⟩
      exact ⟨_, _, _, rfl, rfl⟩
    · refine OpStep.buildSlice (us := [.int .i64 (-1), .int .i64 a, .int .i64 b]) Tsl_46 (by decide) (by decide) ⟨rfl, [.int .i64 (-1), .int .i64 a, .int .i64 b], _, rfl, rfl, rfl, rfl⟩ rfl fun b16 => ?_
      refine ⟨(Some'.weak (.skip (.skip (.skip (.skip (.take (.take (.take (.take (.nil _)))))))))), ?_⟩
      refine DW.step (i := 3) (by kernel_rfl) rfl rfl (OpStep.call (vs := [.slice As (L.length) cs]) (caps := []) Tcall_79 rfl rfl (fun w hs => CloneStep_spec (by omega) (hs.sl hs_)) ?_)
      rintro us _ rfl
      refine ⟨(Some'.weak (.skip (.skip (.skip (.skip (.skip (.take (.take (.take (.take (.nil _))))))))))), ?_⟩
      refine DW.step (i := 10) (by kernel_rfl) rfl rfl (OpStep.append (H1 := []) (H2 := [.own (.slice (some ⟨b16, 0, none⟩) 1 1) 101 3 1 ([.int .i64 (-1), .int .i64 a, .int .i64 b]), .blk b14 90 [.int .i64 0, .slice none 0 0, .int .i64 0, .slice none 0 0, .slice none 0 0, .slice none 0 0, .slice none 0 0], .own (.slice (some ⟨gp, 0, none⟩) pn c_up1) 3 1 pn (ints (swL a b ps)), .own (.slice A_ud1 n c_ud1) 4 1 n (bls ds), .blk b4 87 [.int .i64 N, .slice Ag m cg, .int .i64 Q, .slice Ac n cc, .slice (some ⟨gp, 0, none⟩) pn c_up1, .slice A_ud1 n c_ud1], .blk b3 90 [.int .i64 0, .slice none 0 0, .int .i64 0, .slice none 0 0, .slice none 0 0, .slice none 0 0, .slice none 0 0], .blk b2 77 [.int .i64 a, .int .i64 b], .blk b1 90 [.int .i64 N, .slice Ag m cg, .int .i64 Q, .slice Ac n cc, .slice Av pn cv, .slice Ad n cd, .slice As (L.length) cs]]) (v := us) (u := .slice (some ⟨b16, 0, none⟩) 1 1) (n := L.length) (m := 1) (xs := ints (fl3 L)) (ys := [.int .i64 (-1), .int .i64 a, .int .i64 b]) Tsl_46 (by decide) rfl rfl rfl rfl (fun w hs => hs.slOwn (.tail _ (List.Mem.head _))) (by simp [Value.oneCell']) (by omega) (by simp only [maxLen]; omega) fun av8 hnav8 => ?_)
      refine DW.weakS (H' := [.own av8 101 3 ((L ++ [((-1, a, b) : T3)]).length) (ints (fl3 (L ++ [((-1, a, b) : T3)]))), .own (.slice (some ⟨b16, 0, none⟩) 1 1) 101 3 1 ([.int .i64 (-1), .int .i64 a, .int .i64 b]), .blk b14 90 [.int .i64 0, .slice none 0 0, .int .i64 0, .slice none 0 0, .slice none 0 0, .slice none 0 0, .slice none 0 0], .own (.slice (some ⟨gp, 0, none⟩) pn c_up1) 3 1 pn (ints (swL a b ps)), .own (.slice A_ud1 n c_ud1) 4 1 n (bls ds), .blk b4 87 [.int .i64 N, .slice Ag m cg, .int .i64 Q, .slice Ac n cc, .slice (some ⟨gp, 0, none⟩) pn c_up1, .slice A_ud1 n c_ud1], .blk b3 90 [.int .i64 0, .slice none 0 0, .int .i64 0, .slice none 0 0, .slice none 0 0, .slice none 0 0, .slice none 0 0], .blk b2 77 [.int .i64 a, .int .i64 b], .blk b1 90 [.int .i64 N, .slice Ag m cg, .int .i64 Q, .slice Ac n cc, .slice Av pn cv, .slice Ad n cd, .slice As (L.length) cs]]) (Some'.weak (.takeEq (by rw [ints_fl3]; exact congrArg (fun k => Res.own _ _ _ k _) (by simp)) (.take (.take (.take (.take (.take (.take (.take (.take (.nil _))))))))))) ?_
      refine ⟨(Some'.weak (.skip (.skip (.skip (.skip (.skip (.take (.take (.take (.take (.nil _))))))))))), ?_⟩
      refine DW.formOwn (.head _) (fun A_av81 c_av81 hv hcapc_av81 hmaxc_av81 => ?_)
      subst hv
      refine DW.take (i := 11) (v := .agg #[.int .i64 N, .slice Ag m cg, .int .i64 Q, .slice Ac n cc, .slice (some ⟨gp, 0, none⟩) pn c_up1, .slice A_ud1 n c_ud1, .slice A_av81 ((L ++ [((-1, a, b) : T3)]).length) c_av81]) rfl (by kernel_rfl) (by kernel_rfl) (by kernel_rfl) (fun _ _ _ h => h) (Some'.weak (.skip (.skip (.skip (.skip (.skip (.take (.take (.take (.take (.nil _))))))))))) rfl (OpY.build (cs := [.int .i64 N, .slice Ag m cg, .int .i64 Q, .slice Ac n cc, .slice (some ⟨gp, 0, none⟩) pn c_up1, .slice A_ud1 n c_ud1, .slice A_av81 ((L ++ [((-1, a, b) : T3)]).length) c_av81]) (by kernel_rfl)) ?_
      refine DW.step (i := 13) (by kernel_rfl) rfl rfl (OpStep.storeAll (us := [.int .i64 N, .slice Ag m cg, .int .i64 Q, .slice Ac n cc, .slice (some ⟨gp, 0, none⟩) pn c_up1, .slice A_ud1 n c_ud1, .slice A_av81 ((L ++ [((-1, a, b) : T3)]).length) c_av81]) Tsize_90 rfl rfl rfl (.there _ (.there _ (.here _))) rfl ?_)
      refine ⟨(Some'.weak (.skip (.skip (.skip (.skip (.skip (.take (.take (.take (.take (.nil _))))))))))), ?_⟩
      refine DW.done (by kernel_rfl) ?_
      refine Run.seq ?_
      refine Run.region ?_
      refine Run.step rfl (OpStep.callM (H1 := [.blk b14 90 [.int .i64 N, .slice Ag m cg, .int .i64 Q, .slice Ac n cc, .slice (some ⟨gp, 0, none⟩) pn c_up1, .slice A_ud1 n c_ud1, .slice A_av81 ((L ++ [((-1, a, b) : T3)]).length) c_av81], .own (.slice A_ud1 n c_ud1) 4 1 n (bls ds), .own (.slice A_av81 ((L ++ [((-1, a, b) : T3)]).length) c_av81) 101 3 ((L ++ [((-1, a, b) : T3)]).length) (ints (fl3 (L ++ [((-1, a, b) : T3)])))]) (H2 := [.own (.slice (some ⟨b16, 0, none⟩) 1 1) 101 3 1 ([.int .i64 (-1), .int .i64 a, .int .i64 b]), .own (.slice (some ⟨gp, 0, none⟩) pn c_up1) 3 1 pn (ints (swL a b ps)), .blk b4 87 [.int .i64 N, .slice Ag m cg, .int .i64 Q, .slice Ac n cc, .slice (some ⟨gp, 0, none⟩) pn c_up1, .slice A_ud1 n c_ud1], .blk b3 90 [.int .i64 0, .slice none 0 0, .int .i64 0, .slice none 0 0, .slice none 0 0, .slice none 0 0, .slice none 0 0], .blk b2 77 [.int .i64 a, .int .i64 b], .blk b1 90 [.int .i64 N, .slice Ag m cg, .int .i64 Q, .slice Ac n cc, .slice Av pn cv, .slice Ad n cd, .slice As (L.length) cs]]) (vs := [.pointer (some ⟨b14, 0, none⟩)]) (caps := []) Tcall_51 rfl rfl (Weak.selF [2, 3, 0]) (fun w hs => advance_spec (by omega) hdl he hin (by rw [List.length_append]; simp only [List.length_cons, List.length_nil]; omega) (Ap.arg hg hs) (Ap.arg hc hs) (Ap.own (.tail _ (.head _)) hs) (hs.sub (List.sublist_append_left _ _)).self) ?_)
      rintro _ _ ⟨vd2, vs2, rfl, rfl⟩
      show Run _ _ (putF _ _ _ (.tuple #[])) [.blk b14 90 [.int .i64 N, .slice Ag m cg, .int .i64 Q, .slice Ac n cc, .slice (some ⟨gp, 0, none⟩) pn c_up1, vd2, vs2], .own vd2 4 1 n (bls (advS (goB es m xs (swL a b ps)) n ds (L ++ [((-1, a, b) : T3)])).1), .own vs2 101 3 ((advS (goB es m xs (swL a b ps)) n ds (L ++ [((-1, a, b) : T3)])).2.length) (ints (fl3 (advS (goB es m xs (swL a b ps)) n ds (L ++ [((-1, a, b) : T3)])).2)), .own (.slice (some ⟨b16, 0, none⟩) 1 1) 101 3 1 ([.int .i64 (-1), .int .i64 a, .int .i64 b]), .own (.slice (some ⟨gp, 0, none⟩) pn c_up1) 3 1 pn (ints (swL a b ps)), .blk b4 87 [.int .i64 N, .slice Ag m cg, .int .i64 Q, .slice Ac n cc, .slice (some ⟨gp, 0, none⟩) pn c_up1, .slice A_ud1 n c_ud1], .blk b3 90 [.int .i64 0, .slice none 0 0, .int .i64 0, .slice none 0 0, .slice none 0 0, .slice none 0 0, .slice none 0 0], .blk b2 77 [.int .i64 a, .int .i64 b], .blk b1 90 [.int .i64 N, .slice Ag m cg, .int .i64 Q, .slice Ac n cc, .slice Av pn cv, .slice Ad n cd, .slice As (L.length) cs]]
      refine Run.done ?_
      refine Run.seq ?_
      refine Run.region ?_
      refine Run.q (v := .agg #[.int .i64 N, .slice Ag m cg, .int .i64 Q, .slice Ac n cc, .slice (some ⟨gp, 0, none⟩) pn c_up1, vd2, vs2]) rfl (OpQ.y (OpY.loadN (cs := [.int .i64 N, .slice Ag m cg, .int .i64 Q, .slice Ac n cc, .slice (some ⟨gp, 0, none⟩) pn c_up1, vd2, vs2]) Tagg_90 rfl (Cells.blk (.head _) ⟨rfl, rfl, rfl, rfl, rfl, rfl, rfl, trivial⟩))) ?_
      refine Run.formOwn (.tail _ (List.Mem.head _)) (fun A_vd28 c_vd28 hv hcapc_vd28 hmaxc_vd28 => ?_) (fun _ _ _ => ⟨nofun, nofun, nofun⟩)
      subst hv
      refine Run.formOwn (.tail _ (.tail _ (List.Mem.head _))) (fun A_vs28 c_vs28 hv hcapc_vs28 hmaxc_vs28 => ?_) (fun _ _ _ => ⟨nofun, nofun, nofun⟩)
      subst hv
      refine Run.step rfl (OpStep.storeAll (us := [.int .i64 N, .slice Ag m cg, .int .i64 Q, .slice Ac n cc, .slice (some ⟨gp, 0, none⟩) pn c_up1, .slice A_vd28 n c_vd28, .slice A_vs28 ((advS (goB es m xs (swL a b ps)) n ds (L ++ [((-1, a, b) : T3)])).2.length) c_vs28]) Tsize_90 rfl rfl rfl (.there _ (.there _ (.there _ (.there _ (.there _ (.there _ (.here _))))))) rfl ?_)
      refine Run.done ?_
      refine Run.ret ?_
      refine ⟨.agg #[.int .i64 N, .slice Ag m cg, .int .i64 Q, .slice Ac n cc, .slice (some ⟨gp, 0, none⟩) pn c_up1, .slice A_vd28 n c_vd28, .slice A_vs28 ((advS (goB es m xs (swL a b ps)) n ds (L ++ [((-1, a, b) : T3)])).2.length) c_vs28], [.own (.slice (some ⟨gp, 0, none⟩) pn c_up1) 3 1 pn (ints (swL a b ps)), .own (.slice A_vd28 n c_vd28) 4 1 n (bls (advS (goB es m xs (swL a b ps)) n ds (L ++ [((-1, a, b) : T3)])).1), .own (.slice A_vs28 ((advS (goB es m xs (swL a b ps)) n ds (L ++ [((-1, a, b) : T3)])).2.length) c_vs28) 101 3 ((advS (goB es m xs (swL a b ps)) n ds (L ++ [((-1, a, b) : T3)])).2.length) (ints (fl3 (advS (goB es m xs (swL a b ps)) n ds (L ++ [((-1, a, b) : T3)])).2))], Out.cell1 (cs := [.int .i64 N, .slice Ag m cg, .int .i64 Q, .slice Ac n cc, .slice (some ⟨gp, 0, none⟩) pn c_up1, .slice A_vd28 n c_vd28, .slice A_vs28 ((advS (goB es m xs (swL a b ps)) n ds (L ++ [((-1, a, b) : T3)])).2.length) c_vs28]) rfl Tagg_90 rfl (Cells.blk (.tail _ (.tail _ (.tail _ (.tail _ (.tail _ (.tail _ (List.Mem.head _))))))) ⟨rfl, rfl, rfl, rfl, rfl, rfl, rfl, trivial⟩), ((Weak.selF [4, 1, 1]).trans (Some'.weak (.take (.take (.take (.nil _)))))), ?_⟩
      exact ⟨_, _, _, rfl, rfl⟩

end Go.Proofs.Ytekikmdjldincaa
/- Slices of an array that a block holds; copies into a block. -/
set_option linter.unusedSimpArgs false
set_option linter.unusedVariables false
namespace Go.Proofs.Ytekikmdjldincaa
open Go Go.RowKit
theorem OpY.sliceArr {E : Env} {f : Fr} {H : List Res} {d : Option Tmp} {ty : TypeId} {pos : String} {after : Array Edge} {gd : Option (Nat × Bool)} {t : TypeId} {x : Operand} {b o n size : Nat} (ht : arrayOf E.P t = some (n, size)) (hx : f.eval x = .pointer (some ⟨b, o, none⟩)) (h0 : 0 < n) :
    OpY E ⟨d, .slice t x none none none, ty, pos, after, gd⟩ f H (.slice (some ⟨b, o, none⟩) n n) := by
  intro w _
  unfold arrayOf at ht
  split at ht
  · rename_i n' e hu
    obtain ⟨i, hi, he⟩ := Option.map_eq_some_iff.1 ht
    simp only [Prod.mk.injEq] at he
    obtain ⟨rfl, rfl⟩ := he
    have hne : ¬ n' = 0 := by omega
    simp [execOp, hx, Instr.sliceAt, run_underlying hu, Instr.sliceBounds, sizeOf, typeInfo, hi, Instr.sureAddr, hne, Addr.add]
  · cases ht
theorem OpStep.copyBlk {E : Env} {f : Fr} {H : List Res} {d : Option Tmp} {pos : String} {after : Array Edge} {gd : Option (Nat × Bool)} {K : Fr → List Res → Prop} {dT sT ty' : TypeId} {x y : Operand} {g o dn dc sn cnt : Nat} {bt e : TypeId} {size bytes : Nat} {zs cs ys us : List Value} {u : Value} {H' : List Res}
    (ht : sliceOf E.P dT = some (e, size, bytes, zs)) (hx : f.eval x = .slice (some ⟨g, o, none⟩) dn dc) (hy : f.eval y = u) (hr : ∀ w, St E.M E.w0 w H → Sl w u size sn ys) (hsn : 0 < sn) (hc : Nat.min sn dn = cnt) (hus : ys.take (cnt * size) = us) (hone : us.all (·.oneCell') = true)
    (hH : Turn (.blk g bt cs) (.blk g bt (spl cs o us)) H H') (hfit : o + cnt * size ≤ cs.length) (hk : K (putF E.n f d (.int .i64 cnt)) H') :
    OpStep E ⟨d, .call { callee := .builtin .copy, args := #[x, y], argTypes := #[dT, sT] }, ty', pos, after, gd⟩ f H K := by
  refine OpStep.of_value (v := fun _ => .int .i64 cnt) (w' := fun w => w.setCells g o us) (H' := fun _ => H') (fun w hs => ?_)
  obtain ⟨hu, i, z, hi, hz, hsz, _, _⟩ := sliceOf_spec ht
  obtain ⟨hyl, A, c, rfl, h1, h2, h3⟩ := hr w hs
  obtain ⟨b2, o2, rfl, _, hrg⟩ := h3 hsn
  obtain ⟨H1, H2, rfl, rfl⟩ := hH.split
  have hs' := hs.perm List.perm_middle
  have hul : us.length = cnt * size := by
    rw [← hus, List.length_take, hyl]
    have : cnt * size ≤ sn * size := Nat.mul_le_mul_right _ (by rw [← hc]; exact Nat.min_le_left _ _)
    omega
  have hl := run_loadCells_list (P := E.P) w ⟨b2, o2, none⟩ us (fun j v hv => by
    rw [Addr.add_mid]
    refine hrg j v ?_
    rw [← hus, List.getElem?_take] at hv
    split at hv
    · exact hv
    · cases hv)
  rw [hul] at hl
  have hst := run_storeCells_cells (P := E.P) g o us 0 w (fun j hj => by
      have h2 := hs'.cell_blk (b := g) (List.Mem.head _) (o + j)
      rw [List.getElem?_eq_getElem (show o + j < cs.length by omega)] at h2
      rw [Nat.add_zero, h2]; rfl) (fun j hj => by rw [Nat.add_zero]; exact hs'.frozen_blk (List.Mem.head _) (o + j)) (fun v hv => (List.all_eq_true.1 hone) v hv)
  simp only [Nat.add_zero] at hst
  refine ⟨?_, (St.setCells us o w cs hs').perm List.perm_middle.symm, hk⟩
  have hcp : (Builtin.copy_ #[dT, sT] ty' #[.slice (some ⟨g, o, none⟩) dn dc, .slice (some ⟨b2, o2, none⟩) sn c]).run E.P w = .ok (goInt cnt) (w.setCells g o us) := by
    simp [Builtin.copy_, run_underlying hu, Builtin.lenOf, Builtin.firstCells, sizeOf, typeInfo, hi, hsz, hc, hl, hst]
  simp [execOp, resolve, invoke, builtin, hx, hy, hcp, goInt]

end Go.Proofs.Ytekikmdjldincaa
/- Walks: the key of a node. -/
set_option linter.unusedSimpArgs false
set_option linter.unusedVariables false
namespace Go.Proofs.Ytekikmdjldincaa
open Go Go.RowKit
namespace LshT
theorem Tagg_94 : aggOf Try.prog 94 = some 6 := by kernel_rfl
theorem Tarr_91 : arrayOf Try.prog 91 = some (5, 1) := by kernel_rfl
theorem Tfo_87_2 : fieldOff Try.prog 87 2 = some 4 := by kernel_rfl
theorem Tfo_87_3 : fieldOff Try.prog 87 3 = some 5 := by kernel_rfl
theorem Tfo_90_0 : fieldOff Try.prog 90 0 = some 0 := by kernel_rfl
theorem Tfo_94_0 : fieldOff Try.prog 94 0 = some 0 := by kernel_rfl
theorem Tfo_94_1 : fieldOff Try.prog 94 1 = some 5 := by kernel_rfl
theorem Tone_28 : oneOf Try.prog 28 = true := by kernel_rfl
theorem Tone_4 : oneOf Try.prog 4 = true := by kernel_rfl
theorem Tone_85 : oneOf Try.prog 85 = true := by kernel_rfl
theorem Tone_92 : oneOf Try.prog 92 = true := by kernel_rfl
theorem Tsize_92 : (Try.prog.info? 92).map (·.size) = some 1 := by kernel_rfl
theorem Tsize_94 : (Try.prog.info? 94).map (·.size) = some 6 := by kernel_rfl
theorem Tsl_28 : sliceOf Try.prog 28 = some (3, 1, 8, [.int .i64 0]) := by kernel_rfl
theorem Tsl_85 : sliceOf Try.prog 85 = some (4, 1, 1, [.bool false]) := by kernel_rfl
theorem Tzero_94 : zeroOf Try.prog 94 = some [.int .i64 0, .int .i64 0, .int .i64 0, .int .i64 0, .int .i64 0, .int .u64 0] := by kernel_rfl
end LshT
open LshT
theorem OpY.shlU {E : Env} {f : Fr} {H : List Res} {d : Option Tmp} {ty : TypeId} {pos : String} {after : Array Edge} {gd : Option (Nat × Bool)} {t t' : TypeId} {x y : Operand} {b : Int} {n q : Nat} {k : IntKind} (hx : f.eval x = .int .u64 1) (hy : f.eval y = .int k b) (hn : b = (n : Nat)) (h1 : n ≤ 40) (hq : q = 2 ^ n) :
    OpY E ⟨d, .binOp .shl t x y t', ty, pos, after, gd⟩ f H (.int .u64 (q : Int)) := by
  subst hn
  intro w _
  have h2 : 2 ^ n ≤ 1099511627776 := pow40_le h1
  have h3 : IntKind.u64.wrap (1 * 2 ^ n) = (q : Int) := by
    rw [hq, Int.one_mul, show (2 : Int) ^ n = ((2 ^ n : Nat) : Int) by push_cast; rfl, IntKind.wrap_u64]; omega
  simp only [execOp, hx, hy, eqGuard, binOp]
  rw [shift_shl .u64 k 1 n (by omega) (by simp only [IntKind.bits]; omega)]
  rw [Int.one_mul] at h3
  simp [h3]
theorem bits_or_u {a b : Nat} (ha : a < 9223372036854775808) (hb : b < 9223372036854775808) : bits .or .u64 (a : Int) (b : Int) = ((a ||| b : Nat) : Int) := by
  have h1 : a ||| b < 9223372036854775808 := Nat.or_lt_two_pow (n := 63) ha hb
  have h2 : (BitVec.ofInt 64 (a : Int) ||| BitVec.ofInt 64 (b : Int)).toNat = a ||| b := by
    rw [BitVec.toNat_or, BitVec.toNat_ofInt, BitVec.toNat_ofInt]
    congr 1 <;> omega
  show IntKind.u64.wrap ((BitVec.ofInt 64 (a : Int) ||| BitVec.ofInt 64 (b : Int)).toNat : Int) = _
  rw [h2, IntKind.wrap_u64]; omega
theorem OpY.orU {E : Env} {f : Fr} {H : List Res} {d : Option Tmp} {ty : TypeId} {pos : String} {after : Array Edge} {gd : Option (Nat × Bool)} {t t' : TypeId} {x y : Operand} {m n : Nat} (hx : f.eval x = .int .u64 (m : Nat)) (hy : f.eval y = .int .u64 (n : Nat)) (hm : m < 9223372036854775808) (hn : n < 9223372036854775808) :
    OpY E ⟨d, .binOp .or t x y t', ty, pos, after, gd⟩ f H (.int .u64 ((m ||| n : Nat) : Int)) := by
  have := OpY.or (E := E) (H := H) (d := d) (ty := ty) (pos := pos) (after := after) (gd := gd) (t := t) (t' := t') hx hy
  rwa [bits_or_u hm hn] at this
def keyP (ps : List Int) (ds : List Bool) (n : Nat) : Value := .agg #[.int .i64 (ix ps 0), .int .i64 (ix ps 1), .int .i64 (ix ps 2), .int .i64 (ix ps 3), .int .i64 (ix ps 4), .int .u64 (mkD ds n : Nat)]
theorem keyP_spl {l : List Int} (h : l.length ≤ 5) : spl [Value.int .i64 0, .int .i64 0, .int .i64 0, .int .i64 0, .int .i64 0, .int .u64 0] 0 (ints l) = [.int .i64 (ix l 0), .int .i64 (ix l 1), .int .i64 (ix l 2), .int .i64 (ix l 3), .int .i64 (ix l 4), .int .u64 0] := by
  match l, h with
  | [], _ => rfl
  | [_], _ => rfl
  | [_, _], _ => rfl
  | [_, _, _], _ => rfl
  | [_, _, _, _], _ => rfl
  | [_, _, _, _, _], _ => rfl

set_option maxHeartbeats 1000000 in
set_option maxRecDepth 20000 in
theorem routeKey_spec {N Q : Int} {vg vc vp vd vs : Value} {n pn : Nat} {ps : List Int} {ds : List Bool} {w : World} (h40 : n ≤ 40) (h0 : 0 < pn) (h5 : pn ≤ 5) (hp : Sl w vp 1 pn (ints ps)) (hd : Sl w vd 1 n (bls ds)) : Calls Try.prog 52 #[.agg #[.int .i64 N, vg, .int .i64 Q, vc, vp, vd, vs]] w (Post No w fun v _ => v = keyP ps ds n) := by
  have hpl : ps.length = pn := by have := hp.len; omega
  have hdl := hd.blen
  obtain ⟨Ad, cd, rfl, _, _⟩ := hd.form0
  refine enter (n := 31) (args := [.agg #[.int .i64 N, vg, .int .i64 Q, vc, vp, .slice Ad n cd, vs]]) Try.func52 rfl rfl (St.empty _ _) ?_
  refine Run.seq ?_
  refine Run.region ?_
  refine Run.step rfl (OpStep.box (us := [.int .i64 N, vg, .int .i64 Q, vc, vp, .slice Ad n cd, vs]) rfl fun b1 => ?_)
  refine Run.step rfl (OpStep.alloc (zs := [.int .i64 0, .int .i64 0, .int .i64 0, .int .i64 0, .int .i64 0, .int .u64 0]) Tzero_94 fun b2 => ?_)
  refine Run.done ?_
  refine Run.seq ?_
  refine Run.region ?_
  refine Run.q (v := .agg #[.int .i64 0, .int .i64 0, .int .i64 0, .int .i64 0, .int .i64 0, .int .u64 0]) rfl (OpQ.y (OpY.build (cs := [.int .i64 0, .int .i64 0, .int .i64 0, .int .i64 0, .int .i64 0, .int .u64 0]) (by kernel_rfl))) ?_
  refine Run.step rfl (OpStep.alloc (zs := [.int .i64 0, .int .i64 0, .int .i64 0, .int .i64 0, .int .i64 0, .int .u64 0]) Tzero_94 fun b3 => ?_)
  refine Run.step rfl (OpStep.storeAll (us := [.int .i64 0, .int .i64 0, .int .i64 0, .int .i64 0, .int .i64 0, .int .u64 0]) Tsize_94 rfl rfl rfl (.here _) rfl ?_)
  refine Run.done ?_
  refine Run.seq ?_
  refine Run.heldB (base := [.blk b2 94 [.int .i64 0, .int .i64 0, .int .i64 0, .int .i64 0, .int .i64 0, .int .u64 0], .blk b1 90 [.int .i64 N, vg, .int .i64 Q, vc, vp, .slice Ad n cd, vs]]) (by kernel_rfl) ?_
  refine DW.take (i := 0) (v := .pointer (some ⟨b3, 0, none⟩)) rfl (by kernel_rfl) (by kernel_rfl) (by kernel_rfl) (fun _ _ _ h => h) (Some'.weak (.skip (.take (.take (.nil _))))) rfl (OpY.fieldAddr Tfo_94_0 rfl rfl) ?_
  refine DW.take (i := 1) (v := .slice (some ⟨b3, 0, none⟩) 5 5) rfl (by kernel_rfl) (by kernel_rfl) (by kernel_rfl) (fun _ _ _ h => h) (Some'.weak (.skip (.take (.take (.nil _))))) rfl (OpY.sliceArr Tarr_91 rfl (by decide)) ?_
  refine DW.take (i := 2) (v := .pointer (some ⟨b1, 0, none⟩)) rfl (by kernel_rfl) (by kernel_rfl) (by kernel_rfl) (fun _ _ _ h => h) (Some'.weak (.skip (.take (.take (.nil _))))) rfl (OpY.fieldAddr Tfo_90_0 rfl rfl) ?_
  refine DW.take (i := 3) (v := .pointer (some ⟨b1, 4, none⟩)) rfl (by kernel_rfl) (by kernel_rfl) (by kernel_rfl) (fun _ _ _ h => h) (Some'.weak (.skip (.take (.take (.nil _))))) rfl (OpY.fieldAddr Tfo_87_2 rfl rfl) ?_
  refine DW.take (i := 4) (v := vp) rfl (by kernel_rfl) (by kernel_rfl) (by kernel_rfl) (fun _ _ _ h => h) (Some'.weak (.skip (.take (.take (.nil _))))) rfl (OpY.load1 Tone_28 rfl (Cells.blk (.tail _ (List.Mem.head _)) ⟨rfl, trivial⟩)) ?_
  refine DW.step (i := 5) (by kernel_rfl) rfl rfl (OpStep.copyBlk (g := b3) (o := 0) (sn := pn) (cnt := pn) (cs := [.int .i64 0, .int .i64 0, .int .i64 0, .int .i64 0, .int .i64 0, .int .u64 0]) (ys := ints ps) (us := ints ps) Tsl_28 rfl rfl (fun w hs => hs.sl hp) (by omega) (by show min pn 5 = pn; omega) (by rw [Nat.mul_one]; simp [ints, List.take_of_length_le, hpl]) (by exact ints_all _) (by rw [show spl [.int .i64 0, .int .i64 0, .int .i64 0, .int .i64 0, .int .i64 0, .int .u64 0] 0 (ints ps) = [.int .i64 (ix ps 0), .int .i64 (ix ps 1), .int .i64 (ix ps 2), .int .i64 (ix ps 3), .int .i64 (ix ps 4), .int .u64 0] from by exact keyP_spl (by omega)]; exact (.here _)) (by show 0 + pn * 1 ≤ 6; omega) ?_)
  refine ⟨(Some'.weak (.skip (.take (.take (.nil _))))), ?_⟩
  refine DW.done (by kernel_rfl) ?_
  refine Run.seq ?_
  refine Run.seq ?_
  refine Run.region ?_
  refine Run.q (v := .pointer (some ⟨b1, 0, none⟩)) rfl (OpQ.y (OpY.fieldAddr Tfo_90_0 rfl rfl)) ?_
  refine Run.q (v := .pointer (some ⟨b1, 5, none⟩)) rfl (OpQ.y (OpY.fieldAddr Tfo_87_3 rfl rfl)) ?_
  refine Run.q (v := .slice Ad n cd) rfl (OpQ.y (OpY.load1 Tone_85 rfl (Cells.blk (.tail _ (.tail _ (List.Mem.head _))) ⟨rfl, trivial⟩))) ?_
  refine Run.q (v := .int .i64 (((n : Nat) : Int))) rfl (OpQ.y (OpY.len Tsl_85 rfl)) ?_
  refine Run.q (v := .int .i64 0) rfl (OpQ.y (OpY.pure rfl)) ?_
  refine Run.done ?_
  refine Run.block ?_
  refine Run.loop (ι := Nat) [4, 5, 17, 18, 19, 20, 21, 22, 23, 24, 25, 26, 27, 28, 29] (fun k => [(17, .int .i64 (((k : Nat) : Int)))]) (fun k => [.blk b3 94 [.int .i64 (ix ps 0), .int .i64 (ix ps 1), .int .i64 (ix ps 2), .int .i64 (ix ps 3), .int .i64 (ix ps 4), .int .u64 (((mkD ds k : Nat) : Int))], .blk b2 94 [.int .i64 0, .int .i64 0, .int .i64 0, .int .i64 0, .int .i64 0, .int .u64 0], .blk b1 90 [.int .i64 N, vg, .int .i64 Q, vc, vp, .slice Ad n cd, vs]]) (fun k => k ≤ n) (fun k => n - k) 0 ?_ ?_ ?_ ?_
  · exact Nat.zero_le _
  · exact ⟨rfl, trivial⟩
  · exact (Some'.weak (.takeEq (by first | rfl | (rw [hnx]; done) | (rw [hnx]; rfl)) (.take (.take (.nil _)))))
  · rintro k fr hinv
    show Run _ _ (over _ _ [(17, .int .i64 (((k : Nat) : Int)))] fr) [.blk b3 94 [.int .i64 (ix ps 0), .int .i64 (ix ps 1), .int .i64 (ix ps 2), .int .i64 (ix ps 3), .int .i64 (ix ps 4), .int .u64 (((mkD ds k : Nat) : Int))], .blk b2 94 [.int .i64 0, .int .i64 0, .int .i64 0, .int .i64 0, .int .i64 0, .int .u64 0], .blk b1 90 [.int .i64 N, vg, .int .i64 Q, vc, vp, .slice Ad n cd, vs]]
    try dsimp only at hinv
    refine Run.seq ?_
    refine Run.region ?_
    refine Run.q (v := .bool (decide ((((k : Nat) : Int)) < (((n : Nat) : Int))))) rfl (OpQ.y (OpY.pure rfl)) ?_
    refine Run.done ?_
    refine Run.seq ?_
    refine Run.cond (b := decide ((((k : Nat) : Int)) < (((n : Nat) : Int)))) rfl (fun h18 => ?_) (fun h18 => ?_)
    · have p18 := h18; try simp only [bs] at p18
      have hltk : k < n := by omega
      have hmk := mkD_lt ds k
      have h2k := pow40_le (k := k) (by omega)
      obtain ⟨q, hq⟩ : ∃ q : Nat, q = 2 ^ k := ⟨_, rfl⟩
      rw [← hq] at hmk h2k
      obtain ⟨b, o, rfl⟩ := hd.opn (by omega)
      refine Run.skip ?_
      refine Run.seq ?_
      refine Run.block ?_
      refine Run.seq ?_
      refine Run.region ?_
      refine Run.q (v := .int .i64 (((k : Nat) : Int))) rfl (OpQ.y (OpY.pure rfl)) ?_
      refine Run.q (v := .pointer (some ⟨b, o + k, none⟩)) rfl (OpQ.y (OpY.index (kk := k) Tsl_85 rfl rfl (by omega) (by omega) (by first | rfl | omega))) ?_
      refine Run.q (v := .bool (bx ds (k))) rfl (OpQ.y (OpY.load1 Tone_4 rfl (Cells.arg (k := k) hd rfl (by omega) (preBl (by omega))))) ?_
      refine Run.q (v := .int .i64 (((k : Nat) : Int))) rfl (OpQ.y (OpY.pure rfl)) ?_
      refine Run.q (v := .bool (bx ds (k))) rfl (OpQ.y (OpY.pure rfl)) ?_
      refine Run.done ?_
      refine Run.seq ?_
      refine Run.region ?_
      refine Run.q (v := .bool (bx ds (k))) rfl (OpQ.y (OpY.pure rfl)) ?_
      refine Run.done ?_
      refine Run.cond (b := bx ds (k)) rfl (fun h22 => ?_) (fun h22 => ?_)
      · have p22 := h22; try simp only [bs] at p22
        have hnx : mkD ds (k + 1) = (mkD ds k ||| q) := by rw [mkD, if_pos h22, hq]
        refine Run.lastlyB [6] [.blk b3 94 [.int .i64 (ix ps 0), .int .i64 (ix ps 1), .int .i64 (ix ps 2), .int .i64 (ix ps 3), .int .i64 (ix ps 4), .int .u64 (((mkD ds k : Nat) : Int))], .blk b2 94 [.int .i64 0, .int .i64 0, .int .i64 0, .int .i64 0, .int .i64 0, .int .u64 0], .blk b1 90 [.int .i64 N, vg, .int .i64 Q, vc, vp, .slice (some ⟨b, o, none⟩) n cd, vs]] (by kernel_rfl) ?_
        refine DL.takeP (i := 0) (v := .pointer (some ⟨b3, 5, none⟩)) rfl (by kernel_rfl) (by kernel_rfl) (by kernel_rfl) (fun _ _ _ h => h) rfl (fun _ => OpY.fieldAddr Tfo_94_1 rfl rfl) ?_
        refine DL.take (i := 1) (v := .int .u64 (((mkD ds k : Nat) : Int))) rfl (by kernel_rfl) (by kernel_rfl) (by kernel_rfl) (by kernel_rfl) (fun _ _ _ h => h) (Some'.weak (.take (.take (.take (.nil _))))) rfl (OpY.load1 Tone_92 rfl (Cells.blk (.head _) ⟨rfl, trivial⟩)) ?_
        refine DL.takeP (i := 2) (v := .int .i64 (((k : Nat) : Int))) rfl (by kernel_rfl) (by kernel_rfl) (by kernel_rfl) (fun _ _ _ h => h) rfl (fun _ => OpY.pure rfl) ?_
        refine DL.takeP (i := 3) (v := .int .u64 (((q : Nat) : Int))) rfl (by kernel_rfl) (by kernel_rfl) (by kernel_rfl) (fun _ _ _ h => h) rfl (fun _ => OpY.shlU rfl rfl rfl (by omega) hq) ?_
        refine DL.takeP (i := 4) (v := .int .u64 (((mkD ds k ||| q : Nat) : Int))) rfl (by kernel_rfl) (by kernel_rfl) (by kernel_rfl) (fun _ _ _ h => h) rfl (fun _ => OpY.orU rfl rfl (by omega) (by omega)) ?_
        refine DL.takeP (i := 5) (v := .pointer (some ⟨b3, 5, none⟩)) rfl (by kernel_rfl) (by kernel_rfl) (by kernel_rfl) (fun _ _ _ h => h) rfl (fun _ => OpY.fieldAddr Tfo_94_1 rfl rfl) ?_
        refine DL.step (i := 6) (by kernel_rfl) (by kernel_rfl) rfl rfl (OpStep.store (us := [.int .u64 (((mkD ds k ||| q : Nat) : Int))]) Tsize_92 rfl rfl rfl (.here _) (by simp only [List.length_cons, List.length_nil]; omega) ?_)
        show DL _ _ _ _ _ _ _ _ [.blk b3 94 [.int .i64 (ix ps 0), .int .i64 (ix ps 1), .int .i64 (ix ps 2), .int .i64 (ix ps 3), .int .i64 (ix ps 4), .int .u64 (((mkD ds k ||| q : Nat) : Int))], .blk b2 94 [.int .i64 0, .int .i64 0, .int .i64 0, .int .i64 0, .int .i64 0, .int .u64 0], .blk b1 90 [.int .i64 N, vg, .int .i64 Q, vc, vp, .slice (some ⟨b, o, none⟩) n cd, vs]]
        refine DL.done (by kernel_rfl) ?_
        refine Run.blockEnd ?_
        refine Run.region ?_
        refine Run.q (v := .int .i64 ((((k : Nat) : Int)) + 1)) rfl (OpQ.y (OpY.add rfl rfl rfl (by omega) (by omega))) ?_
        refine Run.q (v := .int .i64 ((((k : Nat) : Int)) + 1)) rfl (OpQ.y (OpY.pure rfl)) ?_
        refine Run.done ?_
        refine Run.goal ⟨(by repeat (first | exact Same.refl _ _ | refine Same.put rfl ?_ | refine Same.over rfl rfl ?_)), k + 1, ?_, ?_, ?_, ?_⟩
        · exact hltk
        · omega
        · exact ⟨(by first | rfl | (congr 1; omega) | simp), trivial⟩
        · exact (Some'.weak (.takeEq (by first | rfl | (rw [hnx]; done) | (rw [hnx]; rfl)) (.takeEq (by first | rfl | (rw [hnx]; done) | (rw [hnx]; rfl)) (.takeEq (by first | rfl | (rw [hnx]; done) | (rw [hnx]; rfl)) (.nil _)))))
      · have p22 := h22; try simp only [bs] at p22
        have hnx : mkD ds (k + 1) = mkD ds k := by rw [mkD, if_neg (by rw [h22]; decide)]
        refine Run.skip ?_
        refine Run.blockEnd ?_
        refine Run.region ?_
        refine Run.q (v := .int .i64 ((((k : Nat) : Int)) + 1)) rfl (OpQ.y (OpY.add rfl rfl rfl (by omega) (by omega))) ?_
        refine Run.q (v := .int .i64 ((((k : Nat) : Int)) + 1)) rfl (OpQ.y (OpY.pure rfl)) ?_
        refine Run.done ?_
        refine Run.goal ⟨(by repeat (first | exact Same.refl _ _ | refine Same.put rfl ?_ | refine Same.over rfl rfl ?_)), k + 1, ?_, ?_, ?_, ?_⟩
        · exact hltk
        · omega
        · exact ⟨(by first | rfl | (congr 1; omega) | simp), trivial⟩
        · exact (Some'.weak (.takeEq (by first | rfl | (rw [hnx]; done) | (rw [hnx]; rfl)) (.takeEq (by first | rfl | (rw [hnx]; done) | (rw [hnx]; rfl)) (.takeEq (by first | rfl | (rw [hnx]; done) | (rw [hnx]; rfl)) (.nil _)))))
    · have p18 := h18; try simp only [bs] at p18
      have hkn : k = n := by omega
      refine Run.exit rfl ?_
      refine Run.seq ?_
      refine Run.region ?_
      refine Run.q (v := .agg #[.int .i64 (ix ps 0), .int .i64 (ix ps 1), .int .i64 (ix ps 2), .int .i64 (ix ps 3), .int .i64 (ix ps 4), .int .u64 (((mkD ds k : Nat) : Int))]) rfl (OpQ.y (OpY.loadN (cs := [.int .i64 (ix ps 0), .int .i64 (ix ps 1), .int .i64 (ix ps 2), .int .i64 (ix ps 3), .int .i64 (ix ps 4), .int .u64 (((mkD ds k : Nat) : Int))]) Tagg_94 rfl (Cells.blk (.head _) ⟨rfl, rfl, rfl, rfl, rfl, rfl, trivial⟩))) ?_
      refine Run.step rfl (OpStep.storeAll (us := [.int .i64 (ix ps 0), .int .i64 (ix ps 1), .int .i64 (ix ps 2), .int .i64 (ix ps 3), .int .i64 (ix ps 4), .int .u64 (((mkD ds k : Nat) : Int))]) Tsize_94 rfl rfl rfl (.there _ (.here _)) rfl ?_)
      refine Run.done ?_
      refine Run.ret ?_
      refine ⟨.agg #[.int .i64 (ix ps 0), .int .i64 (ix ps 1), .int .i64 (ix ps 2), .int .i64 (ix ps 3), .int .i64 (ix ps 4), .int .u64 (((mkD ds k : Nat) : Int))], [], Out.cell1 (cs := [.int .i64 (ix ps 0), .int .i64 (ix ps 1), .int .i64 (ix ps 2), .int .i64 (ix ps 3), .int .i64 (ix ps 4), .int .u64 (((mkD ds k : Nat) : Int))]) rfl Tagg_94 rfl (Cells.blk (.tail _ (List.Mem.head _)) ⟨rfl, rfl, rfl, rfl, rfl, rfl, trivial⟩), (Some'.weak (.nil _)), ?_⟩
      show _ = _; rw [hkn]; rfl

end Go.Proofs.Ytekikmdjldincaa
/- Plain laws: what is done is decided by the gates with two qubits. -/
set_option linter.unusedSimpArgs false
set_option linter.unusedVariables false
namespace Go.Proofs.Ytekikmdjldincaa
open Go Go.RowKit
theorem adv_fst (g : List Bool → Nat → Bool) (n : Nat) : ∀ f ds L M, (adv g n f ds L).1 = (adv g n f ds M).1
  | 0, ds, L, M => rfl
  | f + 1, ds, L, M => by
    rw [adv, adv]
    split
    · rfl
    · exact adv_fst g n f _ _ _
/-- What holds of a done list, and is kept by each step, holds at the end. -/
theorem advS_keep {es xs ps : List Int} {m n : Nat} {P : List Bool → Prop} (hP : ∀ ds i, ds.length = n → i < n → P ds → goB es m xs ps ds i = true → P (ds.set i true)) :
    ∀ f ds L, und ds = f → ds.length = n → P ds → P (advS (goB es m xs ps) n ds L).1 ∧ (advS (goB es m xs ps) n ds L).1.length = n ∧ ∀ j, j < n → goB es m xs ps (advS (goB es m xs ps) n ds L).1 j = false := by
  intro f
  induction f with
  | zero =>
    intro ds L hu hl hp
    have hb : ∀ j, j < n → goB es m xs ps ds j = false := by
      intro j hj
      cases hg : goB es m xs ps ds j with
      | false => rfl
      | true => have := und_set (i := j) (by omega) (goB_open hg); omega
    rw [advS_stop hb]; exact ⟨hp, hl, hb⟩
  | succ f ih =>
    intro ds L hu hl hp
    by_cases h : ∀ j, j < n → goB es m xs ps ds j = false
    · rw [advS_stop h]; exact ⟨hp, hl, h⟩
    · obtain ⟨i, hi, hg, hlow⟩ : ∃ i, i < n ∧ goB es m xs ps ds i = true ∧ ∀ j, j < i → goB es m xs ps ds j = false := by
        have hex : ∃ i, i < n ∧ goB es m xs ps ds i = true := by
          refine Decidable.byContradiction fun hne => h fun j hj => ?_
          cases hg : goB es m xs ps ds j with
          | false => rfl
          | true => exact absurd ⟨j, hj, hg⟩ hne
        have key : ∀ k, (∃ i, i < k ∧ i < n ∧ goB es m xs ps ds i = true) → ∃ i, i < n ∧ goB es m xs ps ds i = true ∧ ∀ j, j < i → goB es m xs ps ds j = false := by
          intro k
          induction k with
          | zero => rintro ⟨i, hi, _⟩; omega
          | succ k ihk =>
            rintro ⟨i, hi, hin, hg⟩
            by_cases h2 : ∃ i, i < k ∧ i < n ∧ goB es m xs ps ds i = true
            · exact ihk h2
            · refine ⟨i, hin, hg, fun j hj => ?_⟩
              cases hgj : goB es m xs ps ds j with
              | false => rfl
              | true => exact absurd ⟨j, by omega, by omega, hgj⟩ h2
        obtain ⟨i, hi, hg⟩ := hex
        exact key (i + 1) ⟨i, by omega, hi, hg⟩
      have ho := goB_open hg
      have hu2 := und_set (i := i) (by omega) ho
      rw [advS_step hl hi hg ho hlow]
      exact ih _ _ (by omega) (by rw [List.length_set]; exact hl) (hP _ _ hl hi hp hg)
/-- No gate is done before those that it must wait for. -/
def Dn (xs : List Int) (ds : List Bool) : Prop := ∀ i, bx ds i = true → ∀ j, j < i → common (gq xs j) (gq xs i) = true → bx ds j = true
theorem Dn.step {es xs ps : List Int} {m n i : Nat} {ds : List Bool} (hl : ds.length = n) (hi : i < n) (h : Dn xs ds) (hg : goB es m xs ps ds i = true) : Dn xs (ds.set i true) := by
  intro k hk j hj hc
  rw [bx_set (by omega)] at hk ⊢
  by_cases e : i = k
  · subst e
    unfold goB rdy at hg
    simp only [Bool.and_eq_true, Bool.not_eq_true'] at hg
    cases hb : bx ds j with
    | true => rfl
    | false =>
      have := hg.1.2
      rw [anyI_true hj (by rw [hb, hc]; rfl)] at this; cases this
  · rw [show decide (i = k) = false from decide_eq_false e, Bool.or_false] at hk
    rw [h k hk j hj hc]; rfl
theorem Dn.start (xs : List Int) (n : Nat) : Dn xs (List.replicate n false) := by
  intro i hi
  have : bx (List.replicate n false) i = false := by
    simp only [bx, List.getD, List.getElem?_replicate]; split <;> rfl
  rw [this] at hi; cases hi
/-- Nothing with one qubit is left that could be done. -/
def Full (xs : List Int) (n : Nat) (ds : List Bool) : Prop := ∀ i, i < n → isTwoI (ix xs (i * 3)) = false → bx ds i = false → ∃ j, j < i ∧ bx ds j = false ∧ common (gq xs j) (gq xs i) = true
theorem Full.of {es xs ps : List Int} {m n : Nat} {ds : List Bool} (h : ∀ j, j < n → goB es m xs ps ds j = false) : Full xs n ds := by
  intro i hi h1 hb
  have hg := h i hi
  unfold goB nearG rdy at hg
  rw [h1, hb] at hg
  simp only [Bool.not_false, Bool.true_or, Bool.and_true, Bool.true_and, Bool.not_eq_false'] at hg
  obtain ⟨j, hj, he⟩ := anyI_iff.1 hg
  rw [Bool.and_eq_true, Bool.not_eq_true'] at he
  exact ⟨j, hj, he.1, he.2⟩
theorem done_eq {xs : List Int} {n : Nat} {ds es : List Bool} (hd : Dn xs ds) (he : Dn xs es) (fd : Full xs n ds) (fe : Full xs n es) (h2 : ∀ i, i < n → isTwoI (ix xs (i * 3)) = true → bx ds i = bx es i) : ∀ i, i < n → bx ds i = bx es i := by
  have key : ∀ i, (∀ j, j < i → j < n → bx ds j = bx es j) → i < n → bx ds i = bx es i := by
    intro i ih hi
    cases ht : isTwoI (ix xs (i * 3)) with
    | true => exact h2 i hi ht
    | false =>
      cases hb : bx ds i with
      | true =>
        cases hc : bx es i with
        | true => rfl
        | false =>
          obtain ⟨j, hj, hf, hcm⟩ := fe i hi ht hc
          have := hd i hb j hj hcm
          rw [ih j hj (by omega), hf] at this; cases this
      | false =>
        cases hc : bx es i with
        | false => rfl
        | true =>
          obtain ⟨j, hj, hf, hcm⟩ := fd i hi ht hb
          have := he i hc j hj hcm
          rw [← ih j hj (by omega), hf] at this; cases this
  intro i
  exact Nat.strongRecOn (motive := fun i => i < n → bx ds i = bx es i) i fun i ih hi => key i (fun j hj hjn => ih j hj hjn) hi
/-- The bits of the gates with two qubits. -/
def tcD (xs : List Int) (ds : List Bool) : Nat → Nat
  | 0 => 0
  | k + 1 => if isTwoI (ix xs (k * 3)) then tcD xs ds k * 2 + (if bx ds k then 1 else 0) else tcD xs ds k
theorem tcD_lt (xs : List Int) (ds : List Bool) : ∀ k, tcD xs ds k < 2 ^ cnt2 xs k
  | 0 => by simp [tcD, cnt2]
  | k + 1 => by
    have ih := tcD_lt xs ds k
    rw [tcD, cnt2]
    split
    · rw [Nat.pow_succ]; split <;> omega
    · exact ih
theorem tcD_inj {xs : List Int} {ds es : List Bool} : ∀ k, tcD xs ds k = tcD xs es k → ∀ i, i < k → isTwoI (ix xs (i * 3)) = true → bx ds i = bx es i
  | 0, _, i, hi, _ => by omega
  | k + 1, h, i, hi, ht => by
    rw [tcD, tcD] at h
    by_cases e : i = k
    · subst e
      rw [if_pos ht, if_pos ht] at h
      cases h1 : bx ds i <;> cases h2 : bx es i <;> simp [h1, h2] at h ⊢ <;> omega
    · refine tcD_inj k ?_ i (by omega) ht
      split at h
      · split at h <;> split at h <;> omega
      · exact h

end Go.Proofs.Ytekikmdjldincaa
