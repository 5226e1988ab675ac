/- Walks: drawn flows. -/
import Derived.Test.YtoiaibgcjfgbcaaFwk
import Derived.Test.YtoiaibgcjfgbcaaFwf
import Derived.Test.YtoiaibgcjfgbcaaProg
set_option linter.unusedSimpArgs false
set_option linter.unusedVariables false
namespace Go.Proofs.Ytoiaibgcjfgbcaa
open Go Go.RowKit
namespace FwlT
theorem Tagg_26 : aggOf Try.prog 26 = some 4 := by kernel_rfl
theorem Tagg_29 : aggOf Try.prog 29 = some 2 := by kernel_rfl
theorem Tcall_32 : callable Try.prog 32 = true := by kernel_rfl
theorem Tcall_33 : callable Try.prog 33 = true := by kernel_rfl
theorem Tcall_34 : callable Try.prog 34 = true := by kernel_rfl
theorem Tcall_41 : callable Try.prog 41 = true := by kernel_rfl
theorem Tcall_42 : callable Try.prog 42 = true := by kernel_rfl
theorem Tcall_43 : callable Try.prog 43 = true := by kernel_rfl
theorem Tcall_44 : callable Try.prog 44 = true := by kernel_rfl
theorem Tcall_63 : callable Try.prog 63 = true := by kernel_rfl
theorem Tfo_26_0 : fieldOff Try.prog 26 0 = some 0 := by kernel_rfl
theorem Tfo_29_0 : fieldOff Try.prog 29 0 = some 0 := by kernel_rfl
theorem Tfo_29_1 : fieldOff Try.prog 29 1 = some 1 := by kernel_rfl
theorem Tone_24 : oneOf Try.prog 24 = true := by kernel_rfl
theorem Tone_3 : oneOf Try.prog 3 = true := by kernel_rfl
theorem Tsize_24 : (Try.prog.info? 24).map (·.size) = some 1 := by kernel_rfl
theorem Tsize_26 : (Try.prog.info? 26).map (·.size) = some 4 := by kernel_rfl
theorem Tsize_29 : (Try.prog.info? 29).map (·.size) = some 2 := by kernel_rfl
theorem Tsize_3 : (Try.prog.info? 3).map (·.size) = some 1 := by kernel_rfl
theorem Tsl_24 : sliceOf Try.prog 24 = some (3, 1, 8, [.int .i64 0]) := by kernel_rfl
theorem Tzero_26 : zeroOf Try.prog 26 = some [.int .i64 0, .slice none 0 0, .slice none 0 0, .slice none 0 0] := by kernel_rfl
theorem Tzero_29 : zeroOf Try.prog 29 = some [.slice none 0 0, .slice none 0 0] := by kernel_rfl
end FwlT
open FwlT

/-- Two may come up; the base goes on to hold. -/
theorem DL.two {E : Env} {ops : Array Oper} {Z : List Nat} {base : List Res} {k : List It} {fuel : Nat} {listed : Array Bool} {f : Fr} {H : List Res} {i j : Nat} {o o' : Oper} (hr : Region.ready .any ops listed = [i, j]) (hi : ops[i]? = some o) (hj : ops[j]? = some o') (hw : wantedF ops f o = true) (hw' : wantedF ops f o' = true)
    (h : OpStep E o f H fun f' H' => Weak H' base ∧ DL E ops Z base k fuel (listed.setIfInBounds i true) f' H')
    (h' : OpStep E o' f H fun f' H' => Weak H' base ∧ DL E ops Z base k fuel (listed.setIfInBounds j true) f' H') : DL E ops Z base k (fuel + 1) listed f H := by
  intro a w ha hst
  refine ⟨fun h0 => absurd (hr.symm.trans h0) (by simp), fun q hq => ?_⟩
  rw [hr] at hq
  simp only [List.mem_cons, List.not_mem_nil, or_false] at hq
  rcases hq with rfl | rfl
  · unfold wpOp
    simp only [hi]
    rw [wantedF_eq ha, hw, if_pos rfl]
    exact .inl (h a w ha hst _ _ fun f' H' a' w' h1 h2 h3 => ⟨fun _ _ => h3.1 _ _ _ h2, h3.2 a' w' h1 h2⟩)
  · unfold wpOp
    simp only [hj]
    rw [wantedF_eq ha, hw', if_pos rfl]
    exact .inl (h' a w ha hst _ _ fun f' H' a' w' h1 h2 h3 => ⟨fun _ _ => h3.1 _ _ _ h2, h3.2 a' w' h1 h2⟩)


theorem Out.cells2 {E : Env} {fn : Func} {f : Fr} {H : List Res} {t u : Tmp} {ty uy : TypeId} {b o b' o' : Nat} {cs ds : List Value} (h : fn.results = #[.cell t ty, .cell u uy]) (ht : aggOf E.P ty = some cs.length) (hp : f t = .pointer (some ⟨b, o, .none⟩)) (hc : Cells E H b o cs) (hu : aggOf E.P uy = some ds.length) (hq : f u = .pointer (some ⟨b', o', .none⟩)) (hd : Cells E H b' o' ds) : Out E fn f H (.tuple #[.agg cs.toArray, .agg ds.toArray]) := by
  intro a w ha hs
  have h1 := run_results_cell (P := E.P) hp ht (hc w hs)
  have h2 := run_results_cell (P := E.P) hq hu (hd w hs)
  simp only [Sem.run_bind] at h1 h2
  unfold results
  rw [h]
  simp only [List.mapM_toArray, List.mapM_cons, List.mapM_nil, Sem.run_bind, Sem.run_map, Sem.run_pure, ha.at_, h1, h2, Result.andThen_ok]
  rfl

set_option maxHeartbeats 4000000 in
set_option maxRecDepth 20000 in
theorem flowed_spec {bc n : Nat} {vc : Value} {cs : List Int} {s : Nat × Int} {w : World} (hat : s.1 < 2305843009209000000) (hc : Cur w bc vc n cs) (hst : St (Of [.blk bc 64 [vc, .int .i64 (((s.1 : Nat) : Int)), .int .u64 (s.2)]]) w w [.blk bc 64 [vc, .int .i64 (((s.1 : Nat) : Int)), .int .u64 (s.2)]]) : Calls Try.prog 34 #[.pointer (some ⟨bc, 0, none⟩)] w (Post (Of [.blk bc 64 [vc, .int .i64 (((s.1 : Nat) : Int)), .int .u64 (s.2)]]) w fun v H => ∃ (N m ni no a b : Nat) (ve vi vo vx vy : Value) (es is os nx ly : List Int) (s1 : Nat × Int), ((N ≤ 11 ∧ m ≤ 101 ∧ ni ≤ 12 ∧ no ≤ 12) ∧ s1.1 ≤ s.1 + 600 ∧ ∀ x ∈ es, 0 ≤ x ∧ x ≤ 100) ∧ v = .tuple #[.agg #[.int .i64 (N : Nat), ve, vi, vo], .agg #[vx, vy]] ∧ H = [.own ve 80 2 m (ints es), .own vi 3 1 ni (ints is), .own vo 3 1 no (ints os), .own vx 3 1 a (ints nx), .own vy 3 1 b (ints ly), .blk bc 64 [vc, .int .i64 (s1.1 : Nat), .int .u64 s1.2]]) := by
 refine enter (n := 90) (args := [.pointer (some ⟨bc, 0, none⟩)]) Try.func34 rfl rfl (hst) ?_
 refine Run.sr ?_
 refine Run.step rfl (OpStep.alloc (zs := [.int .i64 0, .slice none 0 0, .slice none 0 0, .slice none 0 0]) Tzero_26 fun b1 => ?_)
 refine Run.step rfl (OpStep.alloc (zs := [.slice none 0 0, .slice none 0 0]) Tzero_29 fun b2 => ?_)
 refine Run.dsr ?_
 refine Run.p (.pointer (some ⟨bc, 0, none⟩)) rfl rfl ?_
 refine Run.step rfl (OpStep.callM (H1 := [.blk bc 64 [vc, .int .i64 (((s.1 : Nat) : Int)), .int .u64 (s.2)]]) (H2 := [.blk b2 29 [.slice none 0 0, .slice none 0 0], .blk b1 26 [.int .i64 0, .slice none 0 0, .slice none 0 0, .slice none 0 0]]) (vs := [.pointer (some ⟨bc, 0, none⟩)]) (caps := []) Tcall_63 rfl rfl (Weak.selF [2]) (fun w hs => wires_spec (s := s) (by omega) (hc.go hs) (hs.sub (List.sublist_append_left _ _)).self) ?_)
 rintro _ _ ⟨Nw, mw, niw, now, vew, viw, vow, esw, isw, osw, sgw, ⟨⟨hN1w, hN10w⟩, hmw, hniw, hnow, hsgw, hsmw⟩, rfl, rfl⟩
 show Run _ _ (putF _ _ _ (.agg #[.int .i64 (((Nw : Nat) : Int)), vew, viw, vow])) [.own vew 80 2 mw (ints esw), .own viw 3 1 niw (ints isw), .own vow 3 1 now (ints osw), .blk bc 64 [vc, .int .i64 (((sgw.1 : Nat) : Int)), .int .u64 (sgw.2)], .blk b2 29 [.slice none 0 0, .slice none 0 0], .blk b1 26 [.int .i64 0, .slice none 0 0, .slice none 0 0, .slice none 0 0]]
 refine Run.step rfl (OpStep.alloc (zs := [.int .i64 0, .slice none 0 0, .slice none 0 0, .slice none 0 0]) Tzero_26 fun b3 => ?_)
 refine Run.formOwn (.tail _ (List.Mem.head _)) (fun A_vew1 c_vew1 hv hcapc_vew1 hmaxc_vew1 => ?_) (fun _ _ _ => ⟨nofun, nofun, nofun⟩)
 subst hv
 refine Run.formOwn (.tail _ (.tail _ (List.Mem.head _))) (fun A_viw1 c_viw1 hv hcapc_viw1 hmaxc_viw1 => ?_) (fun _ _ _ => ⟨nofun, nofun, nofun⟩)
 subst hv
 refine Run.formOwn (.tail _ (.tail _ (.tail _ (List.Mem.head _)))) (fun A_vow1 c_vow1 hv hcapc_vow1 hmaxc_vow1 => ?_) (fun _ _ _ => ⟨nofun, nofun, nofun⟩)
 subst hv
 refine Run.step rfl (OpStep.storeAll (us := [.int .i64 (((Nw : Nat) : Int)), .slice A_vew1 mw c_vew1, .slice A_viw1 niw c_viw1, .slice A_vow1 now c_vow1]) Tsize_26 rfl rfl rfl (.here _) rfl ?_)
 refine Run.done ?_
 refine Run.seq ?_
 refine Run.sr ?_
 refine Run.p (.pointer (some ⟨bc, 0, none⟩)) rfl rfl ?_
 refine Run.step rfl (OpStep.callM (H1 := [.blk bc 64 [vc, .int .i64 (((sgw.1 : Nat) : Int)), .int .u64 (sgw.2)]]) (H2 := [.blk b3 26 [.int .i64 (((Nw : Nat) : Int)), .slice A_vew1 mw c_vew1, .slice A_viw1 niw c_viw1, .slice A_vow1 now c_vow1], .own (.slice A_vew1 mw c_vew1) 80 2 mw (ints esw), .own (.slice A_viw1 niw c_viw1) 3 1 niw (ints isw), .own (.slice A_vow1 now c_vow1) 3 1 now (ints osw), .blk b2 29 [.slice none 0 0, .slice none 0 0], .blk b1 26 [.int .i64 0, .slice none 0 0, .slice none 0 0, .slice none 0 0]]) (vs := [.pointer (some ⟨bc, 0, none⟩), .int .i64 8]) (caps := []) Tcall_42 rfl rfl (Weak.selF [4]) (fun w hs => one_ex (by omega) (hc.go hs) (hs.sub (List.sublist_append_left _ _)).self) ?_)
 rintro _ _ ⟨x1, s1, hs1, rfl, rfl⟩
 show Run _ _ (putF _ _ _ (.bool x1)) [.blk bc 64 [vc, .int .i64 (((s1.1 : Nat) : Int)), .int .u64 (s1.2)], .blk b3 26 [.int .i64 (((Nw : Nat) : Int)), .slice A_vew1 mw c_vew1, .slice A_viw1 niw c_viw1, .slice A_vow1 now c_vow1], .own (.slice A_vew1 mw c_vew1) 80 2 mw (ints esw), .own (.slice A_viw1 niw c_viw1) 3 1 niw (ints isw), .own (.slice A_vow1 now c_vow1) 3 1 now (ints osw), .blk b2 29 [.slice none 0 0, .slice none 0 0], .blk b1 26 [.int .i64 0, .slice none 0 0, .slice none 0 0, .slice none 0 0]]
 refine Run.done ?_
 refine Run.cut (ι := Nat × (Nat × Int) × (Nat × List Int × Value) × (Nat × List Int × Value) × (Nat × List Int × Value)) [13, 14] (fun ⟨N, sc, ⟨m, es, ve⟩, ⟨ni, is, vi⟩, ⟨no, os, vo⟩⟩ => []) (fun ⟨N, sc, ⟨m, es, ve⟩, ⟨ni, is, vi⟩, ⟨no, os, vo⟩⟩ => [.own ve 80 2 m (ints es), .own vi 3 1 ni (ints is), .own vo 3 1 no (ints os), .blk b3 26 [.int .i64 (((N : Nat) : Int)), ve, vi, vo], .blk b2 29 [.slice none 0 0, .slice none 0 0], .blk b1 26 [.int .i64 0, .slice none 0 0, .slice none 0 0, .slice none 0 0], .blk bc 64 [vc, .int .i64 (((sc.1 : Nat) : Int)), .int .u64 (sc.2)]]) (fun ⟨N, sc, ⟨m, es, ve⟩, ⟨ni, is, vi⟩, ⟨no, os, vo⟩⟩ => ((N ≤ 11 ∧ m ≤ 101 ∧ ni ≤ 12 ∧ no ≤ 12) ∧ sc.1 ≤ s.1 + 300) ∧ ∀ x ∈ es, 0 ≤ x ∧ x ≤ 100) ?_ ?_
 ·refine Run.cond (b := x1) rfl (fun h12 => ?_) (fun h12 => ?_)
  ·have p12 := h12; try simp only [bs] at p12
   refine Run.region ?_
   refine Run.p (.pointer (some ⟨bc, 0, none⟩)) rfl rfl ?_
   refine Run.step rfl (OpStep.callM (H1 := [.blk bc 64 [vc, .int .i64 (((s1.1 : Nat) : Int)), .int .u64 (s1.2)]]) (H2 := [.blk b3 26 [.int .i64 (((Nw : Nat) : Int)), .slice A_vew1 mw c_vew1, .slice A_viw1 niw c_viw1, .slice A_vow1 now c_vow1], .own (.slice A_vew1 mw c_vew1) 80 2 mw (ints esw), .own (.slice A_viw1 niw c_viw1) 3 1 niw (ints isw), .own (.slice A_vow1 now c_vow1) 3 1 now (ints osw), .blk b2 29 [.slice none 0 0, .slice none 0 0], .blk b1 26 [.int .i64 0, .slice none 0 0, .slice none 0 0, .slice none 0 0]]) (vs := [.pointer (some ⟨bc, 0, none⟩)]) (caps := []) Tcall_41 rfl rfl (Weak.refl _) (fun w hs => anyOpenGraph_spec (s := s1) (by omega) (hc.go hs) (hs.sub (List.sublist_append_left _ _)).self) ?_)
   rintro _ _ ⟨N2, m2, ni2, no2, ve2, vi2, vo2, es2, is2, os2, sg2, ⟨⟨hN11, hm2, hni2, hno2⟩, hsg2, hsm2⟩, rfl, rfl⟩
   show Run _ _ (putF _ _ _ (.agg #[.int .i64 (((N2 : Nat) : Int)), ve2, vi2, vo2])) [.own ve2 80 2 m2 (ints es2), .own vi2 3 1 ni2 (ints is2), .own vo2 3 1 no2 (ints os2), .blk bc 64 [vc, .int .i64 (((sg2.1 : Nat) : Int)), .int .u64 (sg2.2)], .blk b3 26 [.int .i64 (((Nw : Nat) : Int)), .slice A_vew1 mw c_vew1, .slice A_viw1 niw c_viw1, .slice A_vow1 now c_vow1], .own (.slice A_vew1 mw c_vew1) 80 2 mw (ints esw), .own (.slice A_viw1 niw c_viw1) 3 1 niw (ints isw), .own (.slice A_vow1 now c_vow1) 3 1 now (ints osw), .blk b2 29 [.slice none 0 0, .slice none 0 0], .blk b1 26 [.int .i64 0, .slice none 0 0, .slice none 0 0, .slice none 0 0]]
   refine Run.formOwn (.head _) (fun A_ve21 c_ve21 hv hcapc_ve21 hmaxc_ve21 => ?_) (fun _ _ _ => ⟨nofun, nofun, nofun⟩)
   subst hv
   refine Run.formOwn (.tail _ (List.Mem.head _)) (fun A_vi21 c_vi21 hv hcapc_vi21 hmaxc_vi21 => ?_) (fun _ _ _ => ⟨nofun, nofun, nofun⟩)
   subst hv
   refine Run.formOwn (.tail _ (.tail _ (List.Mem.head _))) (fun A_vo21 c_vo21 hv hcapc_vo21 hmaxc_vo21 => ?_) (fun _ _ _ => ⟨nofun, nofun, nofun⟩)
   subst hv
   refine Run.step rfl (OpStep.storeAll (us := [.int .i64 (((N2 : Nat) : Int)), .slice A_ve21 m2 c_ve21, .slice A_vi21 ni2 c_vi21, .slice A_vo21 no2 c_vo21]) Tsize_26 rfl rfl rfl (.there _ (.there _ (.there _ (.there _ (.here _))))) rfl ?_)
   refine Run.done ?_
   refine Run.goal ⟨(by repeat (first | exact Same.refl _ _ | refine Same.put rfl ?_ | refine Same.over rfl rfl ?_)), (N2, sg2, (m2, es2, .slice A_ve21 m2 c_ve21), (ni2, is2, .slice A_vi21 ni2 c_vi21), (no2, os2, .slice A_vo21 no2 c_vo21)), ?_, ?_, ?_⟩
   ·exact ⟨⟨by omega, by omega⟩, hsm2⟩
   ·exact trivial
   ·exact ((Weak.selF [0, 0, 0, 1, 4, 4, 0]).trans (Some'.weak (.takeEq (by first | rfl | simp) (.takeEq (by first | rfl | simp) (.takeEq (by first | rfl | simp) (.takeEq (by first | rfl | simp) (.take (.take (.takeEq (by first | rfl | simp) (.nil _))))))))))
  ·have p12 := h12; try simp only [bs] at p12
   refine Run.skip ?_
   refine Run.goal ⟨(by repeat (first | exact Same.refl _ _ | refine Same.put rfl ?_ | refine Same.over rfl rfl ?_)), (Nw, s1, (mw, esw, .slice A_vew1 mw c_vew1), (niw, isw, .slice A_viw1 niw c_viw1), (now, osw, .slice A_vow1 now c_vow1)), ?_, ?_, ?_⟩
   ·exact ⟨⟨by omega, by omega⟩, hsmw⟩
   ·exact trivial
   ·exact ((Weak.selF [2, 2, 2, 1, 1, 1, 0]).trans (Some'.weak (.takeEq (by first | rfl | simp) (.takeEq (by first | rfl | simp) (.takeEq (by first | rfl | simp) (.takeEq (by first | rfl | simp) (.take (.take (.takeEq (by first | rfl | simp) (.nil _))))))))))
 ·rintro ⟨N, sc, ⟨m, es, ve⟩, ⟨ni, is, vi⟩, ⟨no, os, vo⟩⟩ fr hcut
  show Run _ _ (over _ _ [] fr) [.own ve 80 2 m (ints es), .own vi 3 1 ni (ints is), .own vo 3 1 no (ints os), .blk b3 26 [.int .i64 (((N : Nat) : Int)), ve, vi, vo], .blk b2 29 [.slice none 0 0, .slice none 0 0], .blk b1 26 [.int .i64 0, .slice none 0 0, .slice none 0 0, .slice none 0 0], .blk bc 64 [vc, .int .i64 (((sc.1 : Nat) : Int)), .int .u64 (sc.2)]]
  obtain ⟨⟨hgr, hsc⟩, hsm⟩ := hcut
  refine Run.sr ?_
  refine Run.y (.agg #[.slice none 0 0, .slice none 0 0]) rfl (OpY.build (cs := [.slice none 0 0, .slice none 0 0]) (by kernel_rfl)) ?_
  refine Run.step rfl (OpStep.alloc (zs := [.slice none 0 0, .slice none 0 0]) Tzero_29 fun b4 => ?_)
  refine Run.step rfl (OpStep.storeAll (us := [.slice none 0 0, .slice none 0 0]) Tsize_29 rfl rfl rfl (.here _) rfl ?_)
  refine Run.done ?_
  refine Run.weak (H' := [.own (.slice none 0 0) 3 1 0 ([]), .blk b4 29 [.slice none 0 0, .slice none 0 0], .own ve 80 2 m (ints es), .own vi 3 1 ni (ints is), .own vo 3 1 no (ints os), .blk b3 26 [.int .i64 (((N : Nat) : Int)), ve, vi, vo], .blk b2 29 [.slice none 0 0, .slice none 0 0], .blk b1 26 [.int .i64 0, .slice none 0 0, .slice none 0 0, .slice none 0 0], .blk bc 64 [vc, .int .i64 (((sc.1 : Nat) : Int)), .int .u64 (sc.2)]]) (Weak.nilOwn _ _) ?_ ⟨_, _, rfl, fun _ => nofun, fun _ => nofun⟩
  refine Run.weak (H' := [.own (.slice none 0 0) 3 1 0 ([]), .own (.slice none 0 0) 3 1 0 ([]), .blk b4 29 [.slice none 0 0, .slice none 0 0], .own ve 80 2 m (ints es), .own vi 3 1 ni (ints is), .own vo 3 1 no (ints os), .blk b3 26 [.int .i64 (((N : Nat) : Int)), ve, vi, vo], .blk b2 29 [.slice none 0 0, .slice none 0 0], .blk b1 26 [.int .i64 0, .slice none 0 0, .slice none 0 0, .slice none 0 0], .blk bc 64 [vc, .int .i64 (((sc.1 : Nat) : Int)), .int .u64 (sc.2)]]) (Weak.nilOwn _ _) ?_ ⟨_, _, rfl, fun _ => nofun, fun _ => nofun⟩
  refine Run.seq ?_
  refine Run.sr ?_
  refine Run.y (.agg #[.int .i64 (((N : Nat) : Int)), ve, vi, vo]) rfl (OpY.loadN (cs := [.int .i64 (((N : Nat) : Int)), ve, vi, vo]) Tagg_26 rfl (Cells.blk (.tail _ (.tail _ (.tail _ (.tail _ (.tail _ (.tail _ (List.Mem.head _))))))) ⟨rfl, rfl, rfl, rfl, trivial⟩)) ?_
  refine Run.q (v := .bool (ogB N es m is ni os no)) rfl (OpQ.call (vs := [.agg #[.int .i64 (((N : Nat) : Int)), ve, vi, vo]]) (caps := []) Tcall_32 rfl rfl (fun w hs => l19Good_spec (by omega) (hs.slOwn (.tail _ (.tail _ (.tail _ (List.Mem.head _))))) (hs.slOwn (.tail _ (.tail _ (.tail _ (.tail _ (List.Mem.head _)))))) (hs.slOwn (.tail _ (.tail _ (.tail _ (.tail _ (.tail _ (List.Mem.head _))))))) hsm)) ?_
  refine Run.done ?_
  refine Run.cut (ι := (Nat × Int) × (Nat × List Int × Value) × (Nat × List Int × Value)) [6, 7, 8, 18, 19, 20, 21, 22, 23, 24, 25, 26, 27, 28, 29, 30, 31, 32, 33, 34, 35, 36, 37, 38, 39, 40, 41, 42, 43, 44, 45, 46, 47, 48, 49] (fun ⟨sc2, ⟨a, nx, vx⟩, ⟨b, ly, vy⟩⟩ => []) (fun ⟨sc2, ⟨a, nx, vx⟩, ⟨b, ly, vy⟩⟩ => [.own ve 80 2 m (ints es), .own vi 3 1 ni (ints is), .own vo 3 1 no (ints os), .own vx 3 1 a (ints nx), .own vy 3 1 b (ints ly), .blk b4 29 [vx, vy], .blk b3 26 [.int .i64 (((N : Nat) : Int)), ve, vi, vo], .blk b2 29 [.slice none 0 0, .slice none 0 0], .blk b1 26 [.int .i64 0, .slice none 0 0, .slice none 0 0, .slice none 0 0], .blk bc 64 [vc, .int .i64 (((sc2.1 : Nat) : Int)), .int .u64 (sc2.2)]]) (fun ⟨sc2, ⟨a, nx, vx⟩, ⟨b, ly, vy⟩⟩ => sc2.1 ≤ s.1 + 400) ?_ ?_
  ·refine Run.cond (b := ogB N es m is ni os no) rfl (fun h17 => ?_) (fun h17 => ?_)
   ·have p17 := h17; try simp only [bs] at p17
    have hg : ogB N es m is ni os no = true := by simpa using p17
    refine Run.sr ?_
    refine Run.y (.agg #[.int .i64 (((N : Nat) : Int)), ve, vi, vo]) rfl (OpY.loadN (cs := [.int .i64 (((N : Nat) : Int)), ve, vi, vo]) Tagg_26 rfl (Cells.blk (.tail _ (.tail _ (.tail _ (.tail _ (.tail _ (.tail _ (List.Mem.head _))))))) ⟨rfl, rfl, rfl, rfl, trivial⟩)) ?_
    refine Run.step rfl (OpStep.call (vs := [.agg #[.int .i64 (((N : Nat) : Int)), ve, vi, vo]]) (caps := []) Tcall_33 rfl rfl (fun w hs => l19Causal_spec (hs.slOwn (.tail _ (.tail _ (.tail _ (List.Mem.head _))))) (hs.slOwn (.tail _ (.tail _ (.tail _ (.tail _ (List.Mem.head _)))))) (hs.slOwn (.tail _ (.tail _ (.tail _ (.tail _ (.tail _ (List.Mem.head _))))))) hg) ?_)
    rintro _ _ ⟨u1, u2, rfl, rfl⟩
    show Run _ _ (putF _ _ _ (.tuple #[.agg #[u1, u2], .bool ((cfO es m N is ni os no).isSome)])) [.own u1 3 1 ((cfA es m N is ni os no).length) (ints (cfA es m N is ni os no)), .own u2 3 1 ((cfL es m N is ni os no).length) (ints (cfL es m N is ni os no)), .own (.slice none 0 0) 3 1 0 ([]), .own (.slice none 0 0) 3 1 0 ([]), .blk b4 29 [.slice none 0 0, .slice none 0 0], .own ve 80 2 m (ints es), .own vi 3 1 ni (ints is), .own vo 3 1 no (ints os), .blk b3 26 [.int .i64 (((N : Nat) : Int)), ve, vi, vo], .blk b2 29 [.slice none 0 0, .slice none 0 0], .blk b1 26 [.int .i64 0, .slice none 0 0, .slice none 0 0, .slice none 0 0], .blk bc 64 [vc, .int .i64 (((sc.1 : Nat) : Int)), .int .u64 (sc.2)]]
    refine Run.p (.tuple #[.agg #[u1, u2], .bool ((cfO es m N is ni os no).isSome)]) rfl rfl ?_
    refine Run.p (.agg #[u1, u2]) rfl rfl ?_
    refine Run.p (.bool ((cfO es m N is ni os no).isSome)) rfl rfl ?_
    refine Run.step rfl (OpStep.alloc (zs := [.slice none 0 0, .slice none 0 0]) Tzero_29 fun b5 => ?_)
    refine Run.formOwn (.tail _ (List.Mem.head _)) (fun A_u11 c_u11 hv hcapc_u11 hmaxc_u11 => ?_) (fun _ _ _ => ⟨nofun, nofun, nofun⟩)
    subst hv
    refine Run.formOwn (.tail _ (.tail _ (List.Mem.head _))) (fun A_u21 c_u21 hv hcapc_u21 hmaxc_u21 => ?_) (fun _ _ _ => ⟨nofun, nofun, nofun⟩)
    subst hv
    refine Run.step rfl (OpStep.storeAll (us := [.slice A_u11 ((cfA es m N is ni os no).length) c_u11, .slice A_u21 ((cfL es m N is ni os no).length) c_u21]) Tsize_29 rfl rfl rfl (.here _) rfl ?_)
    refine Run.p (.bool ((cfO es m N is ni os no).isSome)) rfl rfl ?_
    refine Run.dsr ?_
    refine Run.y (.agg #[.slice A_u11 ((cfA es m N is ni os no).length) c_u11, .slice A_u21 ((cfL es m N is ni os no).length) c_u21]) rfl (OpY.loadN (cs := [.slice A_u11 ((cfA es m N is ni os no).length) c_u11, .slice A_u21 ((cfL es m N is ni os no).length) c_u21]) Tagg_29 rfl (Cells.blk (.head _) ⟨rfl, rfl, trivial⟩)) ?_
    refine Run.step rfl (OpStep.storeAll (us := [.slice A_u11 ((cfA es m N is ni os no).length) c_u11, .slice A_u21 ((cfL es m N is ni os no).length) c_u21]) Tsize_29 rfl rfl rfl (.there _ (.there _ (.there _ (.there _ (.there _ (.here _)))))) rfl ?_)
    refine Run.dsr ?_
    refine Run.p (.bool ((cfO es m N is ni os no).isSome)) rfl rfl ?_
    refine Run.p (.bool (!((cfO es m N is ni os no).isSome))) rfl rfl ?_
    refine Run.done ?_
    refine Run.cond (b := !((cfO es m N is ni os no).isSome)) rfl (fun h25 => ?_) (fun h25 => ?_)
    ·have p25 := h25; try simp only [bs] at p25
     obtain ⟨hn1, hn10, _, _, _⟩ := og_ok hg
     have hno : (cfO es m N is ni os no).isSome = false := by simpa using p25
     have hres := cf_none (Option.not_isSome_iff_eq_none.1 (by rw [hno]; decide))
     have hl1 : (cfA es m N is ni os no).length = 0 := by rw [hres.1]; rfl
     have hl2 : (cfL es m N is ni os no).length = 0 := by rw [hres.2.1]; rfl
     refine Run.sr ?_
     refine Run.p (.int .i64 0) rfl rfl ?_
     refine Run.done ?_
     refine Run.block ?_
     refine Run.loop (ι := Nat × (Nat × Int) × (Nat × List Int × Value) × (Nat × List Int × Value)) [8, 26, 27, 28, 29, 30, 31, 32, 33, 34, 35, 36, 37, 38, 39, 40, 41, 42, 43, 44, 45, 46, 47, 48, 49] (fun ⟨v, sc2, ⟨a, nx, vx⟩, ⟨b, ly, vy⟩⟩ => [(8, .int .i64 (((v : Nat) : Int)))]) (fun ⟨v, sc2, ⟨a, nx, vx⟩, ⟨b, ly, vy⟩⟩ => [.own ve 80 2 m (ints es), .own vi 3 1 ni (ints is), .own vo 3 1 no (ints os), .own vx 3 1 a (ints nx), .own vy 3 1 b (ints ly), .blk b4 29 [vx, vy], .blk b5 29 [.slice A_u11 ((cfA es m N is ni os no).length) c_u11, .slice A_u21 ((cfL es m N is ni os no).length) c_u21], .blk b3 26 [.int .i64 (((N : Nat) : Int)), ve, vi, vo], .blk b2 29 [.slice none 0 0, .slice none 0 0], .blk b1 26 [.int .i64 0, .slice none 0 0, .slice none 0 0, .slice none 0 0], .blk bc 64 [vc, .int .i64 (((sc2.1 : Nat) : Int)), .int .u64 (sc2.2)]]) (fun ⟨v, sc2, ⟨a, nx, vx⟩, ⟨b, ly, vy⟩⟩ => v ≤ N ∧ a = v ∧ b = v ∧ sc2.1 ≤ s.1 + 300 + 4 * v) (fun ⟨v, sc2, ⟨a, nx, vx⟩, ⟨b, ly, vy⟩⟩ => N - v) (0, sc, ((cfA es m N is ni os no).length, ((cfA es m N is ni os no)), .slice A_u11 ((cfA es m N is ni os no).length) c_u11), ((cfL es m N is ni os no).length, ((cfL es m N is ni os no)), .slice A_u21 ((cfL es m N is ni os no).length) c_u21)) ?_ ?_ ?_ ?_
     ·exact ⟨Nat.zero_le _, hl1, hl2, by omega⟩
     ·exact ⟨rfl, trivial⟩
     ·exact ((Weak.selF [6, 6, 6, 1, 1, 3, 0, 2, 2, 2, 2]).trans (Some'.weak (.take (.take (.take (.takeEq (by first | rfl | simp) (.takeEq (by first | rfl | simp) (.takeEq (by first | rfl | simp) (.take (.take (.take (.take (.takeEq (by first | rfl | simp) (.nil _))))))))))))))
     ·rintro ⟨v, sc2, ⟨a, nx, vx⟩, ⟨b, ly, vy⟩⟩ fr hinv
      show Run _ _ (over _ _ [(8, .int .i64 (((v : Nat) : Int)))] fr) [.own ve 80 2 m (ints es), .own vi 3 1 ni (ints is), .own vo 3 1 no (ints os), .own vx 3 1 a (ints nx), .own vy 3 1 b (ints ly), .blk b4 29 [vx, vy], .blk b5 29 [.slice A_u11 ((cfA es m N is ni os no).length) c_u11, .slice A_u21 ((cfL es m N is ni os no).length) c_u21], .blk b3 26 [.int .i64 (((N : Nat) : Int)), ve, vi, vo], .blk b2 29 [.slice none 0 0, .slice none 0 0], .blk b1 26 [.int .i64 0, .slice none 0 0, .slice none 0 0, .slice none 0 0], .blk bc 64 [vc, .int .i64 (((sc2.1 : Nat) : Int)), .int .u64 (sc2.2)]]
      try dsimp only at hinv
      refine Run.seq ?_
      refine Run.sr ?_
      refine Run.p (.int .i64 (((v : Nat) : Int))) rfl rfl ?_
      refine Run.y (.pointer (some ⟨b3, 0, none⟩)) rfl (OpY.fieldAddr Tfo_26_0 rfl rfl) ?_
      refine Run.y (.int .i64 (((N : Nat) : Int))) rfl (OpY.load1 Tone_3 rfl (Cells.blk (.tail _ (.tail _ (.tail _ (.tail _ (.tail _ (.tail _ (.tail _ (List.Mem.head _)))))))) ⟨rfl, trivial⟩)) ?_
      refine Run.p (.bool (decide ((((v : Nat) : Int)) < (((N : Nat) : Int))))) rfl rfl ?_
      refine Run.done ?_
      refine Run.cond (b := decide ((((v : Nat) : Int)) < (((N : Nat) : Int)))) rfl (fun h29 => ?_) (fun h29 => ?_)
      ·have p29 := h29; try simp only [bs] at p29
       obtain ⟨hv1, hv2, hv3, hv4⟩ := hinv
       refine Run.skip ?_
       refine Run.seq ?_
       refine Run.block ?_
       refine Run.seq ?_
       refine Run.lastlyB [11] [.blk b4 29 [vx, vy], .blk b5 29 [.slice A_u11 ((cfA es m N is ni os no).length) c_u11, .slice A_u21 ((cfL es m N is ni os no).length) c_u21], .blk b3 26 [.int .i64 (((N : Nat) : Int)), ve, vi, vo], .blk b2 29 [.slice none 0 0, .slice none 0 0], .blk b1 26 [.int .i64 0, .slice none 0 0, .slice none 0 0, .slice none 0 0]] (by kernel_rfl) ?_
       refine DL.takeP (i := 0) (v := .pointer (some ⟨b4, 0, none⟩)) rfl (by kernel_rfl) (by kernel_rfl) (by kernel_rfl) (fun _ _ _ h => h) rfl (fun _ => OpY.fieldAddr Tfo_29_0 rfl rfl) ?_
       refine DL.take (i := 1) (v := vx) rfl (by kernel_rfl) (by kernel_rfl) (by kernel_rfl) (by kernel_rfl) (fun _ _ _ h => h) (Some'.weak (.skip (.skip (.skip (.skip (.skip (.take (.take (.take (.take (.take (.nil _)))))))))))) rfl (OpY.load1 Tone_24 rfl (Cells.blk (.head _) ⟨rfl, trivial⟩)) ?_
       refine DL.takeP (i := 2) (v := .pointer (some ⟨bc, 0, none⟩)) rfl (by kernel_rfl) (by kernel_rfl) (by kernel_rfl) (fun _ _ _ h => h) rfl (fun _ => OpY.pure rfl) ?_
       refine DL.takeP (i := 3) (v := .pointer (some ⟨b3, 0, none⟩)) rfl (by kernel_rfl) (by kernel_rfl) (by kernel_rfl) (fun _ _ _ h => h) rfl (fun _ => OpY.fieldAddr Tfo_26_0 rfl rfl) ?_
       refine DL.take (i := 4) (v := .int .i64 (((N : Nat) : Int))) rfl (by kernel_rfl) (by kernel_rfl) (by kernel_rfl) (by kernel_rfl) (fun _ _ _ h => h) (Some'.weak (.skip (.skip (.skip (.skip (.skip (.take (.take (.take (.take (.take (.nil _)))))))))))) rfl (OpY.load1 Tone_3 rfl (Cells.blk (.tail _ (.tail _ (List.Mem.head _))) ⟨rfl, trivial⟩)) ?_
       refine DL.takeP (i := 5) (v := .int .i64 ((((N : Nat) : Int)) + 1)) rfl (by kernel_rfl) (by kernel_rfl) (by kernel_rfl) (fun _ _ _ h => h) rfl (fun _ => OpY.add rfl rfl rfl (by omega) (by omega)) ?_
       refine DL.stepS (i := 6) (by kernel_rfl) rfl rfl (OpStep.callM (H1 := [.blk bc 64 [vc, .int .i64 (((sc2.1 : Nat) : Int)), .int .u64 (sc2.2)]]) (H2 := [.own ve 80 2 m (ints es), .own vi 3 1 ni (ints is), .own vo 3 1 no (ints os), .own vx 3 1 a (ints nx), .own vy 3 1 b (ints ly), .blk b4 29 [vx, vy], .blk b5 29 [.slice A_u11 ((cfA es m N is ni os no).length) c_u11, .slice A_u21 ((cfL es m N is ni os no).length) c_u21], .blk b3 26 [.int .i64 (((N : Nat) : Int)), ve, vi, vo], .blk b2 29 [.slice none 0 0, .slice none 0 0], .blk b1 26 [.int .i64 0, .slice none 0 0, .slice none 0 0, .slice none 0 0]]) (vs := [.pointer (some ⟨bc, 0, none⟩), .int .i64 ((((N : Nat) : Int)) + 1)]) (caps := []) Tcall_43 rfl rfl (Weak.selF [10]) (fun w hs => pick_ex (by omega) (hc.go hs) (hs.sub (List.sublist_append_left _ _)).self) ?_)
       rintro _ _ ⟨x2, s2, hx2, hs2, rfl, rfl⟩
       refine ⟨(Some'.weak (.skip (.skip (.skip (.skip (.skip (.skip (.take (.take (.take (.take (.take (.nil _))))))))))))), ?_⟩
       refine DL.takeP (i := 7) (v := .int .i64 (x2 - 1)) rfl (by kernel_rfl) (by kernel_rfl) (by kernel_rfl) (fun _ _ _ h => h) rfl (fun _ => OpY.sub rfl rfl rfl (by omega) (by omega)) ?_
       refine DL.stepS (i := 8) (by kernel_rfl) rfl rfl (OpStep.buildSlice (us := [.int .i64 (x2 - 1)]) Tsl_24 (by decide) (by decide) ⟨rfl, [.int .i64 (x2 - 1)], _, rfl, rfl, rfl, rfl⟩ rfl fun b6 => ?_)
       refine ⟨(Some'.weak (.skip (.skip (.skip (.skip (.skip (.skip (.skip (.take (.take (.take (.take (.take (.nil _)))))))))))))), ?_⟩
       refine DL.stepS (i := 9) (by kernel_rfl) rfl rfl (OpStep.append (H1 := [.own (.slice (some ⟨b6, 0, none⟩) 1 1) 3 1 1 ([.int .i64 (x2 - 1)]), .blk bc 64 [vc, .int .i64 (((s2.1 : Nat) : Int)), .int .u64 (s2.2)], .own ve 80 2 m (ints es), .own vi 3 1 ni (ints is), .own vo 3 1 no (ints os)]) (H2 := [.own vy 3 1 b (ints ly), .blk b4 29 [vx, vy], .blk b5 29 [.slice A_u11 ((cfA es m N is ni os no).length) c_u11, .slice A_u21 ((cfL es m N is ni os no).length) c_u21], .blk b3 26 [.int .i64 (((N : Nat) : Int)), ve, vi, vo], .blk b2 29 [.slice none 0 0, .slice none 0 0], .blk b1 26 [.int .i64 0, .slice none 0 0, .slice none 0 0, .slice none 0 0]]) (v := vx) (u := .slice (some ⟨b6, 0, none⟩) 1 1) (n := a) (m := 1) (xs := ints nx) (ys := [.int .i64 (x2 - 1)]) Tsl_24 (by decide) rfl rfl rfl rfl (fun w hs => hs.slOwn (.head _)) (by simp [Value.oneCell']) (by omega) (by simp only [maxLen]; omega) fun av1 hnav1 => ?_)
       refine DL.weakS (H' := [.own (.slice (some ⟨b6, 0, none⟩) 1 1) 3 1 1 ([.int .i64 (x2 - 1)]), .blk bc 64 [vc, .int .i64 (((s2.1 : Nat) : Int)), .int .u64 (s2.2)], .own ve 80 2 m (ints es), .own vi 3 1 ni (ints is), .own vo 3 1 no (ints os), .own av1 3 1 (a + 1) (ints (nx ++ [x2 - 1])), .own vy 3 1 b (ints ly), .blk b4 29 [vx, vy], .blk b5 29 [.slice A_u11 ((cfA es m N is ni os no).length) c_u11, .slice A_u21 ((cfL es m N is ni os no).length) c_u21], .blk b3 26 [.int .i64 (((N : Nat) : Int)), ve, vi, vo], .blk b2 29 [.slice none 0 0, .slice none 0 0], .blk b1 26 [.int .i64 0, .slice none 0 0, .slice none 0 0, .slice none 0 0]]) (Some'.weak (.take (.take (.take (.take (.take (.takeEq (by simp [ints]) (.take (.take (.take (.take (.take (.take (.nil _)))))))))))))) ?_
       refine ⟨(Some'.weak (.skip (.skip (.skip (.skip (.skip (.skip (.skip (.take (.take (.take (.take (.take (.nil _)))))))))))))), ?_⟩
       refine DL.takeP (i := 10) (v := .pointer (some ⟨b4, 0, none⟩)) rfl (by kernel_rfl) (by kernel_rfl) (by kernel_rfl) (fun _ _ _ h => h) rfl (fun _ => OpY.fieldAddr Tfo_29_0 rfl rfl) ?_
       refine DL.formOwn (.tail _ (.tail _ (.tail _ (.tail _ (.tail _ (List.Mem.head _)))))) (fun A_av11 c_av11 hv hcapc_av11 hmaxc_av11 => ?_)
       subst hv
       refine DL.step (i := 11) (by kernel_rfl) (by kernel_rfl) rfl rfl (OpStep.store (us := [.slice A_av11 (a + 1) c_av11]) Tsize_24 rfl rfl rfl (.there _ (.there _ (.there _ (.there _ (.there _ (.there _ (.there _ (.here _)))))))) (by simp only [List.length_cons, List.length_nil]; omega) ?_)
       show DL _ _ _ _ _ _ _ _ [.own (.slice (some ⟨b6, 0, none⟩) 1 1) 3 1 1 ([.int .i64 (x2 - 1)]), .blk bc 64 [vc, .int .i64 (((s2.1 : Nat) : Int)), .int .u64 (s2.2)], .own ve 80 2 m (ints es), .own vi 3 1 ni (ints is), .own vo 3 1 no (ints os), .own (.slice A_av11 (a + 1) c_av11) 3 1 (a + 1) (ints (nx ++ [x2 - 1])), .own vy 3 1 b (ints ly), .blk b4 29 [.slice A_av11 (a + 1) c_av11, vy], .blk b5 29 [.slice A_u11 ((cfA es m N is ni os no).length) c_u11, .slice A_u21 ((cfL es m N is ni os no).length) c_u21], .blk b3 26 [.int .i64 (((N : Nat) : Int)), ve, vi, vo], .blk b2 29 [.slice none 0 0, .slice none 0 0], .blk b1 26 [.int .i64 0, .slice none 0 0, .slice none 0 0, .slice none 0 0]]
       refine DL.done (by kernel_rfl) ?_
       refine Run.lastlyB [7] [.blk b4 29 [.slice A_av11 (a + 1) c_av11, vy], .blk b5 29 [.slice A_u11 ((cfA es m N is ni os no).length) c_u11, .slice A_u21 ((cfL es m N is ni os no).length) c_u21], .blk b3 26 [.int .i64 (((N : Nat) : Int)), ve, vi, vo], .blk b2 29 [.slice none 0 0, .slice none 0 0], .blk b1 26 [.int .i64 0, .slice none 0 0, .slice none 0 0, .slice none 0 0]] (by kernel_rfl) ?_
       refine DL.takeP (i := 0) (v := .pointer (some ⟨b4, 1, none⟩)) rfl (by kernel_rfl) (by kernel_rfl) (by kernel_rfl) (fun _ _ _ h => h) rfl (fun _ => OpY.fieldAddr Tfo_29_1 rfl rfl) ?_
       refine DL.take (i := 1) (v := vy) rfl (by kernel_rfl) (by kernel_rfl) (by kernel_rfl) (by kernel_rfl) (fun _ _ _ h => h) (Some'.weak (.skip (.skip (.skip (.skip (.skip (.skip (.skip (.take (.take (.take (.take (.take (.nil _)))))))))))))) rfl (OpY.load1 Tone_24 rfl (Cells.blk (.head _) ⟨rfl, trivial⟩)) ?_
       refine DL.takeP (i := 2) (v := .pointer (some ⟨bc, 0, none⟩)) rfl (by kernel_rfl) (by kernel_rfl) (by kernel_rfl) (fun _ _ _ h => h) rfl (fun _ => OpY.pure rfl) ?_
       refine DL.stepS (i := 3) (by kernel_rfl) rfl rfl (OpStep.callM (H1 := [.blk bc 64 [vc, .int .i64 (((s2.1 : Nat) : Int)), .int .u64 (s2.2)]]) (H2 := [.own (.slice (some ⟨b6, 0, none⟩) 1 1) 3 1 1 ([.int .i64 (x2 - 1)]), .own ve 80 2 m (ints es), .own vi 3 1 ni (ints is), .own vo 3 1 no (ints os), .own (.slice A_av11 (a + 1) c_av11) 3 1 (a + 1) (ints (nx ++ [x2 - 1])), .own vy 3 1 b (ints ly), .blk b4 29 [.slice A_av11 (a + 1) c_av11, vy], .blk b5 29 [.slice A_u11 ((cfA es m N is ni os no).length) c_u11, .slice A_u21 ((cfL es m N is ni os no).length) c_u21], .blk b3 26 [.int .i64 (((N : Nat) : Int)), ve, vi, vo], .blk b2 29 [.slice none 0 0, .slice none 0 0], .blk b1 26 [.int .i64 0, .slice none 0 0, .slice none 0 0, .slice none 0 0]]) (vs := [.pointer (some ⟨bc, 0, none⟩), .int .i64 4]) (caps := []) Tcall_43 rfl rfl (Weak.selF [1]) (fun w hs => pick_ex (by omega) (hc.go hs) (hs.sub (List.sublist_append_left _ _)).self) ?_)
       rintro _ _ ⟨x3, s3, hx3, hs3, rfl, rfl⟩
       refine ⟨(Some'.weak (.skip (.skip (.skip (.skip (.skip (.skip (.skip (.take (.take (.take (.take (.take (.nil _)))))))))))))), ?_⟩
       refine DL.stepS (i := 4) (by kernel_rfl) rfl rfl (OpStep.buildSlice (us := [.int .i64 x3]) Tsl_24 (by decide) (by decide) ⟨rfl, [.int .i64 x3], _, rfl, rfl, rfl, rfl⟩ rfl fun b7 => ?_)
       refine ⟨(Some'.weak (.skip (.skip (.skip (.skip (.skip (.skip (.skip (.skip (.take (.take (.take (.take (.take (.nil _))))))))))))))), ?_⟩
       refine DL.stepS (i := 5) (by kernel_rfl) rfl rfl (OpStep.append (H1 := [.own (.slice (some ⟨b7, 0, none⟩) 1 1) 3 1 1 ([.int .i64 x3]), .blk bc 64 [vc, .int .i64 (((s3.1 : Nat) : Int)), .int .u64 (s3.2)], .own (.slice (some ⟨b6, 0, none⟩) 1 1) 3 1 1 ([.int .i64 (x2 - 1)]), .own ve 80 2 m (ints es), .own vi 3 1 ni (ints is), .own vo 3 1 no (ints os), .own (.slice A_av11 (a + 1) c_av11) 3 1 (a + 1) (ints (nx ++ [x2 - 1]))]) (H2 := [.blk b4 29 [.slice A_av11 (a + 1) c_av11, vy], .blk b5 29 [.slice A_u11 ((cfA es m N is ni os no).length) c_u11, .slice A_u21 ((cfL es m N is ni os no).length) c_u21], .blk b3 26 [.int .i64 (((N : Nat) : Int)), ve, vi, vo], .blk b2 29 [.slice none 0 0, .slice none 0 0], .blk b1 26 [.int .i64 0, .slice none 0 0, .slice none 0 0, .slice none 0 0]]) (v := vy) (u := .slice (some ⟨b7, 0, none⟩) 1 1) (n := b) (m := 1) (xs := ints ly) (ys := [.int .i64 x3]) Tsl_24 (by decide) rfl rfl rfl rfl (fun w hs => hs.slOwn (.head _)) (by simp [Value.oneCell']) (by omega) (by simp only [maxLen]; omega) fun av2 hnav2 => ?_)
       refine DL.weakS (H' := [.own (.slice (some ⟨b7, 0, none⟩) 1 1) 3 1 1 ([.int .i64 x3]), .blk bc 64 [vc, .int .i64 (((s3.1 : Nat) : Int)), .int .u64 (s3.2)], .own (.slice (some ⟨b6, 0, none⟩) 1 1) 3 1 1 ([.int .i64 (x2 - 1)]), .own ve 80 2 m (ints es), .own vi 3 1 ni (ints is), .own vo 3 1 no (ints os), .own (.slice A_av11 (a + 1) c_av11) 3 1 (a + 1) (ints (nx ++ [x2 - 1])), .own av2 3 1 (b + 1) (ints (ly ++ [x3])), .blk b4 29 [.slice A_av11 (a + 1) c_av11, vy], .blk b5 29 [.slice A_u11 ((cfA es m N is ni os no).length) c_u11, .slice A_u21 ((cfL es m N is ni os no).length) c_u21], .blk b3 26 [.int .i64 (((N : Nat) : Int)), ve, vi, vo], .blk b2 29 [.slice none 0 0, .slice none 0 0], .blk b1 26 [.int .i64 0, .slice none 0 0, .slice none 0 0, .slice none 0 0]]) (Some'.weak (.take (.take (.take (.take (.take (.take (.take (.takeEq (by simp [ints]) (.take (.take (.take (.take (.take (.nil _))))))))))))))) ?_
       refine ⟨(Some'.weak (.skip (.skip (.skip (.skip (.skip (.skip (.skip (.skip (.take (.take (.take (.take (.take (.nil _))))))))))))))), ?_⟩
       refine DL.takeP (i := 6) (v := .pointer (some ⟨b4, 1, none⟩)) rfl (by kernel_rfl) (by kernel_rfl) (by kernel_rfl) (fun _ _ _ h => h) rfl (fun _ => OpY.fieldAddr Tfo_29_1 rfl rfl) ?_
       refine DL.formOwn (.tail _ (.tail _ (.tail _ (.tail _ (.tail _ (.tail _ (.tail _ (List.Mem.head _)))))))) (fun A_av21 c_av21 hv hcapc_av21 hmaxc_av21 => ?_)
       subst hv
       refine DL.step (i := 7) (by kernel_rfl) (by kernel_rfl) rfl rfl (OpStep.store (us := [.slice A_av21 (b + 1) c_av21]) Tsize_24 rfl rfl rfl (.there _ (.there _ (.there _ (.there _ (.there _ (.there _ (.there _ (.there _ (.here _))))))))) (by simp only [List.length_cons, List.length_nil]; omega) ?_)
       show DL _ _ _ _ _ _ _ _ [.own (.slice (some ⟨b7, 0, none⟩) 1 1) 3 1 1 ([.int .i64 x3]), .blk bc 64 [vc, .int .i64 (((s3.1 : Nat) : Int)), .int .u64 (s3.2)], .own (.slice (some ⟨b6, 0, none⟩) 1 1) 3 1 1 ([.int .i64 (x2 - 1)]), .own ve 80 2 m (ints es), .own vi 3 1 ni (ints is), .own vo 3 1 no (ints os), .own (.slice A_av11 (a + 1) c_av11) 3 1 (a + 1) (ints (nx ++ [x2 - 1])), .own (.slice A_av21 (b + 1) c_av21) 3 1 (b + 1) (ints (ly ++ [x3])), .blk b4 29 [.slice A_av11 (a + 1) c_av11, .slice A_av21 (b + 1) c_av21], .blk b5 29 [.slice A_u11 ((cfA es m N is ni os no).length) c_u11, .slice A_u21 ((cfL es m N is ni os no).length) c_u21], .blk b3 26 [.int .i64 (((N : Nat) : Int)), ve, vi, vo], .blk b2 29 [.slice none 0 0, .slice none 0 0], .blk b1 26 [.int .i64 0, .slice none 0 0, .slice none 0 0, .slice none 0 0]]
       refine DL.done (by kernel_rfl) ?_
       refine Run.blockEnd ?_
       refine Run.region ?_
       refine Run.p (.int .i64 (((v : Nat) : Int))) rfl rfl ?_
       refine Run.y (.int .i64 (((v + 1 : Nat) : Int))) rfl (OpY.add rfl rfl (by omega) (by omega) (by omega)) ?_
       refine Run.p (.int .i64 (((v + 1 : Nat) : Int))) rfl rfl ?_
       refine Run.done ?_
       refine Run.goal ⟨(by repeat (first | exact Same.refl _ _ | refine Same.put rfl ?_ | refine Same.over rfl rfl ?_)), (v + 1, s3, (a + 1, ((nx ++ [x2 - 1])), .slice A_av11 (a + 1) c_av11), (b + 1, ((ly ++ [x3])), .slice A_av21 (b + 1) c_av21)), ?_, ?_, ?_, ?_⟩
       ·exact ⟨by omega, by omega, by omega, by omega⟩
       ·show N - (v + 1) < N - v; omega
       ·exact ⟨(by first | rfl | (congr 1; omega) | simp), trivial⟩
       ·exact ((Weak.selF [3, 3, 3, 3, 3, 3, 3, 3, 3, 3, 1]).trans (Some'.weak (.takeEq (by first | rfl | simp) (.takeEq (by first | rfl | simp) (.takeEq (by first | rfl | simp) (.takeEq (by first | rfl | simp) (.takeEq (by first | rfl | simp) (.takeEq (by first | rfl | simp) (.take (.take (.take (.take (.takeEq (by first | rfl | simp) (.nil _))))))))))))))
      ·have p29 := h29; try simp only [bs] at p29
       obtain ⟨hv1, hv2, hv3, hv4⟩ := hinv
       refine Run.exit rfl ?_
       refine Run.goal ⟨(by repeat (first | exact Same.refl _ _ | refine Same.put rfl ?_ | refine Same.over rfl rfl ?_)), (sc2, (a, nx, vx), (b, ly, vy)), ?_, ?_, ?_⟩
       ·omega
       ·exact trivial
       ·exact ((Weak.selF [0, 0, 0, 0, 0, 0, 1, 1, 1, 1]).trans (Some'.weak (.takeEq (by first | rfl | simp) (.takeEq (by first | rfl | simp) (.takeEq (by first | rfl | simp) (.takeEq (by first | rfl | simp) (.takeEq (by first | rfl | simp) (.take (.take (.take (.take (.take (.nil _)))))))))))))
    ·have p25 := h25; try simp only [bs] at p25
     refine Run.skip ?_
     refine Run.goal ⟨(by repeat (first | exact Same.refl _ _ | refine Same.put rfl ?_ | refine Same.over rfl rfl ?_)), (sc, ((cfA es m N is ni os no).length, ((cfA es m N is ni os no)), .slice A_u11 ((cfA es m N is ni os no).length) c_u11), ((cfL es m N is ni os no).length, ((cfL es m N is ni os no)), .slice A_u21 ((cfL es m N is ni os no).length) c_u21)), ?_, ?_, ?_⟩
     ·omega
     ·exact trivial
     ·exact ((Weak.selF [6, 6, 6, 1, 1, 3, 3, 3, 3, 3]).trans (Some'.weak (.takeEq (by first | rfl | simp) (.takeEq (by first | rfl | simp) (.takeEq (by first | rfl | simp) (.takeEq (by first | rfl | simp) (.takeEq (by first | rfl | simp) (.takeEq (by first | rfl | simp) (.take (.take (.take (.takeEq (by first | rfl | simp) (.nil _)))))))))))))
   ·have p17 := h17; try simp only [bs] at p17
    refine Run.skip ?_
    refine Run.goal ⟨(by repeat (first | exact Same.refl _ _ | refine Same.put rfl ?_ | refine Same.over rfl rfl ?_)), (sc, (0, [], .slice none 0 0), (0, [], .slice none 0 0)), ?_, ?_, ?_⟩
    ·omega
    ·exact trivial
    ·exact ((Weak.selF [3, 3, 3, 0, 0, 0, 0, 0, 0, 0]).trans (Some'.weak (.takeEq (by first | rfl | simp) (.takeEq (by first | rfl | simp) (.takeEq (by first | rfl | simp) (.takeEq (by first | rfl | simp) (.takeEq (by first | rfl | simp) (.takeEq (by first | rfl | simp) (.take (.take (.take (.takeEq (by first | rfl | simp) (.nil _)))))))))))))
  ·rintro ⟨sc2, ⟨a, nx, vx⟩, ⟨b, ly, vy⟩⟩ fr hcut
   show Run _ _ (over _ _ [] fr) [.own ve 80 2 m (ints es), .own vi 3 1 ni (ints is), .own vo 3 1 no (ints os), .own vx 3 1 a (ints nx), .own vy 3 1 b (ints ly), .blk b4 29 [vx, vy], .blk b3 26 [.int .i64 (((N : Nat) : Int)), ve, vi, vo], .blk b2 29 [.slice none 0 0, .slice none 0 0], .blk b1 26 [.int .i64 0, .slice none 0 0, .slice none 0 0, .slice none 0 0], .blk bc 64 [vc, .int .i64 (((sc2.1 : Nat) : Int)), .int .u64 (sc2.2)]]
   have hsc2 : sc2.1 ≤ s.1 + 400 := hcut
   refine Run.seq ?_
   refine Run.sr ?_
   refine Run.y (.pointer (some ⟨b4, 0, none⟩)) rfl (OpY.fieldAddr Tfo_29_0 rfl rfl) ?_
   refine Run.y (vx) rfl (OpY.load1 Tone_24 rfl (Cells.blk (.tail _ (.tail _ (.tail _ (.tail _ (.tail _ (List.Mem.head _)))))) ⟨rfl, trivial⟩)) ?_
   refine Run.formOwn (.tail _ (.tail _ (.tail _ (List.Mem.head _)))) (fun A_vx1 c_vx1 hv hcapc_vx1 hmaxc_vx1 => ?_) (fun _ _ _ => ⟨nofun, nofun, nofun⟩)
   subst hv
   refine Run.y (.int .i64 (((a : Nat) : Int))) rfl (OpY.len Tsl_24 rfl) ?_
   refine Run.p (.bool (decide ((((a : Nat) : Int)) > 0))) rfl rfl ?_
   rcases Bool.eq_false_or_eq_true (decide ((((a : Nat) : Int)) > 0)) with h54 | h54
   ·refine Run.q (v := .bool true) rfl (OpQ.y (OpY.moveB rfl h54)) ?_
    have p54 := h54; try simp only [bs] at p54
    refine Run.p (.pointer (some ⟨bc, 0, none⟩)) rfl rfl ?_
    refine Run.step rfl (OpStep.callM (H1 := [.blk bc 64 [vc, .int .i64 (((sc2.1 : Nat) : Int)), .int .u64 (sc2.2)]]) (H2 := [.own ve 80 2 m (ints es), .own vi 3 1 ni (ints is), .own vo 3 1 no (ints os), .own (.slice A_vx1 a c_vx1) 3 1 a (ints nx), .own vy 3 1 b (ints ly), .blk b4 29 [.slice A_vx1 a c_vx1, vy], .blk b3 26 [.int .i64 (((N : Nat) : Int)), ve, vi, vo], .blk b2 29 [.slice none 0 0, .slice none 0 0], .blk b1 26 [.int .i64 0, .slice none 0 0, .slice none 0 0, .slice none 0 0]]) (vs := [.pointer (some ⟨bc, 0, none⟩), .int .i64 4]) (caps := []) Tcall_42 rfl rfl (Weak.selF [9]) (fun w hs => one_ex (by omega) (hc.go hs) (hs.sub (List.sublist_append_left _ _)).self) ?_)
    rintro _ _ ⟨x4, s4, hs4, rfl, rfl⟩
    show Run _ _ (putF _ _ _ (.bool x4)) [.blk bc 64 [vc, .int .i64 (((s4.1 : Nat) : Int)), .int .u64 (s4.2)], .own ve 80 2 m (ints es), .own vi 3 1 ni (ints is), .own vo 3 1 no (ints os), .own (.slice A_vx1 a c_vx1) 3 1 a (ints nx), .own vy 3 1 b (ints ly), .blk b4 29 [.slice A_vx1 a c_vx1, vy], .blk b3 26 [.int .i64 (((N : Nat) : Int)), ve, vi, vo], .blk b2 29 [.slice none 0 0, .slice none 0 0], .blk b1 26 [.int .i64 0, .slice none 0 0, .slice none 0 0, .slice none 0 0]]
    refine Run.p (.bool x4) rfl rfl ?_
    refine Run.done ?_
    refine Run.cut (ι := (Nat × Int) × (Nat × List Int × Value) × (Nat × List Int × Value)) [58, 59, 60, 61, 62, 63, 64, 65, 66, 67, 68] (fun ⟨sc2, ⟨a, nx, vx⟩, ⟨b, ly, vy⟩⟩ => []) (fun ⟨sc2, ⟨a, nx, vx⟩, ⟨b, ly, vy⟩⟩ => [.own ve 80 2 m (ints es), .own vi 3 1 ni (ints is), .own vo 3 1 no (ints os), .own (.slice A_vx1 a c_vx1) 3 1 a (ints nx), .own vy 3 1 b (ints ly), .blk b4 29 [.slice A_vx1 a c_vx1, vy], .blk b3 26 [.int .i64 (((N : Nat) : Int)), ve, vi, vo], .blk b2 29 [.slice none 0 0, .slice none 0 0], .blk b1 26 [.int .i64 0, .slice none 0 0, .slice none 0 0, .slice none 0 0], .blk bc 64 [vc, .int .i64 (((sc2.1 : Nat) : Int)), .int .u64 (sc2.2)]]) (fun ⟨sc2, ⟨a, nx, vx⟩, ⟨b, ly, vy⟩⟩ => sc2.1 ≤ s.1 + 410) ?_ ?_
    ·refine Run.cond (b := x4) rfl (fun h57 => ?_) (fun h57 => ?_)
     ·have p57 := h57; try simp only [bs] at p57
      refine Run.openOwn (.tail _ (.tail _ (.tail _ (.tail _ (List.Mem.head _))))) (by omega) (fun g1 cg1 hvg1 hcapg1 _ => ?_) (fun _ _ _ => ⟨nofun, nofun, nofun⟩)
      injection hvg1 with hAg1 _ hcg1; subst hAg1; subst hcg1
      refine Run.lastlyB [11] [.blk b4 29 [.slice (some ⟨g1, 0, none⟩) a c_vx1, vy], .blk b3 26 [.int .i64 (((N : Nat) : Int)), ve, vi, vo], .blk b2 29 [.slice none 0 0, .slice none 0 0], .blk b1 26 [.int .i64 0, .slice none 0 0, .slice none 0 0, .slice none 0 0]] (by kernel_rfl) ?_
      refine DL.takeP (i := 0) (v := .pointer (some ⟨b4, 0, none⟩)) rfl (by kernel_rfl) (by kernel_rfl) (by kernel_rfl) (fun _ _ _ h => h) rfl (fun _ => OpY.fieldAddr Tfo_29_0 rfl rfl) ?_
      refine DL.take (i := 1) (v := .slice (some ⟨g1, 0, none⟩) a c_vx1) rfl (by kernel_rfl) (by kernel_rfl) (by kernel_rfl) (by kernel_rfl) (fun _ _ _ h => h) (Some'.weak (.skip (.skip (.skip (.skip (.skip (.skip (.take (.take (.take (.take (.nil _)))))))))))) rfl (OpY.load1 Tone_24 rfl (Cells.blk (.head _) ⟨rfl, trivial⟩)) ?_
      refine DL.takeP (i := 2) (v := .pointer (some ⟨bc, 0, none⟩)) rfl (by kernel_rfl) (by kernel_rfl) (by kernel_rfl) (fun _ _ _ h => h) rfl (fun _ => OpY.pure rfl) ?_
      refine DL.takeP (i := 3) (v := .pointer (some ⟨b4, 0, none⟩)) rfl (by kernel_rfl) (by kernel_rfl) (by kernel_rfl) (fun _ _ _ h => h) rfl (fun _ => OpY.fieldAddr Tfo_29_0 rfl rfl) ?_
      refine DL.take (i := 4) (v := .slice (some ⟨g1, 0, none⟩) a c_vx1) rfl (by kernel_rfl) (by kernel_rfl) (by kernel_rfl) (by kernel_rfl) (fun _ _ _ h => h) (Some'.weak (.skip (.skip (.skip (.skip (.skip (.skip (.take (.take (.take (.take (.nil _)))))))))))) rfl (OpY.load1 Tone_24 rfl (Cells.blk (.head _) ⟨rfl, trivial⟩)) ?_
      refine DL.takeP (i := 5) (v := .int .i64 (((a : Nat) : Int))) rfl (by kernel_rfl) (by kernel_rfl) (by kernel_rfl) (fun _ _ _ h => h) rfl (fun _ => OpY.len Tsl_24 rfl) ?_
      refine DL.takeP (i := 7) (v := .pointer (some ⟨bc, 0, none⟩)) rfl (by kernel_rfl) (by kernel_rfl) (by kernel_rfl) (fun _ _ _ h => h) rfl (fun _ => OpY.pure rfl) ?_
      refine DL.stepS (i := 6) (by kernel_rfl) rfl rfl (OpStep.callM (H1 := [.blk bc 64 [vc, .int .i64 (((s4.1 : Nat) : Int)), .int .u64 (s4.2)]]) (H2 := [.own ve 80 2 m (ints es), .own vi 3 1 ni (ints is), .own vo 3 1 no (ints os), .own (.slice (some ⟨g1, 0, none⟩) a c_vx1) 3 1 a (ints nx), .own vy 3 1 b (ints ly), .blk b4 29 [.slice (some ⟨g1, 0, none⟩) a c_vx1, vy], .blk b3 26 [.int .i64 (((N : Nat) : Int)), ve, vi, vo], .blk b2 29 [.slice none 0 0, .slice none 0 0], .blk b1 26 [.int .i64 0, .slice none 0 0, .slice none 0 0, .slice none 0 0]]) (vs := [.pointer (some ⟨bc, 0, none⟩), .int .i64 (((a : Nat) : Int))]) (caps := []) Tcall_43 rfl rfl (Weak.refl _) (fun w hs => pick_ex (by omega) (hc.go hs) (hs.sub (List.sublist_append_left _ _)).self) ?_)
      rintro _ _ ⟨x5, s5, hx5, hs5, rfl, rfl⟩
      refine ⟨(Some'.weak (.skip (.skip (.skip (.skip (.skip (.skip (.take (.take (.take (.take (.nil _)))))))))))), ?_⟩
      refine DL.stepS (i := 8) (by kernel_rfl) rfl rfl (OpStep.callM (H1 := [.blk bc 64 [vc, .int .i64 (((s5.1 : Nat) : Int)), .int .u64 (s5.2)]]) (H2 := [.own ve 80 2 m (ints es), .own vi 3 1 ni (ints is), .own vo 3 1 no (ints os), .own (.slice (some ⟨g1, 0, none⟩) a c_vx1) 3 1 a (ints nx), .own vy 3 1 b (ints ly), .blk b4 29 [.slice (some ⟨g1, 0, none⟩) a c_vx1, vy], .blk b3 26 [.int .i64 (((N : Nat) : Int)), ve, vi, vo], .blk b2 29 [.slice none 0 0, .slice none 0 0], .blk b1 26 [.int .i64 0, .slice none 0 0, .slice none 0 0, .slice none 0 0]]) (vs := [.pointer (some ⟨bc, 0, none⟩), .int .i64 8]) (caps := []) Tcall_43 rfl rfl (Weak.refl _) (fun w hs => pick_ex (by omega) (hc.go hs) (hs.sub (List.sublist_append_left _ _)).self) ?_)
      rintro _ _ ⟨x6, s6, hx6, hs6, rfl, rfl⟩
      refine ⟨(Some'.weak (.skip (.skip (.skip (.skip (.skip (.skip (.take (.take (.take (.take (.nil _)))))))))))), ?_⟩
      refine DL.takeP (i := 9) (v := .int .i64 (x6 - 1)) rfl (by kernel_rfl) (by kernel_rfl) (by kernel_rfl) (fun _ _ _ h => h) rfl (fun _ => OpY.sub rfl rfl rfl (by omega) (by omega)) ?_
      refine DL.takeP (i := 10) (v := .pointer (some ⟨g1, (x5).toNat, none⟩)) rfl (by kernel_rfl) (by kernel_rfl) (by kernel_rfl) (fun _ _ _ h => h) rfl (fun _ => OpY.index (kk := (x5).toNat) Tsl_24 rfl rfl (by omega) (by omega) (by first | rfl | omega)) ?_
      refine DL.step (i := 11) (by kernel_rfl) (by kernel_rfl) rfl rfl (OpStep.storeOwnInt (o := (x5).toNat) (a := x6 - 1) Tsize_3 rfl rfl (.there _ (.there _ (.there _ (.there _ (.here _))))) (by omega) ?_)
      refine DL.done (by kernel_rfl) ?_
      refine Run.goal ⟨(by repeat (first | exact Same.refl _ _ | refine Same.put rfl ?_ | refine Same.over rfl rfl ?_)), (s6, (a, ((nx.set ((x5).toNat) (x6 - 1))), .slice (some ⟨g1, 0, none⟩) a c_vx1), (b, ly, vy)), ?_, ?_, ?_⟩
      ·omega
      ·exact trivial
      ·exact ((Weak.selF [1, 1, 1, 1, 1, 1, 1, 1, 1, 0]).trans (Some'.weak (.takeEq (by first | rfl | simp) (.takeEq (by first | rfl | simp) (.takeEq (by first | rfl | simp) (.takeEq (by first | rfl | simp) (.takeEq (by first | rfl | simp) (.takeEq (by first | rfl | simp) (.take (.take (.take (.takeEq (by first | rfl | simp) (.nil _)))))))))))))
     ·have p57 := h57; try simp only [bs] at p57
      refine Run.skip ?_
      refine Run.goal ⟨(by repeat (first | exact Same.refl _ _ | refine Same.put rfl ?_ | refine Same.over rfl rfl ?_)), (s4, (a, nx, .slice A_vx1 a c_vx1), (b, ly, vy)), ?_, ?_, ?_⟩
      ·omega
      ·exact trivial
      ·exact ((Weak.selF [1, 1, 1, 1, 1, 1, 1, 1, 1, 0]).trans (Some'.weak (.takeEq (by first | rfl | simp) (.takeEq (by first | rfl | simp) (.takeEq (by first | rfl | simp) (.takeEq (by first | rfl | simp) (.takeEq (by first | rfl | simp) (.take (.take (.take (.take (.takeEq (by first | rfl | simp) (.nil _)))))))))))))
    ·rintro ⟨sc2, ⟨a, nx, vx⟩, ⟨b, ly, vy⟩⟩ fr hcut
     show Run _ _ (over _ _ [] fr) [.own ve 80 2 m (ints es), .own vi 3 1 ni (ints is), .own vo 3 1 no (ints os), .own (.slice A_vx1 a c_vx1) 3 1 a (ints nx), .own vy 3 1 b (ints ly), .blk b4 29 [.slice A_vx1 a c_vx1, vy], .blk b3 26 [.int .i64 (((N : Nat) : Int)), ve, vi, vo], .blk b2 29 [.slice none 0 0, .slice none 0 0], .blk b1 26 [.int .i64 0, .slice none 0 0, .slice none 0 0, .slice none 0 0], .blk bc 64 [vc, .int .i64 (((sc2.1 : Nat) : Int)), .int .u64 (sc2.2)]]
     have hsc2 : sc2.1 ≤ s.1 + 410 := hcut
     refine Run.seq ?_
     refine Run.sr ?_
     refine Run.y (.pointer (some ⟨b4, 1, none⟩)) rfl (OpY.fieldAddr Tfo_29_1 rfl rfl) ?_
     refine Run.y (vy) rfl (OpY.load1 Tone_24 rfl (Cells.blk (.tail _ (.tail _ (.tail _ (.tail _ (.tail _ (List.Mem.head _)))))) ⟨rfl, trivial⟩)) ?_
     refine Run.formOwn (.tail _ (.tail _ (.tail _ (.tail _ (List.Mem.head _))))) (fun A_vy1 c_vy1 hv hcapc_vy1 hmaxc_vy1 => ?_) (fun _ _ _ => ⟨nofun, nofun, nofun⟩)
     subst hv
     refine Run.y (.int .i64 (((b : Nat) : Int))) rfl (OpY.len Tsl_24 rfl) ?_
     refine Run.p (.bool (decide ((((b : Nat) : Int)) > 0))) rfl rfl ?_
     rcases Bool.eq_false_or_eq_true (decide ((((b : Nat) : Int)) > 0)) with h73 | h73
     ·refine Run.q (v := .bool true) rfl (OpQ.y (OpY.moveB rfl h73)) ?_
      have p73 := h73; try simp only [bs] at p73
      refine Run.p (.pointer (some ⟨bc, 0, none⟩)) rfl rfl ?_
      refine Run.step rfl (OpStep.callM (H1 := [.blk bc 64 [vc, .int .i64 (((sc2.1 : Nat) : Int)), .int .u64 (sc2.2)]]) (H2 := [.own ve 80 2 m (ints es), .own vi 3 1 ni (ints is), .own vo 3 1 no (ints os), .own (.slice A_vx1 a c_vx1) 3 1 a (ints nx), .own (.slice A_vy1 b c_vy1) 3 1 b (ints ly), .blk b4 29 [.slice A_vx1 a c_vx1, .slice A_vy1 b c_vy1], .blk b3 26 [.int .i64 (((N : Nat) : Int)), ve, vi, vo], .blk b2 29 [.slice none 0 0, .slice none 0 0], .blk b1 26 [.int .i64 0, .slice none 0 0, .slice none 0 0, .slice none 0 0]]) (vs := [.pointer (some ⟨bc, 0, none⟩), .int .i64 4]) (caps := []) Tcall_42 rfl rfl (Weak.selF [9]) (fun w hs => one_ex (by omega) (hc.go hs) (hs.sub (List.sublist_append_left _ _)).self) ?_)
      rintro _ _ ⟨x7, s7, hs7, rfl, rfl⟩
      show Run _ _ (putF _ _ _ (.bool x7)) [.blk bc 64 [vc, .int .i64 (((s7.1 : Nat) : Int)), .int .u64 (s7.2)], .own ve 80 2 m (ints es), .own vi 3 1 ni (ints is), .own vo 3 1 no (ints os), .own (.slice A_vx1 a c_vx1) 3 1 a (ints nx), .own (.slice A_vy1 b c_vy1) 3 1 b (ints ly), .blk b4 29 [.slice A_vx1 a c_vx1, .slice A_vy1 b c_vy1], .blk b3 26 [.int .i64 (((N : Nat) : Int)), ve, vi, vo], .blk b2 29 [.slice none 0 0, .slice none 0 0], .blk b1 26 [.int .i64 0, .slice none 0 0, .slice none 0 0, .slice none 0 0]]
      refine Run.p (.bool x7) rfl rfl ?_
      refine Run.done ?_
      refine Run.cut (ι := (Nat × Int) × (Nat × List Int × Value) × (Nat × List Int × Value)) [77, 78, 79, 80, 81, 82, 83, 84, 85, 86, 87] (fun ⟨sc2, ⟨a, nx, vx⟩, ⟨b, ly, vy⟩⟩ => []) (fun ⟨sc2, ⟨a, nx, vx⟩, ⟨b, ly, vy⟩⟩ => [.own ve 80 2 m (ints es), .own vi 3 1 ni (ints is), .own vo 3 1 no (ints os), .own (.slice A_vx1 a c_vx1) 3 1 a (ints nx), .own (.slice A_vy1 b c_vy1) 3 1 b (ints ly), .blk b4 29 [.slice A_vx1 a c_vx1, .slice A_vy1 b c_vy1], .blk b3 26 [.int .i64 (((N : Nat) : Int)), ve, vi, vo], .blk b2 29 [.slice none 0 0, .slice none 0 0], .blk b1 26 [.int .i64 0, .slice none 0 0, .slice none 0 0, .slice none 0 0], .blk bc 64 [vc, .int .i64 (((sc2.1 : Nat) : Int)), .int .u64 (sc2.2)]]) (fun ⟨sc2, ⟨a, nx, vx⟩, ⟨b, ly, vy⟩⟩ => sc2.1 ≤ s.1 + 420) ?_ ?_
      ·refine Run.cond (b := x7) rfl (fun h76 => ?_) (fun h76 => ?_)
       ·have p76 := h76; try simp only [bs] at p76
        refine Run.openOwn (.tail _ (.tail _ (.tail _ (.tail _ (.tail _ (List.Mem.head _)))))) (by omega) (fun g2 cg2 hvg2 hcapg2 _ => ?_) (fun _ _ _ => ⟨nofun, nofun, nofun⟩)
        injection hvg2 with hAg2 _ hcg2; subst hAg2; subst hcg2
        refine Run.lastlyB [11] [.blk b4 29 [.slice A_vx1 a c_vx1, .slice (some ⟨g2, 0, none⟩) b c_vy1], .blk b3 26 [.int .i64 (((N : Nat) : Int)), ve, vi, vo], .blk b2 29 [.slice none 0 0, .slice none 0 0], .blk b1 26 [.int .i64 0, .slice none 0 0, .slice none 0 0, .slice none 0 0]] (by kernel_rfl) ?_
        refine DL.takeP (i := 0) (v := .pointer (some ⟨b4, 1, none⟩)) rfl (by kernel_rfl) (by kernel_rfl) (by kernel_rfl) (fun _ _ _ h => h) rfl (fun _ => OpY.fieldAddr Tfo_29_1 rfl rfl) ?_
        refine DL.take (i := 1) (v := .slice (some ⟨g2, 0, none⟩) b c_vy1) rfl (by kernel_rfl) (by kernel_rfl) (by kernel_rfl) (by kernel_rfl) (fun _ _ _ h => h) (Some'.weak (.skip (.skip (.skip (.skip (.skip (.skip (.take (.take (.take (.take (.nil _)))))))))))) rfl (OpY.load1 Tone_24 rfl (Cells.blk (.head _) ⟨rfl, trivial⟩)) ?_
        refine DL.takeP (i := 2) (v := .pointer (some ⟨bc, 0, none⟩)) rfl (by kernel_rfl) (by kernel_rfl) (by kernel_rfl) (fun _ _ _ h => h) rfl (fun _ => OpY.pure rfl) ?_
        refine DL.takeP (i := 3) (v := .pointer (some ⟨b4, 1, none⟩)) rfl (by kernel_rfl) (by kernel_rfl) (by kernel_rfl) (fun _ _ _ h => h) rfl (fun _ => OpY.fieldAddr Tfo_29_1 rfl rfl) ?_
        refine DL.take (i := 4) (v := .slice (some ⟨g2, 0, none⟩) b c_vy1) rfl (by kernel_rfl) (by kernel_rfl) (by kernel_rfl) (by kernel_rfl) (fun _ _ _ h => h) (Some'.weak (.skip (.skip (.skip (.skip (.skip (.skip (.take (.take (.take (.take (.nil _)))))))))))) rfl (OpY.load1 Tone_24 rfl (Cells.blk (.head _) ⟨rfl, trivial⟩)) ?_
        refine DL.takeP (i := 5) (v := .int .i64 (((b : Nat) : Int))) rfl (by kernel_rfl) (by kernel_rfl) (by kernel_rfl) (fun _ _ _ h => h) rfl (fun _ => OpY.len Tsl_24 rfl) ?_
        refine DL.takeP (i := 7) (v := .pointer (some ⟨bc, 0, none⟩)) rfl (by kernel_rfl) (by kernel_rfl) (by kernel_rfl) (fun _ _ _ h => h) rfl (fun _ => OpY.pure rfl) ?_
        refine DL.two (i := 6) (j := 8) (by kernel_rfl) rfl rfl rfl rfl ?_ ?_
        ·refine OpStep.callM (H1 := [.blk bc 64 [vc, .int .i64 (((s7.1 : Nat) : Int)), .int .u64 (s7.2)]]) (H2 := [.own ve 80 2 m (ints es), .own vi 3 1 ni (ints is), .own vo 3 1 no (ints os), .own (.slice A_vx1 a c_vx1) 3 1 a (ints nx), .own (.slice (some ⟨g2, 0, none⟩) b c_vy1) 3 1 b (ints ly), .blk b4 29 [.slice A_vx1 a c_vx1, .slice (some ⟨g2, 0, none⟩) b c_vy1], .blk b3 26 [.int .i64 (((N : Nat) : Int)), ve, vi, vo], .blk b2 29 [.slice none 0 0, .slice none 0 0], .blk b1 26 [.int .i64 0, .slice none 0 0, .slice none 0 0, .slice none 0 0]]) (vs := [.pointer (some ⟨bc, 0, none⟩), .int .i64 (((b : Nat) : Int))]) (caps := []) Tcall_43 rfl rfl (Weak.refl _) (fun w hs => pick_ex (by omega) (hc.go hs) (hs.sub (List.sublist_append_left _ _)).self) ?_
         rintro _ _ ⟨x8, s8, hx8, hs8, rfl, rfl⟩
         refine ⟨(Some'.weak (.skip (.skip (.skip (.skip (.skip (.skip (.take (.take (.take (.take (.nil _)))))))))))), ?_⟩
         refine DL.stepS (i := 8) (by kernel_rfl) rfl rfl (OpStep.buildSlice (us := [.int .i64 0, .int .i64 1, .int .i64 2, .int .i64 3, .int .i64 100, .int .i64 101, .int .i64 (-1)]) Tsl_24 (by decide) (by decide) ⟨rfl, [.int .i64 0], _, rfl, rfl, rfl, ⟨rfl, [.int .i64 1], _, rfl, rfl, rfl, ⟨rfl, [.int .i64 2], _, rfl, rfl, rfl, ⟨rfl, [.int .i64 3], _, rfl, rfl, rfl, ⟨rfl, [.int .i64 100], _, rfl, rfl, rfl, ⟨rfl, [.int .i64 101], _, rfl, rfl, rfl, ⟨rfl, [.int .i64 (-1)], _, rfl, rfl, rfl, rfl⟩⟩⟩⟩⟩⟩⟩ rfl fun b8 => ?_)
         refine ⟨(Some'.weak (.skip (.skip (.skip (.skip (.skip (.skip (.skip (.take (.take (.take (.take (.nil _))))))))))))), ?_⟩
         refine DL.stepS (i := 9) (by kernel_rfl) rfl rfl (OpStep.callM (H1 := [.blk bc 64 [vc, .int .i64 (((s8.1 : Nat) : Int)), .int .u64 (s8.2)], .own (.slice (some ⟨b8, 0, none⟩) 7 7) 3 1 7 (ints [0, 1, 2, 3, 100, 101, -1])]) (H2 := [.own ve 80 2 m (ints es), .own vi 3 1 ni (ints is), .own vo 3 1 no (ints os), .own (.slice A_vx1 a c_vx1) 3 1 a (ints nx), .own (.slice (some ⟨g2, 0, none⟩) b c_vy1) 3 1 b (ints ly), .blk b4 29 [.slice A_vx1 a c_vx1, .slice (some ⟨g2, 0, none⟩) b c_vy1], .blk b3 26 [.int .i64 (((N : Nat) : Int)), ve, vi, vo], .blk b2 29 [.slice none 0 0, .slice none 0 0], .blk b1 26 [.int .i64 0, .slice none 0 0, .slice none 0 0, .slice none 0 0]]) (vs := [.pointer (some ⟨bc, 0, none⟩), .slice (some ⟨b8, 0, none⟩) 7 7]) (caps := []) Tcall_44 rfl rfl (Weak.selF [1, 0]) (fun w hs => among_spec (by omega) (by decide) (hc.go hs) (hc.apart hs (.tail _ (.head _))) (hs.sub (List.sublist_append_left _ _)).self) ?_)
         rintro _ _ ⟨i1, s9, hi1, hs9, rfl, rfl⟩
         have hixi1 : -1 ≤ ix [0, 1, 2, 3, 100, 101, -1] i1 ∧ ix [0, 1, 2, 3, 100, 101, -1] i1 ≤ 101 := by
          rcases (by omega : i1 = 0 ∨ i1 = 1 ∨ i1 = 2 ∨ i1 = 3 ∨ i1 = 4 ∨ i1 = 5 ∨ i1 = 6) with rfl | rfl | rfl | rfl | rfl | rfl | rfl <;> simp [ix]
         refine ⟨(Some'.weak (.skip (.skip (.skip (.skip (.skip (.skip (.take (.take (.take (.take (.nil _)))))))))))), ?_⟩
         refine DL.takeP (i := 10) (v := .pointer (some ⟨g2, (x8).toNat, none⟩)) rfl (by kernel_rfl) (by kernel_rfl) (by kernel_rfl) (fun _ _ _ h => h) rfl (fun _ => OpY.index (kk := (x8).toNat) Tsl_24 rfl rfl (by omega) (by omega) (by first | rfl | omega)) ?_
         refine DL.step (i := 11) (by kernel_rfl) (by kernel_rfl) rfl rfl (OpStep.storeOwnInt (o := (x8).toNat) (a := ix [0, 1, 2, 3, 100, 101, -1] i1) Tsize_3 rfl rfl (.there _ (.there _ (.there _ (.there _ (.there _ (.here _)))))) (by omega) ?_)
         refine DL.done (by kernel_rfl) ?_
         refine Run.goal ⟨(by repeat (first | exact Same.refl _ _ | refine Same.put rfl ?_ | refine Same.over rfl rfl ?_)), (s9, (a, nx, .slice A_vx1 a c_vx1), (b, ((ly.set ((x8).toNat) (ix [0, 1, 2, 3, 100, 101, -1] i1))), .slice (some ⟨g2, 0, none⟩) b c_vy1)), ?_, ?_, ?_⟩
         ·omega
         ·exact trivial
         ·exact ((Weak.selF [1, 1, 1, 1, 1, 1, 1, 1, 1, 0]).trans (Some'.weak (.takeEq (by first | rfl | simp) (.takeEq (by first | rfl | simp) (.takeEq (by first | rfl | simp) (.takeEq (by first | rfl | simp) (.takeEq (by first | rfl | simp) (.takeEq (by first | rfl | simp) (.take (.take (.take (.takeEq (by first | rfl | simp) (.nil _)))))))))))))
        ·refine OpStep.buildSlice (us := [.int .i64 0, .int .i64 1, .int .i64 2, .int .i64 3, .int .i64 100, .int .i64 101, .int .i64 (-1)]) Tsl_24 (by decide) (by decide) ⟨rfl, [.int .i64 0], _, rfl, rfl, rfl, ⟨rfl, [.int .i64 1], _, rfl, rfl, rfl, ⟨rfl, [.int .i64 2], _, rfl, rfl, rfl, ⟨rfl, [.int .i64 3], _, rfl, rfl, rfl, ⟨rfl, [.int .i64 100], _, rfl, rfl, rfl, ⟨rfl, [.int .i64 101], _, rfl, rfl, rfl, ⟨rfl, [.int .i64 (-1)], _, rfl, rfl, rfl, rfl⟩⟩⟩⟩⟩⟩⟩ rfl fun b9 => ?_
         refine ⟨(Some'.weak (.skip (.skip (.skip (.skip (.skip (.skip (.skip (.take (.take (.take (.take (.nil _))))))))))))), ?_⟩
         refine DL.stepS (i := 6) (by kernel_rfl) rfl rfl (OpStep.callM (H1 := [.blk bc 64 [vc, .int .i64 (((s7.1 : Nat) : Int)), .int .u64 (s7.2)]]) (H2 := [.own (.slice (some ⟨b9, 0, none⟩) 7 7) 3 1 7 ([.int .i64 0, .int .i64 1, .int .i64 2, .int .i64 3, .int .i64 100, .int .i64 101, .int .i64 (-1)]), .own ve 80 2 m (ints es), .own vi 3 1 ni (ints is), .own vo 3 1 no (ints os), .own (.slice A_vx1 a c_vx1) 3 1 a (ints nx), .own (.slice (some ⟨g2, 0, none⟩) b c_vy1) 3 1 b (ints ly), .blk b4 29 [.slice A_vx1 a c_vx1, .slice (some ⟨g2, 0, none⟩) b c_vy1], .blk b3 26 [.int .i64 (((N : Nat) : Int)), ve, vi, vo], .blk b2 29 [.slice none 0 0, .slice none 0 0], .blk b1 26 [.int .i64 0, .slice none 0 0, .slice none 0 0, .slice none 0 0]]) (vs := [.pointer (some ⟨bc, 0, none⟩), .int .i64 (((b : Nat) : Int))]) (caps := []) Tcall_43 rfl rfl (Weak.selF [1]) (fun w hs => pick_ex (by omega) (hc.go hs) (hs.sub (List.sublist_append_left _ _)).self) ?_)
         rintro _ _ ⟨x9, s10, hx9, hs10, rfl, rfl⟩
         refine ⟨(Some'.weak (.skip (.skip (.skip (.skip (.skip (.skip (.skip (.take (.take (.take (.take (.nil _))))))))))))), ?_⟩
         refine DL.stepS (i := 9) (by kernel_rfl) rfl rfl (OpStep.callM (H1 := [.blk bc 64 [vc, .int .i64 (((s10.1 : Nat) : Int)), .int .u64 (s10.2)], .own (.slice (some ⟨b9, 0, none⟩) 7 7) 3 1 7 (ints [0, 1, 2, 3, 100, 101, -1])]) (H2 := [.own ve 80 2 m (ints es), .own vi 3 1 ni (ints is), .own vo 3 1 no (ints os), .own (.slice A_vx1 a c_vx1) 3 1 a (ints nx), .own (.slice (some ⟨g2, 0, none⟩) b c_vy1) 3 1 b (ints ly), .blk b4 29 [.slice A_vx1 a c_vx1, .slice (some ⟨g2, 0, none⟩) b c_vy1], .blk b3 26 [.int .i64 (((N : Nat) : Int)), ve, vi, vo], .blk b2 29 [.slice none 0 0, .slice none 0 0], .blk b1 26 [.int .i64 0, .slice none 0 0, .slice none 0 0, .slice none 0 0]]) (vs := [.pointer (some ⟨bc, 0, none⟩), .slice (some ⟨b9, 0, none⟩) 7 7]) (caps := []) Tcall_44 rfl rfl (Weak.refl _) (fun w hs => among_spec (by omega) (by decide) (hc.go hs) (hc.apart hs (.tail _ (.head _))) (hs.sub (List.sublist_append_left _ _)).self) ?_)
         rintro _ _ ⟨i2, s11, hi2, hs11, rfl, rfl⟩
         have hixi2 : -1 ≤ ix [0, 1, 2, 3, 100, 101, -1] i2 ∧ ix [0, 1, 2, 3, 100, 101, -1] i2 ≤ 101 := by
          rcases (by omega : i2 = 0 ∨ i2 = 1 ∨ i2 = 2 ∨ i2 = 3 ∨ i2 = 4 ∨ i2 = 5 ∨ i2 = 6) with rfl | rfl | rfl | rfl | rfl | rfl | rfl <;> simp [ix]
         refine ⟨(Some'.weak (.skip (.skip (.skip (.skip (.skip (.skip (.take (.take (.take (.take (.nil _)))))))))))), ?_⟩
         refine DL.takeP (i := 10) (v := .pointer (some ⟨g2, (x9).toNat, none⟩)) rfl (by kernel_rfl) (by kernel_rfl) (by kernel_rfl) (fun _ _ _ h => h) rfl (fun _ => OpY.index (kk := (x9).toNat) Tsl_24 rfl rfl (by omega) (by omega) (by first | rfl | omega)) ?_
         refine DL.step (i := 11) (by kernel_rfl) (by kernel_rfl) rfl rfl (OpStep.storeOwnInt (o := (x9).toNat) (a := ix [0, 1, 2, 3, 100, 101, -1] i2) Tsize_3 rfl rfl (.there _ (.there _ (.there _ (.there _ (.there _ (.here _)))))) (by omega) ?_)
         refine DL.done (by kernel_rfl) ?_
         refine Run.goal ⟨(by repeat (first | exact Same.refl _ _ | refine Same.put rfl ?_ | refine Same.over rfl rfl ?_)), (s11, (a, nx, .slice A_vx1 a c_vx1), (b, ((ly.set ((x9).toNat) (ix [0, 1, 2, 3, 100, 101, -1] i2))), .slice (some ⟨g2, 0, none⟩) b c_vy1)), ?_, ?_, ?_⟩
         ·omega
         ·exact trivial
         ·exact ((Weak.selF [1, 1, 1, 1, 1, 1, 1, 1, 1, 0]).trans (Some'.weak (.takeEq (by first | rfl | simp) (.takeEq (by first | rfl | simp) (.takeEq (by first | rfl | simp) (.takeEq (by first | rfl | simp) (.takeEq (by first | rfl | simp) (.takeEq (by first | rfl | simp) (.take (.take (.take (.takeEq (by first | rfl | simp) (.nil _)))))))))))))
       ·have p76 := h76; try simp only [bs] at p76
        refine Run.skip ?_
        refine Run.goal ⟨(by repeat (first | exact Same.refl _ _ | refine Same.put rfl ?_ | refine Same.over rfl rfl ?_)), (s7, (a, nx, .slice A_vx1 a c_vx1), (b, ly, .slice A_vy1 b c_vy1)), ?_, ?_, ?_⟩
        ·omega
        ·exact trivial
        ·exact ((Weak.selF [1, 1, 1, 1, 1, 1, 1, 1, 1, 0]).trans (Some'.weak (.takeEq (by first | rfl | simp) (.takeEq (by first | rfl | simp) (.takeEq (by first | rfl | simp) (.takeEq (by first | rfl | simp) (.takeEq (by first | rfl | simp) (.take (.take (.take (.take (.takeEq (by first | rfl | simp) (.nil _)))))))))))))
      ·rintro ⟨sc2, ⟨a, nx, vx⟩, ⟨b, ly, vy⟩⟩ fr hcut
       show Run _ _ (over _ _ [] fr) [.own ve 80 2 m (ints es), .own vi 3 1 ni (ints is), .own vo 3 1 no (ints os), .own (.slice A_vx1 a c_vx1) 3 1 a (ints nx), .own (.slice A_vy1 b c_vy1) 3 1 b (ints ly), .blk b4 29 [.slice A_vx1 a c_vx1, .slice A_vy1 b c_vy1], .blk b3 26 [.int .i64 (((N : Nat) : Int)), ve, vi, vo], .blk b2 29 [.slice none 0 0, .slice none 0 0], .blk b1 26 [.int .i64 0, .slice none 0 0, .slice none 0 0, .slice none 0 0], .blk bc 64 [vc, .int .i64 (((sc2.1 : Nat) : Int)), .int .u64 (sc2.2)]]
       have hsc2 : sc2.1 ≤ s.1 + 420 := hcut
       refine Run.seq ?_
       refine Run.heldB (base := [.blk b3 26 [.int .i64 (((N : Nat) : Int)), ve, vi, vo], .blk b4 29 [.slice A_vx1 a c_vx1, .slice A_vy1 b c_vy1]]) (by kernel_rfl) ?_
       refine DW.take (i := 0) (v := .agg #[.int .i64 (((N : Nat) : Int)), ve, vi, vo]) rfl (by kernel_rfl) (by kernel_rfl) (by kernel_rfl) (fun _ _ _ h => h) ((Weak.selF [6, 5]).trans (Some'.weak (.take (.take (.nil _))))) rfl (OpY.loadN (cs := [.int .i64 (((N : Nat) : Int)), ve, vi, vo]) Tagg_26 rfl (Cells.blk (.head _) ⟨rfl, rfl, rfl, rfl, trivial⟩)) ?_
       refine DW.take (i := 1) (v := .agg #[.slice A_vx1 a c_vx1, .slice A_vy1 b c_vy1]) rfl (by kernel_rfl) (by kernel_rfl) (by kernel_rfl) (fun _ _ _ h => h) ((Weak.selF [6, 5]).trans (Some'.weak (.take (.take (.nil _))))) rfl (OpY.loadN (cs := [.slice A_vx1 a c_vx1, .slice A_vy1 b c_vy1]) Tagg_29 rfl (Cells.blk (.tail _ (List.Mem.head _)) ⟨rfl, rfl, trivial⟩)) ?_
       refine DW.formOwn (.head _) (fun A_ve1 c_ve1 hv hcapc_ve1 hmaxc_ve1 => ?_)
       subst hv
       refine DW.formOwn (.tail _ (List.Mem.head _)) (fun A_vi1 c_vi1 hv hcapc_vi1 hmaxc_vi1 => ?_)
       subst hv
       refine DW.formOwn (.tail _ (.tail _ (List.Mem.head _))) (fun A_vo1 c_vo1 hv hcapc_vo1 hmaxc_vo1 => ?_)
       subst hv
       refine DW.step (i := 2) (by kernel_rfl) rfl rfl (OpStep.storeAll (us := [.int .i64 (((N : Nat) : Int)), .slice A_ve1 m c_ve1, .slice A_vi1 ni c_vi1, .slice A_vo1 no c_vo1]) Tsize_26 rfl rfl rfl (.there _ (.there _ (.there _ (.there _ (.there _ (.there _ (.there _ (.there _ (.here _))))))))) rfl ?_)
       refine ⟨((Weak.selF [6, 5]).trans (Some'.weak (.takeEq (by first | rfl | simp) (.take (.nil _))))), ?_⟩
       refine DW.step (i := 3) (by kernel_rfl) rfl rfl (OpStep.storeAll (us := [.slice A_vx1 a c_vx1, .slice A_vy1 b c_vy1]) Tsize_29 rfl rfl rfl (.there _ (.there _ (.there _ (.there _ (.there _ (.there _ (.there _ (.here _)))))))) rfl ?_)
       refine ⟨((Weak.selF [6, 5]).trans (Some'.weak (.takeEq (by first | rfl | simp) (.take (.nil _))))), ?_⟩
       refine DW.done (by kernel_rfl) ?_
       refine Run.ret ?_
       refine ⟨.tuple #[.agg #[.int .i64 (((N : Nat) : Int)), .slice A_ve1 m c_ve1, .slice A_vi1 ni c_vi1, .slice A_vo1 no c_vo1], .agg #[.slice A_vx1 a c_vx1, .slice A_vy1 b c_vy1]], [.own (.slice A_ve1 m c_ve1) 80 2 m (ints es), .own (.slice A_vi1 ni c_vi1) 3 1 ni (ints is), .own (.slice A_vo1 no c_vo1) 3 1 no (ints os), .own (.slice A_vx1 a c_vx1) 3 1 a (ints nx), .own (.slice A_vy1 b c_vy1) 3 1 b (ints ly), .blk bc 64 [vc, .int .i64 (((sc2.1 : Nat) : Int)), .int .u64 (sc2.2)]], Out.cells2 (cs := [.int .i64 (((N : Nat) : Int)), .slice A_ve1 m c_ve1, .slice A_vi1 ni c_vi1, .slice A_vo1 no c_vo1]) (ds := [.slice A_vx1 a c_vx1, .slice A_vy1 b c_vy1]) rfl Tagg_26 rfl (Cells.blk (.tail _ (.tail _ (.tail _ (.tail _ (.tail _ (.tail _ (.tail _ (.tail _ (List.Mem.head _))))))))) ⟨rfl, rfl, rfl, rfl, trivial⟩) Tagg_29 rfl (Cells.blk (.tail _ (.tail _ (.tail _ (.tail _ (.tail _ (.tail _ (.tail _ (List.Mem.head _)))))))) ⟨rfl, rfl, trivial⟩), (Some'.weak (.take (.take (.take (.take (.take (.skip (.skip (.skip (.skip (.take (.nil _)))))))))))), ?_⟩
       exact ⟨_, _, _, _, _, _, _, _, _, _, _, _, _, _, _, _, _, ⟨hgr, by omega, hsm⟩, rfl, rfl⟩
     ·refine Run.q (v := .bool false) rfl (OpQ.y (OpY.moveB rfl h73)) ?_
      have p73 := h73; try simp only [bs] at p73
      refine Run.pass rfl ?_
      refine Run.pass rfl ?_
      refine Run.p (.bool false) rfl rfl ?_
      refine Run.done ?_
      refine Run.cond (b := false) rfl (fun h => nomatch h) (fun _ => ?_)
      refine Run.skip ?_
      refine Run.seq ?_
      refine Run.heldB (base := [.blk b3 26 [.int .i64 (((N : Nat) : Int)), ve, vi, vo], .blk b4 29 [.slice A_vx1 a c_vx1, .slice A_vy1 b c_vy1]]) (by kernel_rfl) ?_
      refine DW.take (i := 0) (v := .agg #[.int .i64 (((N : Nat) : Int)), ve, vi, vo]) rfl (by kernel_rfl) (by kernel_rfl) (by kernel_rfl) (fun _ _ _ h => h) ((Weak.selF [6, 5]).trans (Some'.weak (.take (.take (.nil _))))) rfl (OpY.loadN (cs := [.int .i64 (((N : Nat) : Int)), ve, vi, vo]) Tagg_26 rfl (Cells.blk (.head _) ⟨rfl, rfl, rfl, rfl, trivial⟩)) ?_
      refine DW.take (i := 1) (v := .agg #[.slice A_vx1 a c_vx1, .slice A_vy1 b c_vy1]) rfl (by kernel_rfl) (by kernel_rfl) (by kernel_rfl) (fun _ _ _ h => h) ((Weak.selF [6, 5]).trans (Some'.weak (.take (.take (.nil _))))) rfl (OpY.loadN (cs := [.slice A_vx1 a c_vx1, .slice A_vy1 b c_vy1]) Tagg_29 rfl (Cells.blk (.tail _ (List.Mem.head _)) ⟨rfl, rfl, trivial⟩)) ?_
      refine DW.formOwn (.head _) (fun A_ve2 c_ve2 hv hcapc_ve2 hmaxc_ve2 => ?_)
      subst hv
      refine DW.formOwn (.tail _ (List.Mem.head _)) (fun A_vi2 c_vi2 hv hcapc_vi2 hmaxc_vi2 => ?_)
      subst hv
      refine DW.formOwn (.tail _ (.tail _ (List.Mem.head _))) (fun A_vo2 c_vo2 hv hcapc_vo2 hmaxc_vo2 => ?_)
      subst hv
      refine DW.step (i := 2) (by kernel_rfl) rfl rfl (OpStep.storeAll (us := [.int .i64 (((N : Nat) : Int)), .slice A_ve2 m c_ve2, .slice A_vi2 ni c_vi2, .slice A_vo2 no c_vo2]) Tsize_26 rfl rfl rfl (.there _ (.there _ (.there _ (.there _ (.there _ (.there _ (.there _ (.there _ (.here _))))))))) rfl ?_)
      refine ⟨((Weak.selF [6, 5]).trans (Some'.weak (.takeEq (by first | rfl | simp) (.take (.nil _))))), ?_⟩
      refine DW.step (i := 3) (by kernel_rfl) rfl rfl (OpStep.storeAll (us := [.slice A_vx1 a c_vx1, .slice A_vy1 b c_vy1]) Tsize_29 rfl rfl rfl (.there _ (.there _ (.there _ (.there _ (.there _ (.there _ (.there _ (.here _)))))))) rfl ?_)
      refine ⟨((Weak.selF [6, 5]).trans (Some'.weak (.takeEq (by first | rfl | simp) (.take (.nil _))))), ?_⟩
      refine DW.done (by kernel_rfl) ?_
      refine Run.ret ?_
      refine ⟨.tuple #[.agg #[.int .i64 (((N : Nat) : Int)), .slice A_ve2 m c_ve2, .slice A_vi2 ni c_vi2, .slice A_vo2 no c_vo2], .agg #[.slice A_vx1 a c_vx1, .slice A_vy1 b c_vy1]], [.own (.slice A_ve2 m c_ve2) 80 2 m (ints es), .own (.slice A_vi2 ni c_vi2) 3 1 ni (ints is), .own (.slice A_vo2 no c_vo2) 3 1 no (ints os), .own (.slice A_vx1 a c_vx1) 3 1 a (ints nx), .own (.slice A_vy1 b c_vy1) 3 1 b (ints ly), .blk bc 64 [vc, .int .i64 (((sc2.1 : Nat) : Int)), .int .u64 (sc2.2)]], Out.cells2 (cs := [.int .i64 (((N : Nat) : Int)), .slice A_ve2 m c_ve2, .slice A_vi2 ni c_vi2, .slice A_vo2 no c_vo2]) (ds := [.slice A_vx1 a c_vx1, .slice A_vy1 b c_vy1]) rfl Tagg_26 rfl (Cells.blk (.tail _ (.tail _ (.tail _ (.tail _ (.tail _ (.tail _ (.tail _ (.tail _ (List.Mem.head _))))))))) ⟨rfl, rfl, rfl, rfl, trivial⟩) Tagg_29 rfl (Cells.blk (.tail _ (.tail _ (.tail _ (.tail _ (.tail _ (.tail _ (.tail _ (List.Mem.head _)))))))) ⟨rfl, rfl, trivial⟩), (Some'.weak (.take (.take (.take (.take (.take (.skip (.skip (.skip (.skip (.take (.nil _)))))))))))), ?_⟩
      exact ⟨_, _, _, _, _, _, _, _, _, _, _, _, _, _, _, _, _, ⟨hgr, by omega, hsm⟩, rfl, rfl⟩
   ·refine Run.q (v := .bool false) rfl (OpQ.y (OpY.moveB rfl h54)) ?_
    have p54 := h54; try simp only [bs] at p54
    refine Run.pass rfl ?_
    refine Run.pass rfl ?_
    refine Run.p (.bool false) rfl rfl ?_
    refine Run.done ?_
    refine Run.cond (b := false) rfl (fun h => nomatch h) (fun _ => ?_)
    refine Run.skip ?_
    refine Run.seq ?_
    refine Run.sr ?_
    refine Run.y (.pointer (some ⟨b4, 1, none⟩)) rfl (OpY.fieldAddr Tfo_29_1 rfl rfl) ?_
    refine Run.y (vy) rfl (OpY.load1 Tone_24 rfl (Cells.blk (.tail _ (.tail _ (.tail _ (.tail _ (.tail _ (List.Mem.head _)))))) ⟨rfl, trivial⟩)) ?_
    refine Run.formOwn (.tail _ (.tail _ (.tail _ (.tail _ (List.Mem.head _))))) (fun A_vy2 c_vy2 hv hcapc_vy2 hmaxc_vy2 => ?_) (fun _ _ _ => ⟨nofun, nofun, nofun⟩)
    subst hv
    refine Run.y (.int .i64 (((b : Nat) : Int))) rfl (OpY.len Tsl_24 rfl) ?_
    refine Run.p (.bool (decide ((((b : Nat) : Int)) > 0))) rfl rfl ?_
    rcases Bool.eq_false_or_eq_true (decide ((((b : Nat) : Int)) > 0)) with h73 | h73
    ·refine Run.q (v := .bool true) rfl (OpQ.y (OpY.moveB rfl h73)) ?_
     have p73 := h73; try simp only [bs] at p73
     refine Run.p (.pointer (some ⟨bc, 0, none⟩)) rfl rfl ?_
     refine Run.step rfl (OpStep.callM (H1 := [.blk bc 64 [vc, .int .i64 (((sc2.1 : Nat) : Int)), .int .u64 (sc2.2)]]) (H2 := [.own ve 80 2 m (ints es), .own vi 3 1 ni (ints is), .own vo 3 1 no (ints os), .own (.slice A_vx1 a c_vx1) 3 1 a (ints nx), .own (.slice A_vy2 b c_vy2) 3 1 b (ints ly), .blk b4 29 [.slice A_vx1 a c_vx1, .slice A_vy2 b c_vy2], .blk b3 26 [.int .i64 (((N : Nat) : Int)), ve, vi, vo], .blk b2 29 [.slice none 0 0, .slice none 0 0], .blk b1 26 [.int .i64 0, .slice none 0 0, .slice none 0 0, .slice none 0 0]]) (vs := [.pointer (some ⟨bc, 0, none⟩), .int .i64 4]) (caps := []) Tcall_42 rfl rfl (Weak.selF [9]) (fun w hs => one_ex (by omega) (hc.go hs) (hs.sub (List.sublist_append_left _ _)).self) ?_)
     rintro _ _ ⟨x10, s12, hs12, rfl, rfl⟩
     show Run _ _ (putF _ _ _ (.bool x10)) [.blk bc 64 [vc, .int .i64 (((s12.1 : Nat) : Int)), .int .u64 (s12.2)], .own ve 80 2 m (ints es), .own vi 3 1 ni (ints is), .own vo 3 1 no (ints os), .own (.slice A_vx1 a c_vx1) 3 1 a (ints nx), .own (.slice A_vy2 b c_vy2) 3 1 b (ints ly), .blk b4 29 [.slice A_vx1 a c_vx1, .slice A_vy2 b c_vy2], .blk b3 26 [.int .i64 (((N : Nat) : Int)), ve, vi, vo], .blk b2 29 [.slice none 0 0, .slice none 0 0], .blk b1 26 [.int .i64 0, .slice none 0 0, .slice none 0 0, .slice none 0 0]]
     refine Run.p (.bool x10) rfl rfl ?_
     refine Run.done ?_
     refine Run.cut (ι := (Nat × Int) × (Nat × List Int × Value) × (Nat × List Int × Value)) [77, 78, 79, 80, 81, 82, 83, 84, 85, 86, 87] (fun ⟨sc2, ⟨a, nx, vx⟩, ⟨b, ly, vy⟩⟩ => []) (fun ⟨sc2, ⟨a, nx, vx⟩, ⟨b, ly, vy⟩⟩ => [.own ve 80 2 m (ints es), .own vi 3 1 ni (ints is), .own vo 3 1 no (ints os), .own (.slice A_vx1 a c_vx1) 3 1 a (ints nx), .own (.slice A_vy2 b c_vy2) 3 1 b (ints ly), .blk b4 29 [.slice A_vx1 a c_vx1, .slice A_vy2 b c_vy2], .blk b3 26 [.int .i64 (((N : Nat) : Int)), ve, vi, vo], .blk b2 29 [.slice none 0 0, .slice none 0 0], .blk b1 26 [.int .i64 0, .slice none 0 0, .slice none 0 0, .slice none 0 0], .blk bc 64 [vc, .int .i64 (((sc2.1 : Nat) : Int)), .int .u64 (sc2.2)]]) (fun ⟨sc2, ⟨a, nx, vx⟩, ⟨b, ly, vy⟩⟩ => sc2.1 ≤ s.1 + 420) ?_ ?_
     ·refine Run.cond (b := x10) rfl (fun h76 => ?_) (fun h76 => ?_)
      ·have p76 := h76; try simp only [bs] at p76
       refine Run.openOwn (.tail _ (.tail _ (.tail _ (.tail _ (.tail _ (List.Mem.head _)))))) (by omega) (fun g2 cg2 hvg2 hcapg2 _ => ?_) (fun _ _ _ => ⟨nofun, nofun, nofun⟩)
       injection hvg2 with hAg2 _ hcg2; subst hAg2; subst hcg2
       refine Run.lastlyB [11] [.blk b4 29 [.slice A_vx1 a c_vx1, .slice (some ⟨g2, 0, none⟩) b c_vy2], .blk b3 26 [.int .i64 (((N : Nat) : Int)), ve, vi, vo], .blk b2 29 [.slice none 0 0, .slice none 0 0], .blk b1 26 [.int .i64 0, .slice none 0 0, .slice none 0 0, .slice none 0 0]] (by kernel_rfl) ?_
       refine DL.takeP (i := 0) (v := .pointer (some ⟨b4, 1, none⟩)) rfl (by kernel_rfl) (by kernel_rfl) (by kernel_rfl) (fun _ _ _ h => h) rfl (fun _ => OpY.fieldAddr Tfo_29_1 rfl rfl) ?_
       refine DL.take (i := 1) (v := .slice (some ⟨g2, 0, none⟩) b c_vy2) rfl (by kernel_rfl) (by kernel_rfl) (by kernel_rfl) (by kernel_rfl) (fun _ _ _ h => h) (Some'.weak (.skip (.skip (.skip (.skip (.skip (.skip (.take (.take (.take (.take (.nil _)))))))))))) rfl (OpY.load1 Tone_24 rfl (Cells.blk (.head _) ⟨rfl, trivial⟩)) ?_
       refine DL.takeP (i := 2) (v := .pointer (some ⟨bc, 0, none⟩)) rfl (by kernel_rfl) (by kernel_rfl) (by kernel_rfl) (fun _ _ _ h => h) rfl (fun _ => OpY.pure rfl) ?_
       refine DL.takeP (i := 3) (v := .pointer (some ⟨b4, 1, none⟩)) rfl (by kernel_rfl) (by kernel_rfl) (by kernel_rfl) (fun _ _ _ h => h) rfl (fun _ => OpY.fieldAddr Tfo_29_1 rfl rfl) ?_
       refine DL.take (i := 4) (v := .slice (some ⟨g2, 0, none⟩) b c_vy2) rfl (by kernel_rfl) (by kernel_rfl) (by kernel_rfl) (by kernel_rfl) (fun _ _ _ h => h) (Some'.weak (.skip (.skip (.skip (.skip (.skip (.skip (.take (.take (.take (.take (.nil _)))))))))))) rfl (OpY.load1 Tone_24 rfl (Cells.blk (.head _) ⟨rfl, trivial⟩)) ?_
       refine DL.takeP (i := 5) (v := .int .i64 (((b : Nat) : Int))) rfl (by kernel_rfl) (by kernel_rfl) (by kernel_rfl) (fun _ _ _ h => h) rfl (fun _ => OpY.len Tsl_24 rfl) ?_
       refine DL.takeP (i := 7) (v := .pointer (some ⟨bc, 0, none⟩)) rfl (by kernel_rfl) (by kernel_rfl) (by kernel_rfl) (fun _ _ _ h => h) rfl (fun _ => OpY.pure rfl) ?_
       refine DL.two (i := 6) (j := 8) (by kernel_rfl) rfl rfl rfl rfl ?_ ?_
       ·refine OpStep.callM (H1 := [.blk bc 64 [vc, .int .i64 (((s12.1 : Nat) : Int)), .int .u64 (s12.2)]]) (H2 := [.own ve 80 2 m (ints es), .own vi 3 1 ni (ints is), .own vo 3 1 no (ints os), .own (.slice A_vx1 a c_vx1) 3 1 a (ints nx), .own (.slice (some ⟨g2, 0, none⟩) b c_vy2) 3 1 b (ints ly), .blk b4 29 [.slice A_vx1 a c_vx1, .slice (some ⟨g2, 0, none⟩) b c_vy2], .blk b3 26 [.int .i64 (((N : Nat) : Int)), ve, vi, vo], .blk b2 29 [.slice none 0 0, .slice none 0 0], .blk b1 26 [.int .i64 0, .slice none 0 0, .slice none 0 0, .slice none 0 0]]) (vs := [.pointer (some ⟨bc, 0, none⟩), .int .i64 (((b : Nat) : Int))]) (caps := []) Tcall_43 rfl rfl (Weak.refl _) (fun w hs => pick_ex (by omega) (hc.go hs) (hs.sub (List.sublist_append_left _ _)).self) ?_
        rintro _ _ ⟨x11, s13, hx11, hs13, rfl, rfl⟩
        refine ⟨(Some'.weak (.skip (.skip (.skip (.skip (.skip (.skip (.take (.take (.take (.take (.nil _)))))))))))), ?_⟩
        refine DL.stepS (i := 8) (by kernel_rfl) rfl rfl (OpStep.buildSlice (us := [.int .i64 0, .int .i64 1, .int .i64 2, .int .i64 3, .int .i64 100, .int .i64 101, .int .i64 (-1)]) Tsl_24 (by decide) (by decide) ⟨rfl, [.int .i64 0], _, rfl, rfl, rfl, ⟨rfl, [.int .i64 1], _, rfl, rfl, rfl, ⟨rfl, [.int .i64 2], _, rfl, rfl, rfl, ⟨rfl, [.int .i64 3], _, rfl, rfl, rfl, ⟨rfl, [.int .i64 100], _, rfl, rfl, rfl, ⟨rfl, [.int .i64 101], _, rfl, rfl, rfl, ⟨rfl, [.int .i64 (-1)], _, rfl, rfl, rfl, rfl⟩⟩⟩⟩⟩⟩⟩ rfl fun b10 => ?_)
        refine ⟨(Some'.weak (.skip (.skip (.skip (.skip (.skip (.skip (.skip (.take (.take (.take (.take (.nil _))))))))))))), ?_⟩
        refine DL.stepS (i := 9) (by kernel_rfl) rfl rfl (OpStep.callM (H1 := [.blk bc 64 [vc, .int .i64 (((s13.1 : Nat) : Int)), .int .u64 (s13.2)], .own (.slice (some ⟨b10, 0, none⟩) 7 7) 3 1 7 (ints [0, 1, 2, 3, 100, 101, -1])]) (H2 := [.own ve 80 2 m (ints es), .own vi 3 1 ni (ints is), .own vo 3 1 no (ints os), .own (.slice A_vx1 a c_vx1) 3 1 a (ints nx), .own (.slice (some ⟨g2, 0, none⟩) b c_vy2) 3 1 b (ints ly), .blk b4 29 [.slice A_vx1 a c_vx1, .slice (some ⟨g2, 0, none⟩) b c_vy2], .blk b3 26 [.int .i64 (((N : Nat) : Int)), ve, vi, vo], .blk b2 29 [.slice none 0 0, .slice none 0 0], .blk b1 26 [.int .i64 0, .slice none 0 0, .slice none 0 0, .slice none 0 0]]) (vs := [.pointer (some ⟨bc, 0, none⟩), .slice (some ⟨b10, 0, none⟩) 7 7]) (caps := []) Tcall_44 rfl rfl (Weak.selF [1, 0]) (fun w hs => among_spec (by omega) (by decide) (hc.go hs) (hc.apart hs (.tail _ (.head _))) (hs.sub (List.sublist_append_left _ _)).self) ?_)
        rintro _ _ ⟨i3, s14, hi3, hs14, rfl, rfl⟩
        have hixi3 : -1 ≤ ix [0, 1, 2, 3, 100, 101, -1] i3 ∧ ix [0, 1, 2, 3, 100, 101, -1] i3 ≤ 101 := by
         rcases (by omega : i3 = 0 ∨ i3 = 1 ∨ i3 = 2 ∨ i3 = 3 ∨ i3 = 4 ∨ i3 = 5 ∨ i3 = 6) with rfl | rfl | rfl | rfl | rfl | rfl | rfl <;> simp [ix]
        refine ⟨(Some'.weak (.skip (.skip (.skip (.skip (.skip (.skip (.take (.take (.take (.take (.nil _)))))))))))), ?_⟩
        refine DL.takeP (i := 10) (v := .pointer (some ⟨g2, (x11).toNat, none⟩)) rfl (by kernel_rfl) (by kernel_rfl) (by kernel_rfl) (fun _ _ _ h => h) rfl (fun _ => OpY.index (kk := (x11).toNat) Tsl_24 rfl rfl (by omega) (by omega) (by first | rfl | omega)) ?_
        refine DL.step (i := 11) (by kernel_rfl) (by kernel_rfl) rfl rfl (OpStep.storeOwnInt (o := (x11).toNat) (a := ix [0, 1, 2, 3, 100, 101, -1] i3) Tsize_3 rfl rfl (.there _ (.there _ (.there _ (.there _ (.there _ (.here _)))))) (by omega) ?_)
        refine DL.done (by kernel_rfl) ?_
        refine Run.goal ⟨(by repeat (first | exact Same.refl _ _ | refine Same.put rfl ?_ | refine Same.over rfl rfl ?_)), (s14, (a, nx, .slice A_vx1 a c_vx1), (b, ((ly.set ((x11).toNat) (ix [0, 1, 2, 3, 100, 101, -1] i3))), .slice (some ⟨g2, 0, none⟩) b c_vy2)), ?_, ?_, ?_⟩
        ·omega
        ·exact trivial
        ·exact ((Weak.selF [1, 1, 1, 1, 1, 1, 1, 1, 1, 0]).trans (Some'.weak (.takeEq (by first | rfl | simp) (.takeEq (by first | rfl | simp) (.takeEq (by first | rfl | simp) (.takeEq (by first | rfl | simp) (.takeEq (by first | rfl | simp) (.takeEq (by first | rfl | simp) (.take (.take (.take (.takeEq (by first | rfl | simp) (.nil _)))))))))))))
       ·refine OpStep.buildSlice (us := [.int .i64 0, .int .i64 1, .int .i64 2, .int .i64 3, .int .i64 100, .int .i64 101, .int .i64 (-1)]) Tsl_24 (by decide) (by decide) ⟨rfl, [.int .i64 0], _, rfl, rfl, rfl, ⟨rfl, [.int .i64 1], _, rfl, rfl, rfl, ⟨rfl, [.int .i64 2], _, rfl, rfl, rfl, ⟨rfl, [.int .i64 3], _, rfl, rfl, rfl, ⟨rfl, [.int .i64 100], _, rfl, rfl, rfl, ⟨rfl, [.int .i64 101], _, rfl, rfl, rfl, ⟨rfl, [.int .i64 (-1)], _, rfl, rfl, rfl, rfl⟩⟩⟩⟩⟩⟩⟩ rfl fun b11 => ?_
        refine ⟨(Some'.weak (.skip (.skip (.skip (.skip (.skip (.skip (.skip (.take (.take (.take (.take (.nil _))))))))))))), ?_⟩
        refine DL.stepS (i := 6) (by kernel_rfl) rfl rfl (OpStep.callM (H1 := [.blk bc 64 [vc, .int .i64 (((s12.1 : Nat) : Int)), .int .u64 (s12.2)]]) (H2 := [.own (.slice (some ⟨b11, 0, none⟩) 7 7) 3 1 7 ([.int .i64 0, .int .i64 1, .int .i64 2, .int .i64 3, .int .i64 100, .int .i64 101, .int .i64 (-1)]), .own ve 80 2 m (ints es), .own vi 3 1 ni (ints is), .own vo 3 1 no (ints os), .own (.slice A_vx1 a c_vx1) 3 1 a (ints nx), .own (.slice (some ⟨g2, 0, none⟩) b c_vy2) 3 1 b (ints ly), .blk b4 29 [.slice A_vx1 a c_vx1, .slice (some ⟨g2, 0, none⟩) b c_vy2], .blk b3 26 [.int .i64 (((N : Nat) : Int)), ve, vi, vo], .blk b2 29 [.slice none 0 0, .slice none 0 0], .blk b1 26 [.int .i64 0, .slice none 0 0, .slice none 0 0, .slice none 0 0]]) (vs := [.pointer (some ⟨bc, 0, none⟩), .int .i64 (((b : Nat) : Int))]) (caps := []) Tcall_43 rfl rfl (Weak.selF [1]) (fun w hs => pick_ex (by omega) (hc.go hs) (hs.sub (List.sublist_append_left _ _)).self) ?_)
        rintro _ _ ⟨x12, s15, hx12, hs15, rfl, rfl⟩
        refine ⟨(Some'.weak (.skip (.skip (.skip (.skip (.skip (.skip (.skip (.take (.take (.take (.take (.nil _))))))))))))), ?_⟩
        refine DL.stepS (i := 9) (by kernel_rfl) rfl rfl (OpStep.callM (H1 := [.blk bc 64 [vc, .int .i64 (((s15.1 : Nat) : Int)), .int .u64 (s15.2)], .own (.slice (some ⟨b11, 0, none⟩) 7 7) 3 1 7 (ints [0, 1, 2, 3, 100, 101, -1])]) (H2 := [.own ve 80 2 m (ints es), .own vi 3 1 ni (ints is), .own vo 3 1 no (ints os), .own (.slice A_vx1 a c_vx1) 3 1 a (ints nx), .own (.slice (some ⟨g2, 0, none⟩) b c_vy2) 3 1 b (ints ly), .blk b4 29 [.slice A_vx1 a c_vx1, .slice (some ⟨g2, 0, none⟩) b c_vy2], .blk b3 26 [.int .i64 (((N : Nat) : Int)), ve, vi, vo], .blk b2 29 [.slice none 0 0, .slice none 0 0], .blk b1 26 [.int .i64 0, .slice none 0 0, .slice none 0 0, .slice none 0 0]]) (vs := [.pointer (some ⟨bc, 0, none⟩), .slice (some ⟨b11, 0, none⟩) 7 7]) (caps := []) Tcall_44 rfl rfl (Weak.refl _) (fun w hs => among_spec (by omega) (by decide) (hc.go hs) (hc.apart hs (.tail _ (.head _))) (hs.sub (List.sublist_append_left _ _)).self) ?_)
        rintro _ _ ⟨i4, s16, hi4, hs16, rfl, rfl⟩
        have hixi4 : -1 ≤ ix [0, 1, 2, 3, 100, 101, -1] i4 ∧ ix [0, 1, 2, 3, 100, 101, -1] i4 ≤ 101 := by
         rcases (by omega : i4 = 0 ∨ i4 = 1 ∨ i4 = 2 ∨ i4 = 3 ∨ i4 = 4 ∨ i4 = 5 ∨ i4 = 6) with rfl | rfl | rfl | rfl | rfl | rfl | rfl <;> simp [ix]
        refine ⟨(Some'.weak (.skip (.skip (.skip (.skip (.skip (.skip (.take (.take (.take (.take (.nil _)))))))))))), ?_⟩
        refine DL.takeP (i := 10) (v := .pointer (some ⟨g2, (x12).toNat, none⟩)) rfl (by kernel_rfl) (by kernel_rfl) (by kernel_rfl) (fun _ _ _ h => h) rfl (fun _ => OpY.index (kk := (x12).toNat) Tsl_24 rfl rfl (by omega) (by omega) (by first | rfl | omega)) ?_
        refine DL.step (i := 11) (by kernel_rfl) (by kernel_rfl) rfl rfl (OpStep.storeOwnInt (o := (x12).toNat) (a := ix [0, 1, 2, 3, 100, 101, -1] i4) Tsize_3 rfl rfl (.there _ (.there _ (.there _ (.there _ (.there _ (.here _)))))) (by omega) ?_)
        refine DL.done (by kernel_rfl) ?_
        refine Run.goal ⟨(by repeat (first | exact Same.refl _ _ | refine Same.put rfl ?_ | refine Same.over rfl rfl ?_)), (s16, (a, nx, .slice A_vx1 a c_vx1), (b, ((ly.set ((x12).toNat) (ix [0, 1, 2, 3, 100, 101, -1] i4))), .slice (some ⟨g2, 0, none⟩) b c_vy2)), ?_, ?_, ?_⟩
        ·omega
        ·exact trivial
        ·exact ((Weak.selF [1, 1, 1, 1, 1, 1, 1, 1, 1, 0]).trans (Some'.weak (.takeEq (by first | rfl | simp) (.takeEq (by first | rfl | simp) (.takeEq (by first | rfl | simp) (.takeEq (by first | rfl | simp) (.takeEq (by first | rfl | simp) (.takeEq (by first | rfl | simp) (.take (.take (.take (.takeEq (by first | rfl | simp) (.nil _)))))))))))))
      ·have p76 := h76; try simp only [bs] at p76
       refine Run.skip ?_
       refine Run.goal ⟨(by repeat (first | exact Same.refl _ _ | refine Same.put rfl ?_ | refine Same.over rfl rfl ?_)), (s12, (a, nx, .slice A_vx1 a c_vx1), (b, ly, .slice A_vy2 b c_vy2)), ?_, ?_, ?_⟩
       ·omega
       ·exact trivial
       ·exact ((Weak.selF [1, 1, 1, 1, 1, 1, 1, 1, 1, 0]).trans (Some'.weak (.takeEq (by first | rfl | simp) (.takeEq (by first | rfl | simp) (.takeEq (by first | rfl | simp) (.takeEq (by first | rfl | simp) (.takeEq (by first | rfl | simp) (.take (.take (.take (.take (.takeEq (by first | rfl | simp) (.nil _)))))))))))))
     ·rintro ⟨sc2, ⟨a, nx, vx⟩, ⟨b, ly, vy⟩⟩ fr hcut
      show Run _ _ (over _ _ [] fr) [.own ve 80 2 m (ints es), .own vi 3 1 ni (ints is), .own vo 3 1 no (ints os), .own (.slice A_vx1 a c_vx1) 3 1 a (ints nx), .own (.slice A_vy2 b c_vy2) 3 1 b (ints ly), .blk b4 29 [.slice A_vx1 a c_vx1, .slice A_vy2 b c_vy2], .blk b3 26 [.int .i64 (((N : Nat) : Int)), ve, vi, vo], .blk b2 29 [.slice none 0 0, .slice none 0 0], .blk b1 26 [.int .i64 0, .slice none 0 0, .slice none 0 0, .slice none 0 0], .blk bc 64 [vc, .int .i64 (((sc2.1 : Nat) : Int)), .int .u64 (sc2.2)]]
      have hsc2 : sc2.1 ≤ s.1 + 420 := hcut
      refine Run.seq ?_
      refine Run.heldB (base := [.blk b3 26 [.int .i64 (((N : Nat) : Int)), ve, vi, vo], .blk b4 29 [.slice A_vx1 a c_vx1, .slice A_vy2 b c_vy2]]) (by kernel_rfl) ?_
      refine DW.take (i := 0) (v := .agg #[.int .i64 (((N : Nat) : Int)), ve, vi, vo]) rfl (by kernel_rfl) (by kernel_rfl) (by kernel_rfl) (fun _ _ _ h => h) ((Weak.selF [6, 5]).trans (Some'.weak (.take (.take (.nil _))))) rfl (OpY.loadN (cs := [.int .i64 (((N : Nat) : Int)), ve, vi, vo]) Tagg_26 rfl (Cells.blk (.head _) ⟨rfl, rfl, rfl, rfl, trivial⟩)) ?_
      refine DW.take (i := 1) (v := .agg #[.slice A_vx1 a c_vx1, .slice A_vy2 b c_vy2]) rfl (by kernel_rfl) (by kernel_rfl) (by kernel_rfl) (fun _ _ _ h => h) ((Weak.selF [6, 5]).trans (Some'.weak (.take (.take (.nil _))))) rfl (OpY.loadN (cs := [.slice A_vx1 a c_vx1, .slice A_vy2 b c_vy2]) Tagg_29 rfl (Cells.blk (.tail _ (List.Mem.head _)) ⟨rfl, rfl, trivial⟩)) ?_
      refine DW.formOwn (.head _) (fun A_ve3 c_ve3 hv hcapc_ve3 hmaxc_ve3 => ?_)
      subst hv
      refine DW.formOwn (.tail _ (List.Mem.head _)) (fun A_vi3 c_vi3 hv hcapc_vi3 hmaxc_vi3 => ?_)
      subst hv
      refine DW.formOwn (.tail _ (.tail _ (List.Mem.head _))) (fun A_vo3 c_vo3 hv hcapc_vo3 hmaxc_vo3 => ?_)
      subst hv
      refine DW.step (i := 2) (by kernel_rfl) rfl rfl (OpStep.storeAll (us := [.int .i64 (((N : Nat) : Int)), .slice A_ve3 m c_ve3, .slice A_vi3 ni c_vi3, .slice A_vo3 no c_vo3]) Tsize_26 rfl rfl rfl (.there _ (.there _ (.there _ (.there _ (.there _ (.there _ (.there _ (.there _ (.here _))))))))) rfl ?_)
      refine ⟨((Weak.selF [6, 5]).trans (Some'.weak (.takeEq (by first | rfl | simp) (.take (.nil _))))), ?_⟩
      refine DW.step (i := 3) (by kernel_rfl) rfl rfl (OpStep.storeAll (us := [.slice A_vx1 a c_vx1, .slice A_vy2 b c_vy2]) Tsize_29 rfl rfl rfl (.there _ (.there _ (.there _ (.there _ (.there _ (.there _ (.there _ (.here _)))))))) rfl ?_)
      refine ⟨((Weak.selF [6, 5]).trans (Some'.weak (.takeEq (by first | rfl | simp) (.take (.nil _))))), ?_⟩
      refine DW.done (by kernel_rfl) ?_
      refine Run.ret ?_
      refine ⟨.tuple #[.agg #[.int .i64 (((N : Nat) : Int)), .slice A_ve3 m c_ve3, .slice A_vi3 ni c_vi3, .slice A_vo3 no c_vo3], .agg #[.slice A_vx1 a c_vx1, .slice A_vy2 b c_vy2]], [.own (.slice A_ve3 m c_ve3) 80 2 m (ints es), .own (.slice A_vi3 ni c_vi3) 3 1 ni (ints is), .own (.slice A_vo3 no c_vo3) 3 1 no (ints os), .own (.slice A_vx1 a c_vx1) 3 1 a (ints nx), .own (.slice A_vy2 b c_vy2) 3 1 b (ints ly), .blk bc 64 [vc, .int .i64 (((sc2.1 : Nat) : Int)), .int .u64 (sc2.2)]], Out.cells2 (cs := [.int .i64 (((N : Nat) : Int)), .slice A_ve3 m c_ve3, .slice A_vi3 ni c_vi3, .slice A_vo3 no c_vo3]) (ds := [.slice A_vx1 a c_vx1, .slice A_vy2 b c_vy2]) rfl Tagg_26 rfl (Cells.blk (.tail _ (.tail _ (.tail _ (.tail _ (.tail _ (.tail _ (.tail _ (.tail _ (List.Mem.head _))))))))) ⟨rfl, rfl, rfl, rfl, trivial⟩) Tagg_29 rfl (Cells.blk (.tail _ (.tail _ (.tail _ (.tail _ (.tail _ (.tail _ (.tail _ (List.Mem.head _)))))))) ⟨rfl, rfl, trivial⟩), (Some'.weak (.take (.take (.take (.take (.take (.skip (.skip (.skip (.skip (.take (.nil _)))))))))))), ?_⟩
      exact ⟨_, _, _, _, _, _, _, _, _, _, _, _, _, _, _, _, _, ⟨hgr, by omega, hsm⟩, rfl, rfl⟩
    ·refine Run.q (v := .bool false) rfl (OpQ.y (OpY.moveB rfl h73)) ?_
     have p73 := h73; try simp only [bs] at p73
     refine Run.pass rfl ?_
     refine Run.pass rfl ?_
     refine Run.p (.bool false) rfl rfl ?_
     refine Run.done ?_
     refine Run.cond (b := false) rfl (fun h => nomatch h) (fun _ => ?_)
     refine Run.skip ?_
     refine Run.seq ?_
     refine Run.heldB (base := [.blk b3 26 [.int .i64 (((N : Nat) : Int)), ve, vi, vo], .blk b4 29 [.slice A_vx1 a c_vx1, .slice A_vy2 b c_vy2]]) (by kernel_rfl) ?_
     refine DW.take (i := 0) (v := .agg #[.int .i64 (((N : Nat) : Int)), ve, vi, vo]) rfl (by kernel_rfl) (by kernel_rfl) (by kernel_rfl) (fun _ _ _ h => h) ((Weak.selF [6, 5]).trans (Some'.weak (.take (.take (.nil _))))) rfl (OpY.loadN (cs := [.int .i64 (((N : Nat) : Int)), ve, vi, vo]) Tagg_26 rfl (Cells.blk (.head _) ⟨rfl, rfl, rfl, rfl, trivial⟩)) ?_
     refine DW.take (i := 1) (v := .agg #[.slice A_vx1 a c_vx1, .slice A_vy2 b c_vy2]) rfl (by kernel_rfl) (by kernel_rfl) (by kernel_rfl) (fun _ _ _ h => h) ((Weak.selF [6, 5]).trans (Some'.weak (.take (.take (.nil _))))) rfl (OpY.loadN (cs := [.slice A_vx1 a c_vx1, .slice A_vy2 b c_vy2]) Tagg_29 rfl (Cells.blk (.tail _ (List.Mem.head _)) ⟨rfl, rfl, trivial⟩)) ?_
     refine DW.formOwn (.head _) (fun A_ve4 c_ve4 hv hcapc_ve4 hmaxc_ve4 => ?_)
     subst hv
     refine DW.formOwn (.tail _ (List.Mem.head _)) (fun A_vi4 c_vi4 hv hcapc_vi4 hmaxc_vi4 => ?_)
     subst hv
     refine DW.formOwn (.tail _ (.tail _ (List.Mem.head _))) (fun A_vo4 c_vo4 hv hcapc_vo4 hmaxc_vo4 => ?_)
     subst hv
     refine DW.step (i := 2) (by kernel_rfl) rfl rfl (OpStep.storeAll (us := [.int .i64 (((N : Nat) : Int)), .slice A_ve4 m c_ve4, .slice A_vi4 ni c_vi4, .slice A_vo4 no c_vo4]) Tsize_26 rfl rfl rfl (.there _ (.there _ (.there _ (.there _ (.there _ (.there _ (.there _ (.there _ (.here _))))))))) rfl ?_)
     refine ⟨((Weak.selF [6, 5]).trans (Some'.weak (.takeEq (by first | rfl | simp) (.take (.nil _))))), ?_⟩
     refine DW.step (i := 3) (by kernel_rfl) rfl rfl (OpStep.storeAll (us := [.slice A_vx1 a c_vx1, .slice A_vy2 b c_vy2]) Tsize_29 rfl rfl rfl (.there _ (.there _ (.there _ (.there _ (.there _ (.there _ (.there _ (.here _)))))))) rfl ?_)
     refine ⟨((Weak.selF [6, 5]).trans (Some'.weak (.takeEq (by first | rfl | simp) (.take (.nil _))))), ?_⟩
     refine DW.done (by kernel_rfl) ?_
     refine Run.ret ?_
     refine ⟨.tuple #[.agg #[.int .i64 (((N : Nat) : Int)), .slice A_ve4 m c_ve4, .slice A_vi4 ni c_vi4, .slice A_vo4 no c_vo4], .agg #[.slice A_vx1 a c_vx1, .slice A_vy2 b c_vy2]], [.own (.slice A_ve4 m c_ve4) 80 2 m (ints es), .own (.slice A_vi4 ni c_vi4) 3 1 ni (ints is), .own (.slice A_vo4 no c_vo4) 3 1 no (ints os), .own (.slice A_vx1 a c_vx1) 3 1 a (ints nx), .own (.slice A_vy2 b c_vy2) 3 1 b (ints ly), .blk bc 64 [vc, .int .i64 (((sc2.1 : Nat) : Int)), .int .u64 (sc2.2)]], Out.cells2 (cs := [.int .i64 (((N : Nat) : Int)), .slice A_ve4 m c_ve4, .slice A_vi4 ni c_vi4, .slice A_vo4 no c_vo4]) (ds := [.slice A_vx1 a c_vx1, .slice A_vy2 b c_vy2]) rfl Tagg_26 rfl (Cells.blk (.tail _ (.tail _ (.tail _ (.tail _ (.tail _ (.tail _ (.tail _ (.tail _ (List.Mem.head _))))))))) ⟨rfl, rfl, rfl, rfl, trivial⟩) Tagg_29 rfl (Cells.blk (.tail _ (.tail _ (.tail _ (.tail _ (.tail _ (.tail _ (.tail _ (List.Mem.head _)))))))) ⟨rfl, rfl, trivial⟩), (Some'.weak (.take (.take (.take (.take (.take (.skip (.skip (.skip (.skip (.take (.nil _)))))))))))), ?_⟩
     exact ⟨_, _, _, _, _, _, _, _, _, _, _, _, _, _, _, _, _, ⟨hgr, by omega, hsm⟩, rfl, rfl⟩

set_option maxHeartbeats 1000000 in
set_option maxRecDepth 20000 in
theorem DrawIsCausalFlow_spec {va : Value} {n : Nat} {cs : List Int} {w : World} (ha : Sl w va 1 n (u8s cs)) (hby : ∀ x ∈ cs, 0 ≤ x ∧ x < 256) : Calls Try.prog 8 #[va] w (Post No w fun v H => ∃ (N m ni no a b : Nat) (ve vi vo vx vy : Value) (es is os nx ly : List Int), ((N ≤ 11 ∧ m ≤ 101 ∧ ni ≤ 12 ∧ no ≤ 12) ∧ ∀ x ∈ es, 0 ≤ x ∧ x ≤ 100) ∧ v = .tuple #[.agg #[.int .i64 (N : Nat), ve, vi, vo], .agg #[vx, vy]] ∧ H = [.own ve 80 2 m (ints es), .own vi 3 1 ni (ints is), .own vo 3 1 no (ints os), .own vx 3 1 a (ints nx), .own vy 3 1 b (ints ly)]) := by
 obtain ⟨Ac, cc, rfl, _, _⟩ := ha.form0
 refine enter (n := 12) (args := [.slice Ac n cc]) Try.func8 rfl rfl (St.empty _ _) ?_
 refine Run.sr ?_
 refine Run.step rfl (OpStep.alloc (zs := [.int .i64 0, .slice none 0 0, .slice none 0 0, .slice none 0 0]) Tzero_26 fun b1 => ?_)
 refine Run.step rfl (OpStep.alloc (zs := [.slice none 0 0, .slice none 0 0]) Tzero_29 fun b2 => ?_)
 refine Run.dsr ?_
 refine Run.p (.slice Ac n cc) rfl rfl ?_
 refine Run.y (.agg #[.slice Ac n cc, .int .i64 0, .int .u64 0]) rfl (OpY.build (cs := [.slice Ac n cc, .int .i64 0, .int .u64 0]) (by kernel_rfl)) ?_
 refine Run.step rfl (OpStep.box (us := [.slice Ac n cc, .int .i64 0, .int .u64 0]) rfl fun b3 => ?_)
 refine Run.p (.pointer (some ⟨b3, 0, none⟩)) rfl rfl ?_
 refine Run.dsr ?_
 refine Run.p (.pointer (some ⟨b3, 0, none⟩)) rfl rfl ?_
 refine Run.step rfl (OpStep.callM (H1 := [.blk b3 64 [.slice Ac n cc, .int .i64 0, .int .u64 0]]) (H2 := [.blk b2 29 [.slice none 0 0, .slice none 0 0], .blk b1 26 [.int .i64 0, .slice none 0 0, .slice none 0 0, .slice none 0 0]]) (vs := [.pointer (some ⟨b3, 0, none⟩)]) (caps := []) Tcall_34 rfl rfl (Weak.refl _) (fun w hs => flowed_spec (s := (0, 0)) (by decide) (Cur.top ha hby hs (.head _)) (hs.sub (List.sublist_append_left _ _)).self) ?_)
 rintro _ _ ⟨N, m, ni, no, a, b, ve, vi, vo, vx, vy, es, is, os, nx, ly, sg, ⟨hgr, hsg, hsm⟩, rfl, rfl⟩
 show Run _ _ (putF _ _ _ (.tuple #[.agg #[.int .i64 (((N : Nat) : Int)), ve, vi, vo], .agg #[vx, vy]])) [.own ve 80 2 m (ints es), .own vi 3 1 ni (ints is), .own vo 3 1 no (ints os), .own vx 3 1 a (ints nx), .own vy 3 1 b (ints ly), .blk b3 64 [.slice Ac n cc, .int .i64 (((sg.1 : Nat) : Int)), .int .u64 (sg.2)], .blk b2 29 [.slice none 0 0, .slice none 0 0], .blk b1 26 [.int .i64 0, .slice none 0 0, .slice none 0 0, .slice none 0 0]]
 refine Run.p (.agg #[.int .i64 (((N : Nat) : Int)), ve, vi, vo]) rfl rfl ?_
 refine Run.p (.agg #[vx, vy]) rfl rfl ?_
 refine Run.formOwn (.head _) (fun A_ve1 c_ve1 hv hcapc_ve1 hmaxc_ve1 => ?_) (fun _ _ _ => ⟨nofun, nofun, nofun⟩)
 subst hv
 refine Run.formOwn (.tail _ (List.Mem.head _)) (fun A_vi1 c_vi1 hv hcapc_vi1 hmaxc_vi1 => ?_) (fun _ _ _ => ⟨nofun, nofun, nofun⟩)
 subst hv
 refine Run.formOwn (.tail _ (.tail _ (List.Mem.head _))) (fun A_vo1 c_vo1 hv hcapc_vo1 hmaxc_vo1 => ?_) (fun _ _ _ => ⟨nofun, nofun, nofun⟩)
 subst hv
 refine Run.step rfl (OpStep.storeAll (us := [.int .i64 (((N : Nat) : Int)), .slice A_ve1 m c_ve1, .slice A_vi1 ni c_vi1, .slice A_vo1 no c_vo1]) Tsize_26 rfl rfl rfl (.there _ (.there _ (.there _ (.there _ (.there _ (.there _ (.there _ (.here _)))))))) rfl ?_)
 refine Run.formOwn (.tail _ (.tail _ (.tail _ (List.Mem.head _)))) (fun A_vx1 c_vx1 hv hcapc_vx1 hmaxc_vx1 => ?_) (fun _ _ _ => ⟨nofun, nofun, nofun⟩)
 subst hv
 refine Run.formOwn (.tail _ (.tail _ (.tail _ (.tail _ (List.Mem.head _))))) (fun A_vy1 c_vy1 hv hcapc_vy1 hmaxc_vy1 => ?_) (fun _ _ _ => ⟨nofun, nofun, nofun⟩)
 subst hv
 refine Run.step rfl (OpStep.storeAll (us := [.slice A_vx1 a c_vx1, .slice A_vy1 b c_vy1]) Tsize_29 rfl rfl rfl (.there _ (.there _ (.there _ (.there _ (.there _ (.there _ (.here _))))))) rfl ?_)
 refine Run.done ?_
 refine Run.ret ?_
 refine ⟨.tuple #[.agg #[.int .i64 (((N : Nat) : Int)), .slice A_ve1 m c_ve1, .slice A_vi1 ni c_vi1, .slice A_vo1 no c_vo1], .agg #[.slice A_vx1 a c_vx1, .slice A_vy1 b c_vy1]], [.own (.slice A_ve1 m c_ve1) 80 2 m (ints es), .own (.slice A_vi1 ni c_vi1) 3 1 ni (ints is), .own (.slice A_vo1 no c_vo1) 3 1 no (ints os), .own (.slice A_vx1 a c_vx1) 3 1 a (ints nx), .own (.slice A_vy1 b c_vy1) 3 1 b (ints ly)], Out.cells2 (cs := [.int .i64 (((N : Nat) : Int)), .slice A_ve1 m c_ve1, .slice A_vi1 ni c_vi1, .slice A_vo1 no c_vo1]) (ds := [.slice A_vx1 a c_vx1, .slice A_vy1 b c_vy1]) rfl Tagg_26 rfl (Cells.blk (.tail _ (.tail _ (.tail _ (.tail _ (.tail _ (.tail _ (.tail _ (List.Mem.head _)))))))) ⟨rfl, rfl, rfl, rfl, trivial⟩) Tagg_29 rfl (Cells.blk (.tail _ (.tail _ (.tail _ (.tail _ (.tail _ (.tail _ (List.Mem.head _))))))) ⟨rfl, rfl, trivial⟩), (Some'.weak (.take (.take (.take (.take (.take (.nil _))))))), ?_⟩
 exact ⟨_, _, _, _, _, _, _, _, _, _, _, _, _, _, _, _, ⟨hgr, hsm⟩, rfl, rfl⟩

end Go.Proofs.Ytoiaibgcjfgbcaa
