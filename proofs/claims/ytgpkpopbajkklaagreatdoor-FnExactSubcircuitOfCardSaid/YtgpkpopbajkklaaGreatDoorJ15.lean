/- Walks: what the reference tells of a circuit text. -/
import Derived.Test.YtgpkpopbajkklaaGreatDoorJ14
import Derived.Test.YtgpkpopbajkklaaGreatDoorProg
import Derived.Test.YtgpkpopbajkklaaGreatDoorRows
import Derived.OpenShut
import Derived.ProofKit
import Derived.Lib.LaidTab
import Derived.MakeChecks
import Derived.LaidMore
import Derived.Lay
import Derived.Handed
import Derived.OpenVars
set_option linter.unusedSimpArgs false
set_option linter.unusedVariables false
namespace Go.Proofs.YtgpkpopbajkklaaGreatDoor
open Go Go.RowKit
namespace TybT
theorem Tagg_24 : aggOf Tryz.prog 24 = some 2 := by kernel_rfl
theorem Tagg_50 : aggOf Tryz.prog 50 = some 4 := by kernel_rfl
theorem Tcall_29 : callable Tryz.prog 29 = true := by kernel_rfl
theorem Tcall_48 : callable Tryz.prog 48 = true := by kernel_rfl
theorem Tfo_50_0 : fieldOff Tryz.prog 50 0 = some 0 := by kernel_rfl
theorem Tfo_50_1 : fieldOff Tryz.prog 50 1 = some 1 := by kernel_rfl
theorem Tfo_54_0 : fieldOff Tryz.prog 54 0 = some 0 := by kernel_rfl
theorem Tfo_54_1 : fieldOff Tryz.prog 54 1 = some 1 := by kernel_rfl
theorem Tfo_77_2 : fieldOff Tryz.prog 77 2 = some 4 := by kernel_rfl
theorem Tone_22 : oneOf Tryz.prog 22 = true := by kernel_rfl
theorem Tone_3 : oneOf Tryz.prog 3 = true := by kernel_rfl
theorem Tone_51 : oneOf Tryz.prog 51 = true := by kernel_rfl
theorem Tone_52 : oneOf Tryz.prog 52 = true := by kernel_rfl
theorem Tone_9 : oneOf Tryz.prog 9 = true := by kernel_rfl
theorem Tsize_24 : (Tryz.prog.info? 24).map (·.size) = some 2 := by kernel_rfl
theorem Tsize_50 : (Tryz.prog.info? 50).map (·.size) = some 4 := by kernel_rfl
theorem Tsl_22 : sliceOf Tryz.prog 22 = some (69, 3, 24, [.int .i64 0, .int .i64 0, .int .i64 0]) := by kernel_rfl
theorem Tsl_40 : sliceOf Tryz.prog 40 = some (9, 1, 16, [sv ([])]) := by kernel_rfl
theorem Tsl_46 : sliceOf Tryz.prog 46 = some (50, 4, 40, [sv ([]), .int .i64 0, .int .i64 0, .int .i64 0]) := by kernel_rfl
theorem Tsl_51 : sliceOf Tryz.prog 51 = some (77, 7, 88, [sv ([]), .int .i64 0, .int .i64 0, .int .i64 0, .int .i64 0, sv ([]), .slice none 0 0]) := by kernel_rfl
theorem Tsl_52 : sliceOf Tryz.prog 52 = some (22, 1, 24, [.slice none 0 0]) := by kernel_rfl
theorem Tzero_24 : zeroOf Tryz.prog 24 = some [.int .i64 0, .slice none 0 0] := by kernel_rfl
theorem Tzero_50 : zeroOf Tryz.prog 50 = some [sv ([]), .int .i64 0, .int .i64 0, .int .i64 0] := by kernel_rfl
end TybT
open TybT
theorem rt_bad {s : Bs} (h : (rt s).1.1 ≠ 0) : (rt s).2 = (0, [], []) := by
  unfold rt at h ⊢
  split
  · rename_i h2; rw [if_pos h2] at h; exact absurd rfl h
  · rfl
theorem gq_formed {w : World} {L : List GV} (h : GQ w L) : ∀ k, k < L.length → ∃ A c, (gvx L k).2 = .slice A (gvx L k).1.length c ∧ (gvx L k).1.length ≤ c ∧ c ≤ maxLen := fun k hk => by
  obtain ⟨A, c, h1, h2, h3⟩ := (h k hk).form0
  exact ⟨A, c, h1, h2, h3⟩
set_option maxHeartbeats 4000000 in
set_option maxRecDepth 20000 in
theorem sSubcircuitOf_spec {s nm : Bs} {w : World} : Calls Tryz.prog 8 #[sv s, sv nm] w (Post No w fun v H => ∃ vg, v = .tuple #[.agg #[.int .i64 (scQ (rt s).2.2.2 nm).1, vg], .bool (decide (0 ≤ fdJ (rt s).2.2.2 (rt s).2.2.2.length nm))] ∧ H = [.own vg 69 3 (scQ (rt s).2.2.2 nm).2.length (ints (fl (scQ (rt s).2.2.2 nm).2))]) := by
 refine enter (n := 47) (args := [sv s, sv nm]) Tryz.func8 rfl rfl (St.empty _ _) ?_
 refine Run.sr ?_
 refine Run.step rfl (OpStep.alloc (zs := [.int .i64 0, .slice none 0 0]) Tzero_24 fun b1 => ?_)
 refine Run.p (.bool false) rfl rfl ?_
 refine Run.dsr ?_
 refine Run.p (sv s) rfl rfl ?_
 refine Run.step rfl (OpStep.call (vs := [sv s]) (caps := []) Tcall_29 rfl rfl (fun w hs => l5Check_spec) ?_)
 rintro _ _ ⟨b, vt, vl, vd, L, G, T, rfl, rfl, hck⟩
 show Run _ _ (putF _ _ _ (.tuple #[.pointer (some ⟨b, 0, none⟩), vt, .int .i64 ((rt s).1.1), .int .i64 ((rt s).1.2)])) [.blk b 54 [vl, vd], .own vl 77 7 (L.length) (rls L), .grp 3 1 (rgr L), .own vd 22 1 (G.length) (gvs G), .grp 69 3 (ggr G), .own vt 50 4 (T.length) (dns T), .blk b1 24 [.int .i64 0, .slice none 0 0]]
 refine Run.p (.tuple #[.pointer (some ⟨b, 0, none⟩), vt, .int .i64 ((rt s).1.1), .int .i64 ((rt s).1.2)]) rfl rfl ?_
 refine Run.p (.pointer (some ⟨b, 0, none⟩)) rfl rfl ?_
 refine Run.p (vt) rfl rfl ?_
 refine Run.p (.int .i64 ((rt s).1.1)) rfl rfl ?_
 refine Run.p (.int .i64 ((rt s).1.2)) rfl rfl ?_
 refine Run.p (.pointer (some ⟨b, 0, none⟩)) rfl rfl ?_
 refine Run.p (vt) rfl rfl ?_
 refine Run.p (.int .i64 ((rt s).1.1)) rfl rfl ?_
 refine Run.p (.int .i64 ((rt s).1.2)) rfl rfl ?_
 refine Run.done ?_
 refine Run.seq ?_
 refine Run.sr ?_
 refine Run.p (.int .i64 ((rt s).1.1)) rfl rfl ?_
 refine Run.p (.bool (((rt s).1.1) != 0)) rfl rfl ?_
 refine Run.done ?_
 refine Run.cond (b := ((rt s).1.1) != 0) rfl (fun h20 => ?_) (fun h20 => ?_)
 ·have p20 := h20; try simp only [bs] at p20
  have hb := rt_bad p20
  refine Run.sr ?_
  refine Run.y (.agg #[.int .i64 0, .slice none 0 0]) rfl (OpY.build (cs := [.int .i64 0, .slice none 0 0]) (by kernel_rfl)) ?_
  refine Run.step rfl (OpStep.storeAll (us := [.int .i64 0, .slice none 0 0]) Tsize_24 rfl rfl rfl (.there _ (.there _ (.there _ (.there _ (.there _ (.there _ (.here _))))))) rfl ?_)
  refine Run.p (.bool false) rfl rfl ?_
  refine Run.done ?_
  refine Run.ret ?_
  refine ⟨.tuple #[.agg #[.int .i64 0, .slice none 0 0], .bool false], [.own (.slice none 0 0) 69 3 (([] : List G3).length) (ints (fl ([] : List G3)))], Out.cell2 (cs := [.int .i64 0, .slice none 0 0]) rfl Tagg_24 rfl (Cells.blk (.tail _ (.tail _ (.tail _ (.tail _ (.tail _ (.tail _ (List.Mem.head _))))))) ⟨rfl, rfl, trivial⟩) rfl, ((Weak.nilOwn 69 3).trans (Some'.weak (.takeEq (by first | rfl | simp [fl, ints]) (.nil _)))), ?_⟩
  first | (rw [hQ, hsc, hfd]; exact ⟨_, rfl, rfl⟩) | (rw [hb]; exact ⟨_, rfl, rfl⟩)
 ·have p20 := h20; try simp only [bs] at p20
  have hc := hck (by simpa using p20)
  have hTn : T.length ≤ 16777216 := by rw [hc.tlen]; exact rt_defs s
  obtain ⟨Q, hQ⟩ : ∃ Q, (rt s).2.2.2 = Q := ⟨_, rfl⟩
  have hQl : Q.length = T.length := by rw [← hQ, hc.tlen]
  have hGl := hc.glen
  refine Run.know _ (fun w hs => gq_formed (hs.gq (.tail _ (.tail _ (.tail _ (.tail _ (List.Mem.head _))))))) (fun hform => ?_) (fun _ _ _ => ⟨nofun, nofun, nofun⟩)
  refine Run.skip ?_
  refine Run.seq ?_
  refine Run.sr ?_
  refine Run.p (vt) rfl rfl ?_
  refine Run.formOwn (.tail _ (.tail _ (.tail _ (.tail _ (.tail _ (List.Mem.head _)))))) (fun A_vt1 c_vt1 hv hcapc_vt1 hmaxc_vt1 => ?_) (fun _ _ _ => ⟨nofun, nofun, nofun⟩)
  subst hv
  refine Run.y (.int .i64 (((T.length : Nat) : Int))) rfl (OpY.len Tsl_46 rfl) ?_
  refine Run.p (.int .i64 0) rfl rfl ?_
  refine Run.done ?_
  refine Run.block ?_
  refine Run.loop (ι := Nat) [5, 10, 11, 24, 25, 26, 27, 28, 29, 30, 31, 32, 33, 34, 35, 36, 37, 38, 39, 40, 41, 42, 43, 44, 45] (fun k => [(24, .int .i64 (((k : Nat) : Int)))]) (fun k => [.blk b 54 [vl, vd], .own vl 77 7 (L.length) (rls L), .grp 3 1 (rgr L), .own vd 22 1 (G.length) (gvs G), .grp 69 3 (ggr G), .own (.slice A_vt1 (T.length) c_vt1) 50 4 (T.length) (dns T), .blk b1 24 [.int .i64 0, .slice none 0 0]]) (fun k => k ≤ T.length ∧ ∀ i, i < k → ((dnx T i).nm == nm) = false) (fun k => T.length - k) 0 ?_ ?_ ?_ ?_
  ·exact ⟨Nat.zero_le _, fun i hi => by omega⟩
  ·exact ⟨rfl, trivial⟩
  ·exact (Some'.weak (.take (.take (.take (.take (.take (.take (.take (.nil _)))))))))
  ·rintro k fr hinv
   show Run _ _ (over _ _ [(24, .int .i64 (((k : Nat) : Int)))] fr) [.blk b 54 [vl, vd], .own vl 77 7 (L.length) (rls L), .grp 3 1 (rgr L), .own vd 22 1 (G.length) (gvs G), .grp 69 3 (ggr G), .own (.slice A_vt1 (T.length) c_vt1) 50 4 (T.length) (dns T), .blk b1 24 [.int .i64 0, .slice none 0 0]]
   try dsimp only at hinv
   refine Run.sr ?_
   refine Run.p (.bool (decide ((((k : Nat) : Int)) < (((T.length : Nat) : Int))))) rfl rfl ?_
   refine Run.done ?_
   refine Run.seq ?_
   refine Run.cond (b := decide ((((k : Nat) : Int)) < (((T.length : Nat) : Int)))) rfl (fun h25 => ?_) (fun h25 => ?_)
   ·have p25 := h25; try simp only [bs] at p25
    have hltk : k < T.length := by omega
    refine Run.openOwn (.tail _ (.tail _ (.tail _ (.tail _ (.tail _ (List.Mem.head _)))))) (by omega) (fun gt cg hvgt hcapgt _ => ?_) (fun _ _ _ => ⟨nofun, nofun, nofun⟩)
    injection hvgt with hAgt _ hcgt; subst hAgt; subst hcgt
    refine Run.skip ?_
    refine Run.seq ?_
    refine Run.block ?_
    refine Run.sr ?_
    refine Run.p (.int .i64 (((k : Nat) : Int))) rfl rfl ?_
    refine Run.y (.pointer (some ⟨gt, k * 4, none⟩)) rfl (OpY.index (kk := k) Tsl_46 rfl rfl (by omega) (by omega) (by first | rfl | omega)) ?_
    refine Run.y (.agg #[sv ((dnx T k).nm), .int .i64 ((dnx T k).n), .int .i64 ((dnx T k).a), .int .i64 ((dnx T k).z)]) rfl (OpY.loadN (cs := [sv ((dnx T k).nm), .int .i64 ((dnx T k).n), .int .i64 ((dnx T k).a), .int .i64 ((dnx T k).z)]) Tagg_50 rfl (Cells.own0 (.tail _ (.tail _ (.tail _ (.tail _ (.tail _ (List.Mem.head _)))))) (dns_pre0 (k := k) (by omega)))) ?_
    refine Run.step rfl (OpStep.alloc (zs := [sv ([]), .int .i64 0, .int .i64 0, .int .i64 0]) Tzero_50 fun b2 => ?_)
    refine Run.p (.int .i64 (((k : Nat) : Int))) rfl rfl ?_
    refine Run.step rfl (OpStep.storeAll (us := [sv ((dnx T k).nm), .int .i64 ((dnx T k).n), .int .i64 ((dnx T k).a), .int .i64 ((dnx T k).z)]) Tsize_50 rfl rfl rfl (.here _) rfl ?_)
    refine Run.dsr ?_
    refine Run.y (.pointer (some ⟨b2, 0, none⟩)) rfl (OpY.fieldAddr Tfo_50_0 rfl rfl) ?_
    refine Run.y (sv ((dnx T k).nm)) rfl (OpY.load1 Tone_9 rfl (Cells.blk (.head _) ⟨rfl, trivial⟩)) ?_
    refine Run.p (sv nm) rfl rfl ?_
    refine Run.y (.bool (((dnx T k).nm) == nm)) rfl (OpY.eqS rfl rfl) ?_
    refine Run.done ?_
    refine Run.cond (b := ((dnx T k).nm) == nm) rfl (fun h32 => ?_) (fun h32 => ?_)
    ·have p32 := h32; try simp only [bs] at p32
     refine Run.seq ?_
     obtain ⟨hd1, hd2, hd3⟩ := hc.defs k hltk
     rw [hQ] at hd1 hd2 hd3
     have hfd : fdJ Q Q.length nm = ((k : Nat) : Int) := findI_hit (fun i hi => by rw [← hQ, ← (hc.defs i (by omega)).1]; exact hinv.2 i hi) (by rw [← hd1]; exact h32) (by omega)
     have hsc : scQ Q nm = ((dnx T k).n, (dfx Q k).gs) := by rw [scQ, if_pos (by omega), hfd, Int.toNat_natCast, hd2]
     obtain ⟨Ak, ck, hgv, _, _⟩ := hform k (by omega)
     obtain ⟨nk, hnk⟩ : ∃ q, (gvx G k).1.length = q := ⟨_, rfl⟩
     rw [hnk] at hgv
     have hk4 : nk ≤ 400 := by rw [← hnk, gvx_gs]; exact hc.m400 k
     have hgl : (dfx Q k).gs.length = nk := by rw [← hd3]; exact hnk
     refine Run.openOwn (.tail _ (.tail _ (.tail _ (.tail _ (List.Mem.head _))))) (by omega) (fun gd cd2 hvgd hcapgd _ => ?_) (fun _ _ _ => ⟨nofun, nofun, nofun⟩)
     subst hvgd
     refine Run.heldB (base := [.blk b2 50 [sv ((dnx T k).nm), .int .i64 ((dnx T k).n), .int .i64 ((dnx T k).a), .int .i64 ((dnx T k).z)], .blk b 54 [vl, .slice (some ⟨gd, 0, none⟩) (G.length) cd2], .own (.slice (some ⟨gd, 0, none⟩) (G.length) cd2) 22 1 (G.length) (gvs G)]) (by kernel_rfl) ?_
     refine DW.take (i := 0) (v := .pointer (some ⟨b2, 1, none⟩)) rfl (by kernel_rfl) (by kernel_rfl) (by kernel_rfl) (fun _ _ _ h => h) (Some'.weak (.take (.take (.skip (.skip (.take (.nil _))))))) rfl (OpY.fieldAddr Tfo_50_1 rfl rfl) ?_
     refine DW.take (i := 1) (v := .int .i64 ((dnx T k).n)) rfl (by kernel_rfl) (by kernel_rfl) (by kernel_rfl) (fun _ _ _ h => h) (Some'.weak (.take (.take (.skip (.skip (.take (.nil _))))))) rfl (OpY.load1 Tone_3 rfl (Cells.blk (.head _) ⟨rfl, trivial⟩)) ?_
     refine DW.take (i := 3) (v := .pointer (some ⟨b, 0, none⟩)) rfl (by kernel_rfl) (by kernel_rfl) (by kernel_rfl) (fun _ _ _ h => h) (Some'.weak (.take (.take (.skip (.skip (.take (.nil _))))))) rfl (OpY.pure rfl) ?_
     refine DW.take (i := 4) (v := .pointer (some ⟨b, 0, none⟩)) rfl (by kernel_rfl) (by kernel_rfl) (by kernel_rfl) (fun _ _ _ h => h) (Some'.weak (.take (.take (.skip (.skip (.take (.nil _))))))) rfl (OpY.nilCheck rfl) ?_
     refine DW.take (i := 5) (v := .pointer (some ⟨b, 1, none⟩)) rfl (by kernel_rfl) (by kernel_rfl) (by kernel_rfl) (fun _ _ _ h => h) (Some'.weak (.take (.take (.skip (.skip (.take (.nil _))))))) rfl (OpY.fieldAddr Tfo_54_1 rfl rfl) ?_
     refine DW.take (i := 6) (v := .slice (some ⟨gd, 0, none⟩) (G.length) cd2) rfl (by kernel_rfl) (by kernel_rfl) (by kernel_rfl) (fun _ _ _ h => h) (Some'.weak (.take (.take (.skip (.skip (.take (.nil _))))))) rfl (OpY.load1 Tone_52 rfl (Cells.blk (.tail _ (List.Mem.head _)) ⟨rfl, trivial⟩)) ?_
     refine DW.take (i := 7) (v := .int .i64 (((k : Nat) : Int))) rfl (by kernel_rfl) (by kernel_rfl) (by kernel_rfl) (fun _ _ _ h => h) (Some'.weak (.take (.take (.skip (.skip (.take (.nil _))))))) rfl (OpY.pure rfl) ?_
     refine DW.take (i := 8) (v := .pointer (some ⟨gd, k, none⟩)) rfl (by kernel_rfl) (by kernel_rfl) (by kernel_rfl) (fun _ _ _ h => h) (Some'.weak (.take (.take (.skip (.skip (.take (.nil _))))))) rfl (OpY.index (kk := k) Tsl_52 rfl rfl (by omega) (by omega) (by first | rfl | omega)) ?_
     refine DW.take (i := 9) (v := .slice Ak nk ck) rfl (by kernel_rfl) (by kernel_rfl) (by kernel_rfl) (fun _ _ _ h => h) (Some'.weak (.take (.take (.skip (.skip (.take (.nil _))))))) rfl (OpY.load1 Tone_22 rfl (Cells.own0 (.tail _ (.tail _ (List.Mem.head _))) (gvs_pre (by omega) hgv))) ?_
     refine DW.step (i := 2) (by kernel_rfl) rfl rfl (OpStep.buildSlice (us := []) Tsl_22 (by decide) (by decide) rfl rfl fun b3 => ?_)
     refine ⟨(Some'.weak (.skip (.take (.take (.skip (.skip (.take (.nil _)))))))), ?_⟩
     refine DW.step (i := 10) (by kernel_rfl) rfl rfl (OpStep.append (H1 := []) (H2 := [.blk b2 50 [sv ((dnx T k).nm), .int .i64 ((dnx T k).n), .int .i64 ((dnx T k).a), .int .i64 ((dnx T k).z)], .blk b 54 [vl, .slice (some ⟨gd, 0, none⟩) (G.length) cd2], .own vl 77 7 (L.length) (rls L), .grp 3 1 (rgr L), .own (.slice (some ⟨gd, 0, none⟩) (G.length) cd2) 22 1 (G.length) (gvs G), .grp 69 3 (ggr G), .own (.slice (some ⟨gt, 0, none⟩) (T.length) c_vt1) 50 4 (T.length) (dns T), .blk b1 24 [.int .i64 0, .slice none 0 0]]) (v := .slice (some ⟨b3, 0, none⟩) 0 0) (u := .slice Ak nk ck) (n := 0) (m := nk) (xs := []) (ys := ints (fl (gvx G k).1)) Tsl_22 (by decide) rfl rfl rfl rfl (fun w hs => (by have h := hs.gq (.tail _ (.tail _ (.tail _ (.tail _ (.tail _ (.tail _ (List.Mem.head _))))))) k (by omega); rw [hgv, hnk] at h; exact h)) (by exact ints_all _) (by omega) (by simp only [maxLen]; omega) fun av1 hnav1 => ?_)
     refine DW.weakS (H' := [.own av1 69 3 ((dfx Q k).gs.length) (ints (fl (dfx Q k).gs)), .blk b2 50 [sv ((dnx T k).nm), .int .i64 ((dnx T k).n), .int .i64 ((dnx T k).a), .int .i64 ((dnx T k).z)], .blk b 54 [vl, .slice (some ⟨gd, 0, none⟩) (G.length) cd2], .own vl 77 7 (L.length) (rls L), .grp 3 1 (rgr L), .own (.slice (some ⟨gd, 0, none⟩) (G.length) cd2) 22 1 (G.length) (gvs G), .grp 69 3 (ggr G), .own (.slice (some ⟨gt, 0, none⟩) (T.length) c_vt1) 50 4 (T.length) (dns T), .blk b1 24 [.int .i64 0, .slice none 0 0]]) (Some'.weak (.takeEq (by rw [hd3, hgl]; simp) (.take (.take (.take (.take (.take (.take (.take (.take (.nil _))))))))))) ?_
     refine ⟨(Some'.weak (.skip (.take (.take (.skip (.skip (.take (.nil _)))))))), ?_⟩
     refine DW.formOwn (.head _) (fun A_av11 c_av11 hv hcapc_av11 hmaxc_av11 => ?_)
     subst hv
     refine DW.take (i := 11) (v := .agg #[.int .i64 ((dnx T k).n), .slice A_av11 ((dfx Q k).gs.length) c_av11]) rfl (by kernel_rfl) (by kernel_rfl) (by kernel_rfl) (fun _ _ _ h => h) (Some'.weak (.skip (.take (.take (.skip (.skip (.take (.nil _)))))))) rfl (OpY.build (cs := [.int .i64 ((dnx T k).n), .slice A_av11 ((dfx Q k).gs.length) c_av11]) (by kernel_rfl)) ?_
     refine DW.step (i := 12) (by kernel_rfl) rfl rfl (OpStep.storeAll (us := [.int .i64 ((dnx T k).n), .slice A_av11 ((dfx Q k).gs.length) c_av11]) Tsize_24 rfl rfl rfl (.there _ (.there _ (.there _ (.there _ (.there _ (.there _ (.there _ (.there _ (.here _))))))))) rfl ?_)
     refine ⟨(Some'.weak (.skip (.take (.take (.skip (.skip (.take (.nil _)))))))), ?_⟩
     refine DW.take (i := 13) (v := .bool true) rfl (by kernel_rfl) (by kernel_rfl) (by kernel_rfl) (fun _ _ _ h => h) (Some'.weak (.skip (.take (.take (.skip (.skip (.take (.nil _)))))))) rfl (OpY.pure rfl) ?_
     refine DW.done (by kernel_rfl) ?_
     refine Run.ret ?_
     refine ⟨.tuple #[.agg #[.int .i64 ((dnx T k).n), .slice A_av11 ((dfx Q k).gs.length) c_av11], .bool true], [.own (.slice A_av11 ((dfx Q k).gs.length) c_av11) 69 3 ((dfx Q k).gs.length) (ints (fl (dfx Q k).gs))], Out.cell2 (cs := [.int .i64 ((dnx T k).n), .slice A_av11 ((dfx Q k).gs.length) c_av11]) rfl Tagg_24 rfl (Cells.blk (.tail _ (.tail _ (.tail _ (.tail _ (.tail _ (.tail _ (.tail _ (.tail _ (List.Mem.head _))))))))) ⟨rfl, rfl, trivial⟩) rfl, (Some'.weak (.take (.nil _))), ?_⟩
     rw [hQ, hsc, hfd]; exact ⟨_, by rw [show decide ((0 : Int) ≤ ((k : Nat) : Int)) = true from decide_eq_true (by omega)], rfl⟩
    ·have p32 := h32; try simp only [bs] at p32
     refine Run.skip ?_
     refine Run.blockEnd ?_
     have hgood : ((dnx T k).nm == nm) = false := h32
     refine Run.region ?_
     refine Run.y (.int .i64 ((((k : Nat) : Int)) + 1)) rfl (OpY.add rfl rfl rfl (by omega) (by omega)) ?_
     refine Run.p (.int .i64 ((((k : Nat) : Int)) + 1)) rfl rfl ?_
     refine Run.done ?_
     refine Run.goal ⟨(by repeat (first | exact Same.refl _ _ | refine Same.put rfl ?_ | refine Same.over rfl rfl ?_)), k + 1, ?_, ?_, ?_, ?_⟩
     ·refine ⟨by omega, ?_⟩
      intro i hi
      rcases Nat.lt_succ_iff_lt_or_eq.1 hi with h | h
      ·exact hinv.2 i h
      ·rw [h]; exact hgood
     ·omega
     ·exact ⟨(by first | rfl | (congr 1; omega) | simp), trivial⟩
     ·exact (Some'.weak (.skip (.take (.takeEq (by first | rfl | simp) (.takeEq (by first | rfl | simp) (.takeEq (by first | rfl | simp) (.takeEq (by first | rfl | simp) (.takeEq (by first | rfl | simp) (.take (.nil _))))))))))
   ·have p25 := h25; try simp only [bs] at p25
    have hkn : k = T.length := by omega
    have hfd : fdJ Q Q.length nm = -1 := findI_none fun i hi => by rw [← hQ, ← (hc.defs i (by omega)).1]; exact hinv.2 i (by omega)
    have hsc : scQ Q nm = (0, []) := by rw [scQ, if_neg (by omega)]
    refine Run.exit rfl ?_
    refine Run.sr ?_
    refine Run.y (.agg #[.int .i64 0, .slice none 0 0]) rfl (OpY.build (cs := [.int .i64 0, .slice none 0 0]) (by kernel_rfl)) ?_
    refine Run.step rfl (OpStep.storeAll (us := [.int .i64 0, .slice none 0 0]) Tsize_24 rfl rfl rfl (.there _ (.there _ (.there _ (.there _ (.there _ (.there _ (.here _))))))) rfl ?_)
    refine Run.p (.bool false) rfl rfl ?_
    refine Run.done ?_
    refine Run.ret ?_
    refine ⟨.tuple #[.agg #[.int .i64 0, .slice none 0 0], .bool false], [.own (.slice none 0 0) 69 3 (([] : List G3).length) (ints (fl ([] : List G3)))], Out.cell2 (cs := [.int .i64 0, .slice none 0 0]) rfl Tagg_24 rfl (Cells.blk (.tail _ (.tail _ (.tail _ (.tail _ (.tail _ (.tail _ (List.Mem.head _))))))) ⟨rfl, rfl, trivial⟩) rfl, ((Weak.nilOwn 69 3).trans (Some'.weak (.takeEq (by first | rfl | simp [fl, ints]) (.nil _)))), ?_⟩
    first | (rw [hQ, hsc, hfd]; exact ⟨_, rfl, rfl⟩) | (rw [hb]; exact ⟨_, rfl, rfl⟩)

end Go.Proofs.YtgpkpopbajkklaaGreatDoor
/- Plain: how many gates are read of a circuit text. -/
set_option linter.unusedSimpArgs false
set_option linter.unusedVariables false
namespace Go.Proofs.YtgpkpopbajkklaaGreatDoor
open Go Go.RowKit
def D401 (D : List Df) : Prop := ∀ d ∈ D, d.gs.length ≤ 401
theorem rn_401 {xs : List Li} : ∀ (f a : Nat) (p : Int × Int) (D : List Df), D401 D → D401 (rn xs f a p D).1
  | 0, a, p, D, h => by rw [rn]; exact h
  | f + 1, a, p, D, h => by
    rw [rn]
    split
    · refine rn_401 f _ _ _ fun d hd => ?_
      rcases List.mem_append.1 hd with hd | hd
      · exact h d hd
      · simp only [List.mem_singleton] at hd; subst hd
        exact bkc_len _ _ _ _ rfl (by simp)
    · exact h
theorem rt_401 (s : Bs) : D401 (rt s).2.2.2 := by
  unfold rt
  split
  · exact rn_401 _ _ _ _ (fun d h => nomatch h)
  · exact fun d h => nomatch h
theorem scQ_len (s nm : Bs) : (scQ (rt s).2.2.2 nm).2.length ≤ 401 := by
  unfold scQ
  split
  · rename_i h
    have hlt := fdJ_lt (D := (rt s).2.2.2) (known := (rt s).2.2.2.length) (nm := nm)
    have hj : (fdJ (rt s).2.2.2 (rt s).2.2.2.length nm).toNat < (rt s).2.2.2.length := by omega
    have e : dfx (rt s).2.2.2 (fdJ (rt s).2.2.2 (rt s).2.2.2.length nm).toNat = (rt s).2.2.2[(fdJ (rt s).2.2.2 (rt s).2.2.2.length nm).toNat] := by simp [dfx, List.getD, hj]
    show (dfx _ _).gs.length ≤ 401
    rw [e]; exact rt_401 s _ (List.getElem_mem hj)
  · simp

end Go.Proofs.YtgpkpopbajkklaaGreatDoor
/- What the laws' rows lay in the world, in the words of the walks. -/
set_option linter.unusedSimpArgs false
set_option linter.unusedVariables false
namespace Go.Proofs.YtgpkpopbajkklaaGreatDoor
open Go Go.RowKit
theorem cells_of_strs {H : Type} {enc : TypeId × Value → H} {P : Program} {w : World} {base : Nat} {spare : Nat → Bool} {held : Bool} {fuel : Nat} {t e : TypeId} {n : Nat} {cs : List Value} {zs : List Bs} {p : List MemPlace}
    (ht : P.underlying t = some (.array n e)) (he : P.underlying e = some .string) (hce : P.cellsOf e = 1) (hct : P.cellsOf t = n)
    (h : DataW.trod enc P w base spare held fuel t cs = some (.agg (zs.map fun z => .lit (.string z)), p)) : cs = strs zs := by
  obtain ⟨xs, m, rfl, hx, hlen, hn, hel⟩ := DataW.trod_array ht h
  simp only [Prod.mk.injEq, DataW.agg.injEq] at hx
  have hzl : zs.length = n := by have := congrArg List.length hx.1; simpa [hn] using this
  refine List.ext_getElem (by rw [hlen, hct, strs_length, hzl]) fun i h1 h2 => ?_
  have hi : i < n := by rw [hlen, hct] at h1; exact h1
  have h3 := hel i hi
  rw [hce, Nat.mul_one, List.getElem?_eq_getElem (by omega)] at h3
  obtain ⟨s, e1, e2, _⟩ := DataW.trod_string he h3
  have e3 : cs[i] = .string s := by
    have : (cs.drop i).take 1 = [cs[i]] := by rw [List.drop_eq_getElem_cons h1]; rfl
    rw [this] at e1; simpa using e1
  have e4 := congrArg (fun l => l[i]?) hx.1
  simp only [List.getElem?_map, List.getElem?_eq_getElem (show i < xs.length by omega), List.getElem?_eq_getElem (show i < zs.length by omega), Option.map_some, Option.some.injEq] at e4
  rw [e2] at e4
  simp only [DataW.lit.injEq, Lit.string.injEq] at e4
  rw [e3, sv_of]
  simp only [strs, List.getElem_map]
  rw [e4]
theorem iface_of_trod {H : Type} {enc : TypeId × Value → H} {P : Program} {w : World} {base : Nat} {spare : Nat → Bool} {held : Bool} {fuel : Nat} {t : TypeId} {cs : List Value} {n : String} {d : DataW H} {p : List MemPlace} {ms : Array (String × TypeId)}
    (ht : P.underlying t = some (.interface ms)) (h : DataW.trod enc P w base spare held fuel t cs = some (.iface n d, p)) : ∃ u x, cs = [.iface u x] := by
  cases fuel with
  | zero => simp [DataW.trod] at h
  | succ m =>
    unfold DataW.trod at h
    rw [ht] at h
    simp only at h
    split at h
    all_goals first | exact ⟨_, _, rfl⟩ | (simp at h; done) | (simp_all; done) | skip
theorem laid_eq : Rows.fnExactCheckTextRow.laid = [("math/bits.deBruijn32tab", Rows.laid_math_bits_deBruijn32tab), ("math/bits.deBruijn64tab", Rows.laid_math_bits_deBruijn64tab), ("internal/strconv.uint64pow10", Rows.laid_internal_strconv_uint64pow10), ("unicode/utf8.acceptRanges", Rows.laid_unicode_utf8_acceptRanges), ("strconv.ErrRange", Rows.laid_strconv_ErrRange), ("strconv.ErrSyntax", Rows.laid_strconv_ErrSyntax), ("loop.example/g00864/impl.gateNames", Rows.laid_loop_example_g00864_impl_gateNames), ("unicode/utf8.first", Rows.laid_unicode_utf8_first)] := rfl
theorem gTab : Tryz.prog.globalNamed "internal/strconv.uint64pow10" = some 1 := by kernel_rfl
theorem gEs : Tryz.prog.globalNamed "strconv.ErrSyntax" = some 7 := by kernel_rfl
theorem gEr : Tryz.prog.globalNamed "strconv.ErrRange" = some 8 := by kernel_rfl
theorem gNm : Tryz.prog.globalNamed "loop.example/g00864/impl.gateNames" = some 0 := by kernel_rfl
theorem names_eq {H : Type} : (Rows.laid_loop_example_g00864_impl_gateNames : DataW H) = .agg (gnames.map fun z => .lit (.string z)) := rfl
theorem tab_eq {H : Type} : (Rows.laid_internal_strconv_uint64pow10 : DataW H) = Lib.tabData .u64 Lib.pow10Tab := rfl
theorem one_cell {W : World} {n : String} {g : Nat} {cs : Array Value} {v : Value} (hg : Tryz.prog.globalNamed n = some g) (hv : W.var? Tryz.prog n = some cs) (hc : cs.toList = [v]) : W.cell? ⟨g, 0, none⟩ = some v := by
  have := World.var?_cell hg hv 0
  rw [Array.eq_one_of_toList hc] at this
  simpa using this
theorem gl_of {W : World} (hl : laidMetH Tryz.prog Rows.fnExactCheckTextRow.laid W) (hs : W.ShapedOpen Tryz.prog) : Gl W := by
  rw [MakeChecks.laidMetH_plain _ _ _ (by kernel_rfl), laid_eq] at hl
  obtain ⟨ps, hV, _, _⟩ := hl
  obtain ⟨g0, t0, c0, f0, p0, q0, _, _, _, _, hV, _⟩ := hV
  obtain ⟨g1, t1, c1, f1, p1, q1, _, _, _, _, hV, _⟩ := hV
  obtain ⟨g2, t2, c2, f2, p2, q2, hg2, ht2, hv2, hd2, hV, _⟩ := hV
  obtain ⟨g3, t3, c3, f3, p3, q3, _, _, _, _, hV, _⟩ := hV
  obtain ⟨g4, t4, c4, f4, p4, q4, hg4, ht4, hv4, hd4, hV, _⟩ := hV
  obtain ⟨g5, t5, c5, f5, p5, q5, hg5, ht5, hv5, hd5, hV, _⟩ := hV
  obtain ⟨g6, t6, c6, f6, p6, q6, hg6, ht6, hv6, hd6, _, _⟩ := hV
  obtain rfl := Option.some.inj (gTab.symm.trans hg2)
  obtain rfl := Option.some.inj (gEr.symm.trans hg4)
  obtain rfl := Option.some.inj (gEs.symm.trans hg5)
  obtain rfl := Option.some.inj (gNm.symm.trans hg6)
  obtain rfl := Option.some.inj ((show (Tryz.prog.globals[1]?).map (·.type) = some 145 by kernel_rfl).symm.trans ht2)
  obtain rfl := Option.some.inj ((show (Tryz.prog.globals[8]?).map (·.type) = some 155 by kernel_rfl).symm.trans ht4)
  obtain rfl := Option.some.inj ((show (Tryz.prog.globals[7]?).map (·.type) = some 155 by kernel_rfl).symm.trans ht5)
  obtain rfl := Option.some.inj ((show (Tryz.prog.globals[0]?).map (·.type) = some 125 by kernel_rfl).symm.trans ht6)
  refine ⟨?_, ?_, ?_, Tryz.laysM146.s1_3 W hs, ?_⟩
  · rw [tab_eq] at hd2
    unfold Lib.TabIs
    rw [hv2, ← Lib.cells_of_tab Tryz.underlying145 Tryz.underlying71 (by kernel_rfl) (by kernel_rfl) hd2]
  · obtain ⟨u, x, hc⟩ := iface_of_trod Tryz.underlying155 hd5
    exact ⟨u, x, one_cell gEs hv5 hc⟩
  · obtain ⟨u, x, hc⟩ := iface_of_trod Tryz.underlying155 hd4
    exact ⟨u, x, one_cell gEr hv4 hc⟩
  · rw [names_eq] at hd6
    have hc := cells_of_strs Tryz.underlying125 Tryz.underlying9 (by kernel_rfl) (by kernel_rfl) hd6
    have hcell : ∀ (j : Nat) u, (strs gnames)[j]? = some u → W.cell? ⟨0, j, none⟩ = some u := fun j u hj => by
      have := World.var?_cell gNm hv6 j
      rw [this, ← hj, ← hc, Array.getElem?_toList]
    exact ⟨rfl, _, _, rfl, by decide, by decide, fun _ => ⟨_, 0, rfl, Lib.lt_of_cell (hcell 0 _ rfl), fun j u hj => by rw [Nat.zero_add]; exact hcell j u hj⟩⟩
/-- The kit's wrap with a condition on the world, the world's shape kept. -/
theorem rih_and_shaped {H : Type} {enc : TypeId × Value → H} {a : Assume} {C : Checked} {os : Os} {f : FuncId} {fn : Func} {s : ChangeSpec} {conds : List PathCond} {apart fresh handsOn again : Bool} {X : World → Array Value → Prop}
    (hX : ∀ (w w' : World) (args : Array Value), w.heap = w'.heap → X w args → X w' args)
    (own : ownKnob C.prog.godebug = none) (started : os.Started) (noInit : C.prog.inits.idxOf? f = none) (hfn : C.prog.funcs[f]? = some fn)
    (witness : ∃ (w : World) (tape : Tape) (i : Input), w.os = os ∧ (w.forCall tape i).Shaped C.prog ∧ i.vars = [] ∧ Input.okWide C.prog (w.forCall tape i) .any w.heap.size f i ∧
      ((s.pre enc C.prog fn conds apart (w.forCall tape i).memory i.args ∧ X (w.forCall tape i).memory i.args) ∧ sizedMet enc C.prog fn (OpenSpec.ofChange s) apart (w.forCall tape i).memory i.args) ∧ a.holds C.prog (lone (Frame.enter C.prog f i.args .normal) [] (w.forCall tape i)))
    (contract : ∀ (W : World) (base : Nat) (args : Array Value) (ds gs : List (DataW H)) (before : List MemPlace),
      (∀ (j : Nat) t v, fn.params[j]? = some t → args[j]? = some v → Value.okWide C.prog W .any base t v) →
      DataW.Whole enc C.prog fn.params.toList s.vars apart W args.toList ds gs before → X W args → W.ShapedOpen C.prog →
      Calls C.prog f args W fun e W' => ∃ v, e = .returned v ∧ s.post enc C.prog fn apart fresh handsOn again W args v W') :
    ReturnsInHanded a C os f .any (fun w args => (s.pre enc C.prog fn conds apart w args ∧ X w args) ∧ sizedMet enc C.prog fn (OpenSpec.ofChange s) apart w args) (s.post enc C.prog fn apart fresh handsOn again) := by
  refine returnsInHanded_of_calls own started noInit witness ?_
  intro w tape i _ hsh _ hok hpre hholds
  obtain ⟨_, _, _, fn', hfn', _, _, _, _, hval⟩ := hok
  have e : fn' = fn := Option.some.inj (hfn'.symm.trans hfn)
  subst e
  obtain ⟨⟨⟨ds, gs, before, hw, hc⟩, hx⟩, hz⟩ := hpre
  have hw' := DataW.Whole.of_heap (w' := w.forCall tape i) (by rfl) hw
  refine (contract (w.forCall tape i) w.heap.size i.args ds gs before hval hw' (hX _ _ _ (by rfl) hx) hsh).mono fun e W' ⟨v, he, hp⟩ => ?_
  subst he
  exact ChangeSpec.post_blind hp

end Go.Proofs.YtgpkpopbajkklaaGreatDoor
/- The walk of the law FnExactSubcircuitOf. -/
set_option linter.unusedSimpArgs false
set_option linter.unusedVariables false
namespace Go.Proofs.YtgpkpopbajkklaaGreatDoor
open Go Go.RowKit
namespace L55T
theorem Tagg_24 : aggOf Tryz.prog 24 = some 2 := by kernel_rfl
theorem Tbool_4 : Tryz.prog.underlying 4 = some .bool := by kernel_rfl
theorem Tcall_10 : callable Tryz.prog 10 = true := by kernel_rfl
theorem Tcall_11 : callable Tryz.prog 11 = true := by kernel_rfl
theorem Tcall_12 : callable Tryz.prog 12 = true := by kernel_rfl
theorem Tcall_8 : callable Tryz.prog 8 = true := by kernel_rfl
theorem Tcall_9 : callable Tryz.prog 9 = true := by kernel_rfl
theorem Tsize_24 : (Tryz.prog.info? 24).map (·.size) = some 2 := by kernel_rfl
theorem Tstr_9 : strT Tryz.prog 9 = true := by kernel_rfl
theorem Tzero_24 : zeroOf Tryz.prog 24 = some [.int .i64 0, .slice none 0 0] := by kernel_rfl
end L55T
open L55T
set_option maxHeartbeats 1000000 in
set_option maxRecDepth 20000 in
theorem law_spec {s : Bs} {nm : Bs} {w : World} (hg : Gl w) (sl : s.length ≤ 9223372036854775807) (nml : nm.length ≤ 9223372036854775807) : Calls Tryz.prog 3 #[sv s, sv nm] w (Post No w fun v _ => v = .bool true) := by
 have hlen := scQ_len s nm
 refine enter (n := 74) (args := [sv s, sv nm]) Tryz.func3 rfl rfl (St.empty _ _) ?_
 refine Run.sr ?_
 refine Run.p (.bool false) rfl rfl ?_
 refine Run.done ?_
 refine Run.seq ?_
 refine Run.sr ?_
 refine Run.p (sv s) rfl rfl ?_
 refine Run.y (.int .i64 (((s.length : Nat) : Int))) rfl (OpY.lenS Tstr_9 rfl) ?_
 refine Run.p (.bool (decide ((((s.length : Nat) : Int)) > 1048576))) rfl rfl ?_
 refine Run.done ?_
 refine Run.cond (b := decide ((((s.length : Nat) : Int)) > 1048576)) rfl (fun h15 => ?_) (fun h15 => ?_)
 ·have p15 := h15; try simp only [bs] at p15
  refine Run.sr ?_
  refine Run.p (.bool true) rfl rfl ?_
  refine Run.done ?_
  refine Run.ret ?_
  refine ⟨.bool true, [], Out.one rfl rfl, (Some'.weak (.nil _)), ?_⟩
  rfl
 ·have p15 := h15; try simp only [bs] at p15
  refine Run.skip ?_
  refine Run.seq ?_
  refine Run.sr ?_
  refine Run.p (sv nm) rfl rfl ?_
  refine Run.y (.int .i64 (((nm.length : Nat) : Int))) rfl (OpY.lenS Tstr_9 rfl) ?_
  refine Run.p (.bool (decide ((((nm.length : Nat) : Int)) > 1048576))) rfl rfl ?_
  refine Run.done ?_
  refine Run.cond (b := decide ((((nm.length : Nat) : Int)) > 1048576)) rfl (fun h18 => ?_) (fun h18 => ?_)
  ·have p18 := h18; try simp only [bs] at p18
   refine Run.sr ?_
   refine Run.p (.bool true) rfl rfl ?_
   refine Run.done ?_
   refine Run.ret ?_
   refine ⟨.bool true, [], Out.one rfl rfl, (Some'.weak (.nil _)), ?_⟩
   rfl
  ·have p18 := h18; try simp only [bs] at p18
   refine Run.skip ?_
   refine Run.sr ?_
   refine Run.p (sv s) rfl rfl ?_
   refine Run.p (sv nm) rfl rfl ?_
   refine Run.step rfl (OpStep.call (vs := [sv s, sv nm]) (caps := []) Tcall_8 rfl rfl (fun w hs => sSubcircuitOf_spec) ?_)
   rintro _ _ ⟨u1, rfl, rfl⟩
   show Run _ _ (putF _ _ _ (.tuple #[.agg #[.int .i64 ((scQ (rt s).2.2.2 nm).1), u1], .bool (decide (0 ≤ fdJ (rt s).2.2.2 (rt s).2.2.2.length nm))])) [.own u1 69 3 ((scQ (rt s).2.2.2 nm).2.length) (ints (fl (scQ (rt s).2.2.2 nm).2))]
   refine Run.p (.tuple #[.agg #[.int .i64 ((scQ (rt s).2.2.2 nm).1), u1], .bool (decide (0 ≤ fdJ (rt s).2.2.2 (rt s).2.2.2.length nm))]) rfl rfl ?_
   refine Run.p (.agg #[.int .i64 ((scQ (rt s).2.2.2 nm).1), u1]) rfl rfl ?_
   refine Run.p (.bool (decide (0 ≤ fdJ (rt s).2.2.2 (rt s).2.2.2.length nm))) rfl rfl ?_
   refine Run.step rfl (OpStep.alloc (zs := [.int .i64 0, .slice none 0 0]) Tzero_24 fun b1 => ?_)
   refine Run.formOwn (.tail _ (List.Mem.head _)) (fun A_u11 c_u11 hv hcapc_u11 hmaxc_u11 => ?_) (fun _ _ _ => ⟨nofun, nofun, nofun⟩)
   subst hv
   refine Run.step rfl (OpStep.storeAll (us := [.int .i64 ((scQ (rt s).2.2.2 nm).1), .slice A_u11 ((scQ (rt s).2.2.2 nm).2.length) c_u11]) Tsize_24 rfl rfl rfl (.here _) rfl ?_)
   refine Run.p (.bool (decide (0 ≤ fdJ (rt s).2.2.2 (rt s).2.2.2.length nm))) rfl rfl ?_
   refine Run.dsr ?_
   refine Run.p (sv s) rfl rfl ?_
   refine Run.p (sv nm) rfl rfl ?_
   refine Run.step rfl (OpStep.call (vs := [sv s, sv nm]) (caps := []) Tcall_9 rfl rfl (fun w hs => SubcircuitOf_spec (hg.go hs) sl) ?_)
   rintro _ _ ⟨u2, rfl, rfl⟩
   show Run _ _ (putF _ _ _ (.tuple #[.agg #[.int .i64 ((scQ (rt s).2.2.2 nm).1), u2], .bool (decide (0 ≤ fdJ (rt s).2.2.2 (rt s).2.2.2.length nm))])) [.own u2 69 3 ((scQ (rt s).2.2.2 nm).2.length) (ints (fl (scQ (rt s).2.2.2 nm).2)), .blk b1 24 [.int .i64 ((scQ (rt s).2.2.2 nm).1), .slice A_u11 ((scQ (rt s).2.2.2 nm).2.length) c_u11], .own (.slice A_u11 ((scQ (rt s).2.2.2 nm).2.length) c_u11) 69 3 ((scQ (rt s).2.2.2 nm).2.length) (ints (fl (scQ (rt s).2.2.2 nm).2))]
   refine Run.p (.tuple #[.agg #[.int .i64 ((scQ (rt s).2.2.2 nm).1), u2], .bool (decide (0 ≤ fdJ (rt s).2.2.2 (rt s).2.2.2.length nm))]) rfl rfl ?_
   refine Run.p (.agg #[.int .i64 ((scQ (rt s).2.2.2 nm).1), u2]) rfl rfl ?_
   refine Run.p (.bool (decide (0 ≤ fdJ (rt s).2.2.2 (rt s).2.2.2.length nm))) rfl rfl ?_
   refine Run.step rfl (OpStep.alloc (zs := [.int .i64 0, .slice none 0 0]) Tzero_24 fun b2 => ?_)
   refine Run.formOwn (.tail _ (List.Mem.head _)) (fun A_u21 c_u21 hv hcapc_u21 hmaxc_u21 => ?_) (fun _ _ _ => ⟨nofun, nofun, nofun⟩)
   subst hv
   refine Run.step rfl (OpStep.storeAll (us := [.int .i64 ((scQ (rt s).2.2.2 nm).1), .slice A_u21 ((scQ (rt s).2.2.2 nm).2.length) c_u21]) Tsize_24 rfl rfl rfl (.here _) rfl ?_)
   refine Run.p (.bool (decide (0 ≤ fdJ (rt s).2.2.2 (rt s).2.2.2.length nm))) rfl rfl ?_
   refine Run.done ?_
   refine Run.seq ?_
   refine Run.sr ?_
   refine Run.y (.agg #[.int .i64 ((scQ (rt s).2.2.2 nm).1), .slice A_u21 ((scQ (rt s).2.2.2 nm).2.length) c_u21]) rfl (OpY.loadN (cs := [.int .i64 ((scQ (rt s).2.2.2 nm).1), .slice A_u21 ((scQ (rt s).2.2.2 nm).2.length) c_u21]) Tagg_24 rfl (Cells.blk (.head _) ⟨rfl, rfl, trivial⟩)) ?_
   refine Run.y (.agg #[.int .i64 ((scQ (rt s).2.2.2 nm).1), .slice A_u11 ((scQ (rt s).2.2.2 nm).2.length) c_u11]) rfl (OpY.loadN (cs := [.int .i64 ((scQ (rt s).2.2.2 nm).1), .slice A_u11 ((scQ (rt s).2.2.2 nm).2.length) c_u11]) Tagg_24 rfl (Cells.blk (.tail _ (.tail _ (List.Mem.head _))) ⟨rfl, rfl, trivial⟩)) ?_
   refine Run.q (v := .bool true) rfl (OpQ.call (vs := [.agg #[.int .i64 ((scQ (rt s).2.2.2 nm).1), .slice A_u21 ((scQ (rt s).2.2.2 nm).2.length) c_u21], .agg #[.int .i64 ((scQ (rt s).2.2.2 nm).1), .slice A_u11 ((scQ (rt s).2.2.2 nm).2.length) c_u11]]) (caps := []) Tcall_10 rfl rfl (fun w hs => eqCircuit_true (hs.slOwn (.tail _ (List.Mem.head _))) (hs.slOwn (.tail _ (.tail _ (.tail _ (List.Mem.head _))))))) ?_
   refine Run.p (.bool false) rfl rfl ?_
   refine Run.p (.bool false) rfl rfl ?_
   refine Run.p (.bool (decide (0 ≤ fdJ (rt s).2.2.2 (rt s).2.2.2.length nm))) rfl rfl ?_
   refine Run.p (.bool (decide (0 ≤ fdJ (rt s).2.2.2 (rt s).2.2.2.length nm))) rfl rfl ?_
   refine Run.y (.bool false) rfl (OpY.neqBSame Tbool_4 rfl rfl rfl) ?_
   refine Run.p (.bool false) rfl rfl ?_
   refine Run.done ?_
   refine Run.cond (b := false) rfl (fun h => nomatch h) (fun _ => ?_)
   refine Run.skip ?_
   refine Run.sr ?_
   refine Run.p (.int .i64 1) rfl rfl ?_
   refine Run.dsr ?_
   refine Run.y (.agg #[.int .i64 ((scQ (rt s).2.2.2 nm).1), .slice A_u21 ((scQ (rt s).2.2.2 nm).2.length) c_u21]) rfl (OpY.loadN (cs := [.int .i64 ((scQ (rt s).2.2.2 nm).1), .slice A_u21 ((scQ (rt s).2.2.2 nm).2.length) c_u21]) Tagg_24 rfl (Cells.blk (.head _) ⟨rfl, rfl, trivial⟩)) ?_
   refine Run.p (.int .i64 1) rfl rfl ?_
   refine Run.step rfl (OpStep.callM (H1 := [.own (.slice A_u21 ((scQ (rt s).2.2.2 nm).2.length) c_u21) 69 3 ((scQ (rt s).2.2.2 nm).2.length) (ints (fl (scQ (rt s).2.2.2 nm).2))]) (H2 := [.blk b2 24 [.int .i64 ((scQ (rt s).2.2.2 nm).1), .slice A_u21 ((scQ (rt s).2.2.2 nm).2.length) c_u21], .blk b1 24 [.int .i64 ((scQ (rt s).2.2.2 nm).1), .slice A_u11 ((scQ (rt s).2.2.2 nm).2.length) c_u11], .own (.slice A_u11 ((scQ (rt s).2.2.2 nm).2.length) c_u11) 69 3 ((scQ (rt s).2.2.2 nm).2.length) (ints (fl (scQ (rt s).2.2.2 nm).2))]) (vs := [.agg #[.int .i64 ((scQ (rt s).2.2.2 nm).1), .slice A_u21 ((scQ (rt s).2.2.2 nm).2.length) c_u21], .int .i64 1]) (caps := []) Tcall_11 rfl rfl (Weak.selF [1]) (fun w hs => markCircuit_spec (hs.sub (List.sublist_append_left _ _)).self (by omega) (by omega)) ?_)
   rintro _ _ ⟨rfl, rfl⟩
   show Run _ _ (putF _ _ _ (.int .i64 (1 + (((scQ (rt s).2.2.2 nm).2.length : Nat) : Int) * 3))) [.own (.slice A_u21 ((scQ (rt s).2.2.2 nm).2.length) c_u21) 69 3 ((scQ (rt s).2.2.2 nm).2.length) (ints (mks 1 (((scQ (rt s).2.2.2 nm).2.length) * 3))), .blk b2 24 [.int .i64 ((scQ (rt s).2.2.2 nm).1), .slice A_u21 ((scQ (rt s).2.2.2 nm).2.length) c_u21], .blk b1 24 [.int .i64 ((scQ (rt s).2.2.2 nm).1), .slice A_u11 ((scQ (rt s).2.2.2 nm).2.length) c_u11], .own (.slice A_u11 ((scQ (rt s).2.2.2 nm).2.length) c_u11) 69 3 ((scQ (rt s).2.2.2 nm).2.length) (ints (fl (scQ (rt s).2.2.2 nm).2))]
   refine Run.p (.int .i64 (1 + (((scQ (rt s).2.2.2 nm).2.length : Nat) : Int) * 3)) rfl rfl ?_
   refine Run.dsr ?_
   refine Run.p (.int .i64 1) rfl rfl ?_
   refine Run.dsr ?_
   refine Run.y (.agg #[.int .i64 ((scQ (rt s).2.2.2 nm).1), .slice A_u21 ((scQ (rt s).2.2.2 nm).2.length) c_u21]) rfl (OpY.loadN (cs := [.int .i64 ((scQ (rt s).2.2.2 nm).1), .slice A_u21 ((scQ (rt s).2.2.2 nm).2.length) c_u21]) Tagg_24 rfl (Cells.blk (.tail _ (List.Mem.head _)) ⟨rfl, rfl, trivial⟩)) ?_
   refine Run.p (.int .i64 1) rfl rfl ?_
   refine Run.q (v := .int .i64 (1 + (((scQ (rt s).2.2.2 nm).2.length : Nat) : Int) * 3)) rfl (OpQ.call (vs := [.agg #[.int .i64 ((scQ (rt s).2.2.2 nm).1), .slice A_u21 ((scQ (rt s).2.2.2 nm).2.length) c_u21], .int .i64 1]) (caps := []) Tcall_12 rfl rfl (fun w hs => heldCircuit_true (hs.slOwn (.head _)) (by omega) (by omega) rfl)) ?_
   refine Run.p (.int .i64 (1 + (((scQ (rt s).2.2.2 nm).2.length : Nat) : Int) * 3)) rfl rfl ?_
   refine Run.done ?_
   refine Run.seq ?_
   refine Run.sr ?_
   refine Run.p (.int .i64 (1 + (((scQ (rt s).2.2.2 nm).2.length : Nat) : Int) * 3)) rfl rfl ?_
   refine Run.p (.bool (decide ((1 + (((scQ (rt s).2.2.2 nm).2.length : Nat) : Int) * 3) < 0))) rfl rfl ?_
   refine Run.done ?_
   refine Run.cond (b := decide ((1 + (((scQ (rt s).2.2.2 nm).2.length : Nat) : Int) * 3) < 0)) rfl (fun h47 => ?_) (fun h47 => ?_)
   ·have p47 := h47; try simp only [bs] at p47
    exact absurd h47 (by simp <;> omega) --DONE
   ·have p47 := h47; try simp only [bs] at p47
    refine Run.skip ?_
    refine Run.seq ?_
    refine Run.sr ?_
    refine Run.p (.int .i64 (1 + (((scQ (rt s).2.2.2 nm).2.length : Nat) : Int) * 3)) rfl rfl ?_
    refine Run.p (.int .i64 (1 + (((scQ (rt s).2.2.2 nm).2.length : Nat) : Int) * 3)) rfl rfl ?_
    refine Run.y (.bool false) rfl (OpY.neqSame rfl rfl rfl) ?_
    refine Run.done ?_
    refine Run.cond (b := false) rfl (fun h => nomatch h) (fun _ => ?_)
    refine Run.skip ?_
    refine Run.sr ?_
    refine Run.p (sv s) rfl rfl ?_
    refine Run.p (sv nm) rfl rfl ?_
    refine Run.step rfl (OpStep.call (vs := [sv s, sv nm]) (caps := []) Tcall_9 rfl rfl (fun w hs => SubcircuitOf_spec (hg.go hs) sl) ?_)
    rintro _ _ ⟨u3, rfl, rfl⟩
    show Run _ _ (putF _ _ _ (.tuple #[.agg #[.int .i64 ((scQ (rt s).2.2.2 nm).1), u3], .bool (decide (0 ≤ fdJ (rt s).2.2.2 (rt s).2.2.2.length nm))])) [.own u3 69 3 ((scQ (rt s).2.2.2 nm).2.length) (ints (fl (scQ (rt s).2.2.2 nm).2)), .own (.slice A_u21 ((scQ (rt s).2.2.2 nm).2.length) c_u21) 69 3 ((scQ (rt s).2.2.2 nm).2.length) (ints (mks 1 (((scQ (rt s).2.2.2 nm).2.length) * 3))), .blk b2 24 [.int .i64 ((scQ (rt s).2.2.2 nm).1), .slice A_u21 ((scQ (rt s).2.2.2 nm).2.length) c_u21], .blk b1 24 [.int .i64 ((scQ (rt s).2.2.2 nm).1), .slice A_u11 ((scQ (rt s).2.2.2 nm).2.length) c_u11], .own (.slice A_u11 ((scQ (rt s).2.2.2 nm).2.length) c_u11) 69 3 ((scQ (rt s).2.2.2 nm).2.length) (ints (fl (scQ (rt s).2.2.2 nm).2))]
    refine Run.p (.tuple #[.agg #[.int .i64 ((scQ (rt s).2.2.2 nm).1), u3], .bool (decide (0 ≤ fdJ (rt s).2.2.2 (rt s).2.2.2.length nm))]) rfl rfl ?_
    refine Run.p (.agg #[.int .i64 ((scQ (rt s).2.2.2 nm).1), u3]) rfl rfl ?_
    refine Run.p (.bool (decide (0 ≤ fdJ (rt s).2.2.2 (rt s).2.2.2.length nm))) rfl rfl ?_
    refine Run.step rfl (OpStep.alloc (zs := [.int .i64 0, .slice none 0 0]) Tzero_24 fun b3 => ?_)
    refine Run.formOwn (.tail _ (List.Mem.head _)) (fun A_u31 c_u31 hv hcapc_u31 hmaxc_u31 => ?_) (fun _ _ _ => ⟨nofun, nofun, nofun⟩)
    subst hv
    refine Run.step rfl (OpStep.storeAll (us := [.int .i64 ((scQ (rt s).2.2.2 nm).1), .slice A_u31 ((scQ (rt s).2.2.2 nm).2.length) c_u31]) Tsize_24 rfl rfl rfl (.here _) rfl ?_)
    refine Run.p (.bool (decide (0 ≤ fdJ (rt s).2.2.2 (rt s).2.2.2.length nm))) rfl rfl ?_
    refine Run.done ?_
    refine Run.seq ?_
    refine Run.sr ?_
    refine Run.y (.agg #[.int .i64 ((scQ (rt s).2.2.2 nm).1), .slice A_u31 ((scQ (rt s).2.2.2 nm).2.length) c_u31]) rfl (OpY.loadN (cs := [.int .i64 ((scQ (rt s).2.2.2 nm).1), .slice A_u31 ((scQ (rt s).2.2.2 nm).2.length) c_u31]) Tagg_24 rfl (Cells.blk (.head _) ⟨rfl, rfl, trivial⟩)) ?_
    refine Run.y (.agg #[.int .i64 ((scQ (rt s).2.2.2 nm).1), .slice A_u11 ((scQ (rt s).2.2.2 nm).2.length) c_u11]) rfl (OpY.loadN (cs := [.int .i64 ((scQ (rt s).2.2.2 nm).1), .slice A_u11 ((scQ (rt s).2.2.2 nm).2.length) c_u11]) Tagg_24 rfl (Cells.blk (.tail _ (.tail _ (.tail _ (.tail _ (List.Mem.head _))))) ⟨rfl, rfl, trivial⟩)) ?_
    refine Run.q (v := .bool true) rfl (OpQ.call (vs := [.agg #[.int .i64 ((scQ (rt s).2.2.2 nm).1), .slice A_u31 ((scQ (rt s).2.2.2 nm).2.length) c_u31], .agg #[.int .i64 ((scQ (rt s).2.2.2 nm).1), .slice A_u11 ((scQ (rt s).2.2.2 nm).2.length) c_u11]]) (caps := []) Tcall_10 rfl rfl (fun w hs => eqCircuit_true (hs.slOwn (.tail _ (List.Mem.head _))) (hs.slOwn (.tail _ (.tail _ (.tail _ (.tail _ (.tail _ (List.Mem.head _))))))))) ?_
    refine Run.p (.bool false) rfl rfl ?_
    refine Run.p (.bool false) rfl rfl ?_
    refine Run.p (.bool (decide (0 ≤ fdJ (rt s).2.2.2 (rt s).2.2.2.length nm))) rfl rfl ?_
    refine Run.p (.bool (decide (0 ≤ fdJ (rt s).2.2.2 (rt s).2.2.2.length nm))) rfl rfl ?_
    refine Run.y (.bool false) rfl (OpY.neqBSame Tbool_4 rfl rfl rfl) ?_
    refine Run.p (.bool false) rfl rfl ?_
    refine Run.done ?_
    refine Run.cond (b := false) rfl (fun h => nomatch h) (fun _ => ?_)
    refine Run.skip ?_
    refine Run.sr ?_
    refine Run.p (.int .i64 1) rfl rfl ?_
    refine Run.dsr ?_
    refine Run.y (.agg #[.int .i64 ((scQ (rt s).2.2.2 nm).1), .slice A_u21 ((scQ (rt s).2.2.2 nm).2.length) c_u21]) rfl (OpY.loadN (cs := [.int .i64 ((scQ (rt s).2.2.2 nm).1), .slice A_u21 ((scQ (rt s).2.2.2 nm).2.length) c_u21]) Tagg_24 rfl (Cells.blk (.tail _ (.tail _ (.tail _ (List.Mem.head _)))) ⟨rfl, rfl, trivial⟩)) ?_
    refine Run.p (.int .i64 1) rfl rfl ?_
    refine Run.q (v := .int .i64 (1 + (((scQ (rt s).2.2.2 nm).2.length : Nat) : Int) * 3)) rfl (OpQ.call (vs := [.agg #[.int .i64 ((scQ (rt s).2.2.2 nm).1), .slice A_u21 ((scQ (rt s).2.2.2 nm).2.length) c_u21], .int .i64 1]) (caps := []) Tcall_12 rfl rfl (fun w hs => heldCircuit_true (hs.slOwn (.tail _ (.tail _ (List.Mem.head _)))) (by omega) (by omega) rfl)) ?_
    refine Run.p (.int .i64 (1 + (((scQ (rt s).2.2.2 nm).2.length : Nat) : Int) * 3)) rfl rfl ?_
    refine Run.done ?_
    refine Run.seq ?_
    refine Run.sr ?_
    refine Run.p (.int .i64 (1 + (((scQ (rt s).2.2.2 nm).2.length : Nat) : Int) * 3)) rfl rfl ?_
    refine Run.p (.bool (decide ((1 + (((scQ (rt s).2.2.2 nm).2.length : Nat) : Int) * 3) < 0))) rfl rfl ?_
    refine Run.done ?_
    refine Run.cond (b := decide ((1 + (((scQ (rt s).2.2.2 nm).2.length : Nat) : Int) * 3) < 0)) rfl (fun h70 => ?_) (fun h70 => ?_)
    ·have p70 := h70; try simp only [bs] at p70
     exact absurd h70 (by simp <;> omega) --DONE
    ·have p70 := h70; try simp only [bs] at p70
     refine Run.skip ?_
     refine Run.seq ?_
     refine Run.sr ?_
     refine Run.p (.int .i64 (1 + (((scQ (rt s).2.2.2 nm).2.length : Nat) : Int) * 3)) rfl rfl ?_
     refine Run.p (.int .i64 (1 + (((scQ (rt s).2.2.2 nm).2.length : Nat) : Int) * 3)) rfl rfl ?_
     refine Run.y (.bool false) rfl (OpY.neqSame rfl rfl rfl) ?_
     refine Run.done ?_
     refine Run.cond (b := false) rfl (fun h => nomatch h) (fun _ => ?_)
     refine Run.skip ?_
     refine Run.sr ?_
     refine Run.p (.bool true) rfl rfl ?_
     refine Run.done ?_
     refine Run.ret ?_
     refine ⟨.bool true, [], Out.one rfl rfl, (Some'.weak (.nil _)), ?_⟩
     rfl

end Go.Proofs.YtgpkpopbajkklaaGreatDoor
