/- Walks: drawn generalised flows; the greatest number. -/
import Derived.Test.YtoiaibgcjfgbcaaG11
import Derived.Test.YtoiaibgcjfgbcaaG8
import Derived.Test.YtoiaibgcjfgbcaaProg
import Derived.Test.YtoiaibgcjfgbcaaG9
set_option linter.unusedSimpArgs false
set_option linter.unusedVariables false
namespace Go.Proofs.Ytoiaibgcjfgbcaa
open Go Go.RowKit
namespace FwnT
theorem Tagg_26 : aggOf Try.prog 26 = some 4 := by kernel_rfl
theorem Tagg_38 : aggOf Try.prog 38 = some 2 := by kernel_rfl
theorem Tcall_23 : callable Try.prog 23 = true := by kernel_rfl
theorem Tcall_32 : callable Try.prog 32 = true := by kernel_rfl
theorem Tcall_40 : callable Try.prog 40 = true := by kernel_rfl
theorem Tcall_41 : callable Try.prog 41 = true := by kernel_rfl
theorem Tcall_42 : callable Try.prog 42 = true := by kernel_rfl
theorem Tcall_43 : callable Try.prog 43 = true := by kernel_rfl
theorem Tcall_44 : callable Try.prog 44 = true := by kernel_rfl
theorem Tfo_26_0 : fieldOff Try.prog 26 0 = some 0 := by kernel_rfl
theorem Tfo_38_0 : fieldOff Try.prog 38 0 = some 0 := by kernel_rfl
theorem Tfo_38_1 : fieldOff Try.prog 38 1 = some 1 := by kernel_rfl
theorem Tint_52 : Try.prog.underlying 52 = some (.int .u64) := by kernel_rfl
theorem Tone_24 : oneOf Try.prog 24 = true := by kernel_rfl
theorem Tone_3 : oneOf Try.prog 3 = true := by kernel_rfl
theorem Tsize_26 : (Try.prog.info? 26).map (·.size) = some 4 := by kernel_rfl
theorem Tsize_3 : (Try.prog.info? 3).map (·.size) = some 1 := by kernel_rfl
theorem Tsize_38 : (Try.prog.info? 38).map (·.size) = some 2 := by kernel_rfl
theorem Tsl_24 : sliceOf Try.prog 24 = some (3, 1, 8, [.int .i64 0]) := by kernel_rfl
theorem Tsome_3 : (Try.prog.underlying 3).isSome = true := by kernel_rfl
theorem Tzero_26 : zeroOf Try.prog 26 = some [.int .i64 0, .slice none 0 0, .slice none 0 0, .slice none 0 0] := by kernel_rfl
theorem Tzero_38 : zeroOf Try.prog 38 = some [.slice none 0 0, .slice none 0 0] := by kernel_rfl
end FwnT
open FwnT
theorem Cur.apart0 {w0 w : World} {va vl : Value} {n m size : Nat} {e : TypeId} {cs : List Int} {ls : List Value} {H : List Res} (ha : Sl w0 va 1 n (u8s cs)) (hs : St No w0 w H) (hm : Res.own vl e size m ls ∈ H) : 0 < n → ∀ k, va.ownBlock = some k → vl.ownBlock ≠ some k := by
  intro h0 k hk hl
  obtain ⟨_, A, c, rfl, _, _, h4⟩ := ha
  obtain ⟨b', o, rfl, hb, _⟩ := h4 h0
  simp only [Value.ownBlock, Option.some.injEq] at hk; subst hk
  exact hs.fresh _ hm b' hl hb


theorem gf_len {es : List Int} {m n : Nat} {is : List Int} {ni : Nat} {os : List Int} {no : Nat} (h : (gfO es m n is ni os no).isSome = true) : ogB n es m is ni os no = true ∧ (gfA es m n is ni os no).length = n ∧ (gfL es m n is ni os no).length = n ∧ (∀ v, v < n → 0 ≤ ix (gfL es m n is ni os no) v ∧ ix (gfL es m n is ni os no) v + no ≤ n) := by
  obtain ⟨⟨ss, ly⟩, hO⟩ := Option.isSome_iff_exists.1 h
  have hg : ogB n es m is ni os no = true := by
    cases hb : ogB n es m is ni os no with
    | true => rfl
    | false => rw [gf_bad hb] at hO; cases hO
  obtain ⟨hn1, hn10, hes, hri, hro⟩ := og_ok hg
  obtain ⟨eA, eL, _⟩ := gf_some hO
  have st := GfI.start hg
  obtain ⟨hf, h0⟩ := (gfR_ok (ris_pos hri) (n + 1) 1 _ _ (Nat.le_refl _) st.fl st.cnt).1 (ss, ly) (st.run.trans hO)
  dsimp only at hf h0
  have hp := unl_zero.1 h0
  have hc := cntU_start hro
  refine ⟨hg, by rw [eA]; exact hf.ln, by rw [eL]; exact hf.ll, fun v hv => ?_⟩
  rw [eL]
  have hd := hf.dom v hv
  have := hp v hv
  omega

set_option maxHeartbeats 1000000 in
set_option maxRecDepth 20000 in
theorem DrawGFlowOf_spec {va : Value} {n : Nat} {cs : List Int} {w : World} (ha : Sl w va 1 n (u8s cs)) (hby : ∀ x ∈ cs, 0 ≤ x ∧ x < 256) : Calls Try.prog 16 #[va] w (Post No w fun v H => ∃ (N m ni no : Nat) (ve vi vo : Value) (es is os : List Int), ((N ≤ 11 ∧ m ≤ 101 ∧ ni ≤ 12 ∧ no ≤ 12) ∧ ∀ x ∈ es, 0 ≤ x ∧ x ≤ 100) ∧ v = .agg #[.int .i64 (N : Nat), ve, vi, vo] ∧ H = [.own ve 80 2 m (ints es), .own vi 3 1 ni (ints is), .own vo 3 1 no (ints os)]) := by
 refine enter (n := 5) (args := [va]) Try.func16 rfl rfl (St.empty _ _) ?_
 refine Run.sr ?_
 refine Run.step rfl (OpStep.alloc (zs := [.int .i64 0, .slice none 0 0, .slice none 0 0, .slice none 0 0]) Tzero_26 fun b1 => ?_)
 refine Run.dsr ?_
 refine Run.p (va) rfl rfl ?_
 refine Run.step rfl (OpStep.call (vs := [va]) (caps := []) Tcall_23 rfl rfl (fun w hs => DrawIsValidOpenGraph_spec (hs.sl ha) hby) ?_)
 rintro _ _ ⟨N, m, ni, no, ve, vi, vo, es, is, os, ⟨hgr, hsm⟩, rfl, rfl⟩
 show Run _ _ (putF _ _ _ (.agg #[.int .i64 (((N : Nat) : Int)), ve, vi, vo])) [.own ve 80 2 m (ints es), .own vi 3 1 ni (ints is), .own vo 3 1 no (ints os), .blk b1 26 [.int .i64 0, .slice none 0 0, .slice none 0 0, .slice none 0 0]]
 refine Run.formOwn (.head _) (fun A_ve1 c_ve1 hv hcapc_ve1 hmaxc_ve1 => ?_) (fun _ _ _ => ⟨nofun, nofun, nofun⟩)
 subst hv
 refine Run.formOwn (.tail _ (List.Mem.head _)) (fun A_vi1 c_vi1 hv hcapc_vi1 hmaxc_vi1 => ?_) (fun _ _ _ => ⟨nofun, nofun, nofun⟩)
 subst hv
 refine Run.formOwn (.tail _ (.tail _ (List.Mem.head _))) (fun A_vo1 c_vo1 hv hcapc_vo1 hmaxc_vo1 => ?_) (fun _ _ _ => ⟨nofun, nofun, nofun⟩)
 subst hv
 refine Run.step rfl (OpStep.storeAll (us := [.int .i64 (((N : Nat) : Int)), .slice A_ve1 m c_ve1, .slice A_vi1 ni c_vi1, .slice A_vo1 no c_vo1]) Tsize_26 rfl rfl rfl (.there _ (.there _ (.there _ (.here _)))) rfl ?_)
 refine Run.done ?_
 refine Run.ret ?_
 refine ⟨.agg #[.int .i64 (((N : Nat) : Int)), .slice A_ve1 m c_ve1, .slice A_vi1 ni c_vi1, .slice A_vo1 no c_vo1], [.own (.slice A_ve1 m c_ve1) 80 2 m (ints es), .own (.slice A_vi1 ni c_vi1) 3 1 ni (ints is), .own (.slice A_vo1 no c_vo1) 3 1 no (ints os)], Out.cell1 (cs := [.int .i64 (((N : Nat) : Int)), .slice A_ve1 m c_ve1, .slice A_vi1 ni c_vi1, .slice A_vo1 no c_vo1]) rfl Tagg_26 rfl (Cells.blk (.tail _ (.tail _ (.tail _ (List.Mem.head _)))) ⟨rfl, rfl, rfl, rfl, trivial⟩), (Some'.weak (.take (.take (.take (.nil _))))), ?_⟩
 exact ⟨_, _, _, _, _, _, _, _, _, _, ⟨hgr, hsm⟩, rfl, rfl⟩

set_option maxHeartbeats 2000000 in
set_option maxRecDepth 20000 in
theorem DrawIsGFlow_spec {va : Value} {n : Nat} {cs : List Int} {w : World} (ha : Sl w va 1 n (u8s cs)) (hby : ∀ x ∈ cs, 0 ≤ x ∧ x < 256) : Calls Try.prog 18 #[va] w (Post No w fun v H => ∃ (N m ni no a b : Nat) (ve vi vo vx vy : Value) (es is os nx ly : List Int), ((N ≤ 11 ∧ m ≤ 101 ∧ ni ≤ 12 ∧ no ≤ 12) ∧ ∀ x ∈ es, 0 ≤ x ∧ x ≤ 100) ∧ v = .tuple #[.agg #[.int .i64 (N : Nat), ve, vi, vo], .agg #[vx, vy]] ∧ H = [.own ve 80 2 m (ints es), .own vi 3 1 ni (ints is), .own vo 3 1 no (ints os), .own vx 3 1 a (ints nx), .own vy 3 1 b (ints ly)]) := by
 obtain ⟨Ac, cc, rfl, _, _⟩ := ha.form0
 refine enter (n := 61) (args := [.slice Ac n cc]) Try.func18 rfl rfl (St.empty _ _) ?_
 refine Run.sr ?_
 refine Run.step rfl (OpStep.alloc (zs := [.int .i64 0, .slice none 0 0, .slice none 0 0, .slice none 0 0]) Tzero_26 fun b1 => ?_)
 refine Run.step rfl (OpStep.alloc (zs := [.slice none 0 0, .slice none 0 0]) Tzero_38 fun b2 => ?_)
 refine Run.dsr ?_
 refine Run.p (.slice Ac n cc) rfl rfl ?_
 refine Run.y (.agg #[.slice Ac n cc, .int .i64 0, .int .u64 0]) rfl (OpY.build (cs := [.slice Ac n cc, .int .i64 0, .int .u64 0]) (by kernel_rfl)) ?_
 refine Run.step rfl (OpStep.box (us := [.slice Ac n cc, .int .i64 0, .int .u64 0]) rfl fun b3 => ?_)
 refine Run.p (.pointer (some ⟨b3, 0, none⟩)) rfl rfl ?_
 refine Run.dsr ?_
 refine Run.p (.pointer (some ⟨b3, 0, none⟩)) rfl rfl ?_
 refine Run.step rfl (OpStep.callM (H1 := [.blk b3 64 [.slice Ac n cc, .int .i64 0, .int .u64 0]]) (H2 := [.blk b2 38 [.slice none 0 0, .slice none 0 0], .blk b1 26 [.int .i64 0, .slice none 0 0, .slice none 0 0, .slice none 0 0]]) (vs := [.pointer (some ⟨b3, 0, none⟩)]) (caps := []) Tcall_41 rfl rfl (Weak.refl _) (fun w hs => anyOpenGraph_spec (s := (0, 0)) (by decide) (Cur.top ha hby hs (.head _)) (hs.sub (List.sublist_append_left _ _)).self) ?_)
 rintro _ _ ⟨N, m, ni, no, ve, vi, vo, es, is, os, sg, ⟨hgr, hsg, hsm⟩, rfl, rfl⟩
 show Run _ _ (putF _ _ _ (.agg #[.int .i64 (((N : Nat) : Int)), ve, vi, vo])) [.own ve 80 2 m (ints es), .own vi 3 1 ni (ints is), .own vo 3 1 no (ints os), .blk b3 64 [.slice Ac n cc, .int .i64 (((sg.1 : Nat) : Int)), .int .u64 (sg.2)], .blk b2 38 [.slice none 0 0, .slice none 0 0], .blk b1 26 [.int .i64 0, .slice none 0 0, .slice none 0 0, .slice none 0 0]]
 have e00 : ((0 : Nat), (0 : Int)).1 = 0 := rfl
 refine Run.step rfl (OpStep.alloc (zs := [.int .i64 0, .slice none 0 0, .slice none 0 0, .slice none 0 0]) Tzero_26 fun b4 => ?_)
 refine Run.formOwn (.tail _ (List.Mem.head _)) (fun A_ve1 c_ve1 hv hcapc_ve1 hmaxc_ve1 => ?_) (fun _ _ _ => ⟨nofun, nofun, nofun⟩)
 subst hv
 refine Run.formOwn (.tail _ (.tail _ (List.Mem.head _))) (fun A_vi1 c_vi1 hv hcapc_vi1 hmaxc_vi1 => ?_) (fun _ _ _ => ⟨nofun, nofun, nofun⟩)
 subst hv
 refine Run.formOwn (.tail _ (.tail _ (.tail _ (List.Mem.head _)))) (fun A_vo1 c_vo1 hv hcapc_vo1 hmaxc_vo1 => ?_) (fun _ _ _ => ⟨nofun, nofun, nofun⟩)
 subst hv
 refine Run.step rfl (OpStep.storeAll (us := [.int .i64 (((N : Nat) : Int)), .slice A_ve1 m c_ve1, .slice A_vi1 ni c_vi1, .slice A_vo1 no c_vo1]) Tsize_26 rfl rfl rfl (.here _) rfl ?_)
 refine Run.done ?_
 refine Run.seq ?_
 refine Run.sr ?_
 refine Run.y (.agg #[.int .i64 (((N : Nat) : Int)), .slice A_ve1 m c_ve1, .slice A_vi1 ni c_vi1, .slice A_vo1 no c_vo1]) rfl (OpY.loadN (cs := [.int .i64 (((N : Nat) : Int)), .slice A_ve1 m c_ve1, .slice A_vi1 ni c_vi1, .slice A_vo1 no c_vo1]) Tagg_26 rfl (Cells.blk (.head _) ⟨rfl, rfl, rfl, rfl, trivial⟩)) ?_
 refine Run.q (v := .bool (ogB N es m is ni os no)) rfl (OpQ.call (vs := [.agg #[.int .i64 (((N : Nat) : Int)), .slice A_ve1 m c_ve1, .slice A_vi1 ni c_vi1, .slice A_vo1 no c_vo1]]) (caps := []) Tcall_32 rfl rfl (fun w hs => l19Good_spec (by omega) (hs.slOwn (.tail _ (List.Mem.head _))) (hs.slOwn (.tail _ (.tail _ (List.Mem.head _)))) (hs.slOwn (.tail _ (.tail _ (.tail _ (List.Mem.head _))))) hsm)) ?_
 refine Run.p (.bool (!(ogB N es m is ni os no))) rfl rfl ?_
 refine Run.done ?_
 refine Run.cond (b := !(ogB N es m is ni os no)) rfl (fun h15 => ?_) (fun h15 => ?_)
 ·have p15 := h15; try simp only [bs] at p15
  refine Run.sr ?_
  refine Run.y (.agg #[.int .i64 (((N : Nat) : Int)), .slice A_ve1 m c_ve1, .slice A_vi1 ni c_vi1, .slice A_vo1 no c_vo1]) rfl (OpY.loadN (cs := [.int .i64 (((N : Nat) : Int)), .slice A_ve1 m c_ve1, .slice A_vi1 ni c_vi1, .slice A_vo1 no c_vo1]) Tagg_26 rfl (Cells.blk (.head _) ⟨rfl, rfl, rfl, rfl, trivial⟩)) ?_
  refine Run.y (.agg #[.slice none 0 0, .slice none 0 0]) rfl (OpY.build (cs := [.slice none 0 0, .slice none 0 0]) (by kernel_rfl)) ?_
  refine Run.step rfl (OpStep.storeAll (us := [.int .i64 (((N : Nat) : Int)), .slice A_ve1 m c_ve1, .slice A_vi1 ni c_vi1, .slice A_vo1 no c_vo1]) Tsize_26 rfl rfl rfl (.there _ (.there _ (.there _ (.there _ (.there _ (.there _ (.here _))))))) rfl ?_)
  refine Run.step rfl (OpStep.storeAll (us := [.slice none 0 0, .slice none 0 0]) Tsize_38 rfl rfl rfl (.there _ (.there _ (.there _ (.there _ (.there _ (.here _)))))) rfl ?_)
  refine Run.done ?_
  refine Run.ret ?_
  refine ⟨.tuple #[.agg #[.int .i64 (((N : Nat) : Int)), .slice A_ve1 m c_ve1, .slice A_vi1 ni c_vi1, .slice A_vo1 no c_vo1], .agg #[.slice none 0 0, .slice none 0 0]], [.own (.slice A_ve1 m c_ve1) 80 2 m (ints es), .own (.slice A_vi1 ni c_vi1) 3 1 ni (ints is), .own (.slice A_vo1 no c_vo1) 3 1 no (ints os), .own (.slice none 0 0) 3 1 0 ([]), .own (.slice none 0 0) 3 1 0 ([])], Out.cells2 (cs := [.int .i64 (((N : Nat) : Int)), .slice A_ve1 m c_ve1, .slice A_vi1 ni c_vi1, .slice A_vo1 no c_vo1]) (ds := [.slice none 0 0, .slice none 0 0]) rfl Tagg_26 rfl (Cells.blk (.tail _ (.tail _ (.tail _ (.tail _ (.tail _ (.tail _ (List.Mem.head _))))))) ⟨rfl, rfl, rfl, rfl, trivial⟩) Tagg_38 rfl (Cells.blk (.tail _ (.tail _ (.tail _ (.tail _ (.tail _ (List.Mem.head _)))))) ⟨rfl, rfl, trivial⟩), ((Weak.nilOwn 3 1).trans ((Weak.nilOwn 3 1).trans ((Weak.selF [3, 3, 3, 0, 0]).trans (Some'.weak (.take (.take (.take (.take (.take (.nil _)))))))))), ?_⟩
  exact ⟨_, _, _, _, 0, 0, _, _, _, _, _, _, _, _, [], [], ⟨hgr, hsm⟩, rfl, rfl⟩
 ·have p15 := h15; try simp only [bs] at p15
  have hg : ogB N es m is ni os no = true := by simpa using p15
  obtain ⟨hn1, hn10, _, _, _⟩ := og_ok hg
  obtain ⟨q, hq⟩ : ∃ q : Nat, q = 2 ^ N := ⟨_, rfl⟩
  have hq1 : q ≤ 1024 := by rw [hq]; exact Nat.le_trans (Nat.pow_le_pow_right (by omega) hn10) (by decide)
  refine Run.skip ?_
  refine Run.sr ?_
  refine Run.y (.agg #[.int .i64 (((N : Nat) : Int)), .slice A_ve1 m c_ve1, .slice A_vi1 ni c_vi1, .slice A_vo1 no c_vo1]) rfl (OpY.loadN (cs := [.int .i64 (((N : Nat) : Int)), .slice A_ve1 m c_ve1, .slice A_vi1 ni c_vi1, .slice A_vo1 no c_vo1]) Tagg_26 rfl (Cells.blk (.head _) ⟨rfl, rfl, rfl, rfl, trivial⟩)) ?_
  refine Run.step rfl (OpStep.call (vs := [.agg #[.int .i64 (((N : Nat) : Int)), .slice A_ve1 m c_ve1, .slice A_vi1 ni c_vi1, .slice A_vo1 no c_vo1]]) (caps := []) Tcall_40 rfl rfl (fun w hs => l19General_spec (hs.slOwn (.tail _ (List.Mem.head _))) (hs.slOwn (.tail _ (.tail _ (List.Mem.head _)))) (hs.slOwn (.tail _ (.tail _ (.tail _ (List.Mem.head _))))) hg) ?_)
  rintro _ _ ⟨u1, u2, rfl, rfl⟩
  show Run _ _ (putF _ _ _ (.tuple #[.agg #[u1, u2], .bool ((gfO es m N is ni os no).isSome)])) [.own u1 3 1 ((gfA es m N is ni os no).length) (ints (gfA es m N is ni os no)), .own u2 3 1 ((gfL es m N is ni os no).length) (ints (gfL es m N is ni os no)), .blk b4 26 [.int .i64 (((N : Nat) : Int)), .slice A_ve1 m c_ve1, .slice A_vi1 ni c_vi1, .slice A_vo1 no c_vo1], .own (.slice A_ve1 m c_ve1) 80 2 m (ints es), .own (.slice A_vi1 ni c_vi1) 3 1 ni (ints is), .own (.slice A_vo1 no c_vo1) 3 1 no (ints os), .blk b3 64 [.slice Ac n cc, .int .i64 (((sg.1 : Nat) : Int)), .int .u64 (sg.2)], .blk b2 38 [.slice none 0 0, .slice none 0 0], .blk b1 26 [.int .i64 0, .slice none 0 0, .slice none 0 0, .slice none 0 0]]
  refine Run.p (.tuple #[.agg #[u1, u2], .bool ((gfO es m N is ni os no).isSome)]) rfl rfl ?_
  refine Run.p (.agg #[u1, u2]) rfl rfl ?_
  refine Run.p (.bool ((gfO es m N is ni os no).isSome)) rfl rfl ?_
  refine Run.step rfl (OpStep.alloc (zs := [.slice none 0 0, .slice none 0 0]) Tzero_38 fun b5 => ?_)
  refine Run.formOwn (.tail _ (List.Mem.head _)) (fun A_u11 c_u11 hv hcapc_u11 hmaxc_u11 => ?_) (fun _ _ _ => ⟨nofun, nofun, nofun⟩)
  subst hv
  refine Run.formOwn (.tail _ (.tail _ (List.Mem.head _))) (fun A_u21 c_u21 hv hcapc_u21 hmaxc_u21 => ?_) (fun _ _ _ => ⟨nofun, nofun, nofun⟩)
  subst hv
  refine Run.step rfl (OpStep.storeAll (us := [.slice A_u11 ((gfA es m N is ni os no).length) c_u11, .slice A_u21 ((gfL es m N is ni os no).length) c_u21]) Tsize_38 rfl rfl rfl (.here _) rfl ?_)
  refine Run.p (.bool ((gfO es m N is ni os no).isSome)) rfl rfl ?_
  refine Run.done ?_
  refine Run.seq ?_
  refine Run.sr ?_
  refine Run.p (.bool ((gfO es m N is ni os no).isSome)) rfl rfl ?_
  refine Run.p (.bool (!((gfO es m N is ni os no).isSome))) rfl rfl ?_
  refine Run.done ?_
  refine Run.cut (ι := (Nat × Int) × (Nat × List Int × Value) × (Nat × List Int × Value)) [25, 26, 27, 28, 29, 30, 31] (fun ⟨sc2, ⟨aa, nx, vx⟩, ⟨bb, ly, vy⟩⟩ => []) (fun ⟨sc2, ⟨aa, nx, vx⟩, ⟨bb, ly, vy⟩⟩ => [.own (.slice A_ve1 m c_ve1) 80 2 m (ints es), .own (.slice A_vi1 ni c_vi1) 3 1 ni (ints is), .own (.slice A_vo1 no c_vo1) 3 1 no (ints os), .own vx 3 1 aa (ints nx), .own vy 3 1 bb (ints ly), .blk b5 38 [vx, vy], .blk b4 26 [.int .i64 (((N : Nat) : Int)), .slice A_ve1 m c_ve1, .slice A_vi1 ni c_vi1, .slice A_vo1 no c_vo1], .blk b2 38 [.slice none 0 0, .slice none 0 0], .blk b1 26 [.int .i64 0, .slice none 0 0, .slice none 0 0, .slice none 0 0], .blk b3 64 [.slice Ac n cc, .int .i64 (((sc2.1 : Nat) : Int)), .int .u64 (sc2.2)]]) (fun ⟨sc2, ⟨aa, nx, vx⟩, ⟨bb, ly, vy⟩⟩ => sc2.1 ≤ 200 ∧ aa = N ∧ bb = N) ?_ ?_
  ·refine Run.cond (b := !((gfO es m N is ni os no).isSome)) rfl (fun h24 => ?_) (fun h24 => ?_)
   ·have p24 := h24; try simp only [bs] at p24
    refine Run.lastlyB [7] [.blk b4 26 [.int .i64 (((N : Nat) : Int)), .slice A_ve1 m c_ve1, .slice A_vi1 ni c_vi1, .slice A_vo1 no c_vo1]] (by kernel_rfl) ?_
    refine DL.takeP (i := 0) (v := .pointer (some ⟨b4, 0, none⟩)) rfl (by kernel_rfl) (by kernel_rfl) (by kernel_rfl) (fun _ _ _ h => h) rfl (fun _ => OpY.fieldAddr Tfo_26_0 rfl rfl) ?_
    refine DL.take (i := 1) (v := .int .i64 (((N : Nat) : Int))) rfl (by kernel_rfl) (by kernel_rfl) (by kernel_rfl) (by kernel_rfl) (fun _ _ _ h => h) (Some'.weak (.skip (.skip (.skip (.take (.nil _)))))) rfl (OpY.load1 Tone_3 rfl (Cells.blk (.head _) ⟨rfl, trivial⟩)) ?_
    refine DL.takeP (i := 3) (v := .pointer (some ⟨b4, 0, none⟩)) rfl (by kernel_rfl) (by kernel_rfl) (by kernel_rfl) (fun _ _ _ h => h) rfl (fun _ => OpY.fieldAddr Tfo_26_0 rfl rfl) ?_
    refine DL.take (i := 4) (v := .int .i64 (((N : Nat) : Int))) rfl (by kernel_rfl) (by kernel_rfl) (by kernel_rfl) (by kernel_rfl) (fun _ _ _ h => h) (Some'.weak (.skip (.skip (.skip (.take (.nil _)))))) rfl (OpY.load1 Tone_3 rfl (Cells.blk (.head _) ⟨rfl, trivial⟩)) ?_
    refine DL.two (i := 2) (j := 5) (by kernel_rfl) rfl rfl rfl rfl ?_ ?_
    ·refine OpStep.makeSlice (n := N) Tsl_24 rfl (by decide) (by first | rfl | omega) (by first | rfl | omega) (by omega) (by simp only [maxLen]; omega) fun b6 => ?_
     refine ⟨(Some'.weak (.skip (.skip (.skip (.skip (.take (.nil _))))))), ?_⟩
     refine DL.stepS (i := 5) (by kernel_rfl) rfl rfl (OpStep.makeSlice (n := N) Tsl_24 rfl (by decide) (by first | rfl | omega) (by first | rfl | omega) (by omega) (by simp only [maxLen]; omega) fun b7 => ?_)
     refine ⟨(Some'.weak (.skip (.skip (.skip (.skip (.skip (.take (.nil _)))))))), ?_⟩
     refine DL.takeP (i := 6) (v := .agg #[.slice (some ⟨b6, 0, none⟩) N N, .slice (some ⟨b7, 0, none⟩) N N]) rfl (by kernel_rfl) (by kernel_rfl) (by kernel_rfl) (fun _ _ _ h => h) rfl (fun _ => OpY.build (cs := [.slice (some ⟨b6, 0, none⟩) N N, .slice (some ⟨b7, 0, none⟩) N N]) (by kernel_rfl)) ?_
     refine DL.step (i := 7) (by kernel_rfl) (by kernel_rfl) rfl rfl (OpStep.storeAll (us := [.slice (some ⟨b6, 0, none⟩) N N, .slice (some ⟨b7, 0, none⟩) N N]) Tsize_38 rfl rfl rfl (.there _ (.there _ (.here _))) rfl ?_)
     refine DL.done (by kernel_rfl) ?_
     refine Run.goal ⟨(by repeat (first | exact Same.refl _ _ | refine Same.put rfl ?_ | refine Same.over rfl rfl ?_)), (sg, (N, (List.replicate N 0), .slice (some ⟨b6, 0, none⟩) N N), (N, (List.replicate N 0), .slice (some ⟨b7, 0, none⟩) N N)), ?_, ?_, ?_⟩
     ·first | exact ⟨by omega, by omega, by omega⟩ | exact ⟨by omega, hgl.2.1, hgl.2.2.1⟩
     ·exact trivial
     ·exact ((Weak.selF [6, 6, 6, 1, 0, 0, 2, 3, 3, 2]).trans (Some'.weak (.takeEq (by first | rfl | (rw [rep0]) | simp) (.takeEq (by first | rfl | (rw [rep0]) | simp) (.takeEq (by first | rfl | (rw [rep0]) | simp) (.takeEq (by first | rfl | (rw [rep0]) | simp) (.takeEq (by first | rfl | (rw [rep0]) | simp) (.takeEq (by first | rfl | (rw [rep0]) | simp) (.take (.take (.take (.takeEq (by first | rfl | (rw [rep0]) | simp) (.nil _)))))))))))))
    ·refine OpStep.makeSlice (n := N) Tsl_24 rfl (by decide) (by first | rfl | omega) (by first | rfl | omega) (by omega) (by simp only [maxLen]; omega) fun b8 => ?_
     refine ⟨(Some'.weak (.skip (.skip (.skip (.skip (.take (.nil _))))))), ?_⟩
     refine DL.stepS (i := 2) (by kernel_rfl) rfl rfl (OpStep.makeSlice (n := N) Tsl_24 rfl (by decide) (by first | rfl | omega) (by first | rfl | omega) (by omega) (by simp only [maxLen]; omega) fun b9 => ?_)
     refine ⟨(Some'.weak (.skip (.skip (.skip (.skip (.skip (.take (.nil _)))))))), ?_⟩
     refine DL.takeP (i := 6) (v := .agg #[.slice (some ⟨b9, 0, none⟩) N N, .slice (some ⟨b8, 0, none⟩) N N]) rfl (by kernel_rfl) (by kernel_rfl) (by kernel_rfl) (fun _ _ _ h => h) rfl (fun _ => OpY.build (cs := [.slice (some ⟨b9, 0, none⟩) N N, .slice (some ⟨b8, 0, none⟩) N N]) (by kernel_rfl)) ?_
     refine DL.step (i := 7) (by kernel_rfl) (by kernel_rfl) rfl rfl (OpStep.storeAll (us := [.slice (some ⟨b9, 0, none⟩) N N, .slice (some ⟨b8, 0, none⟩) N N]) Tsize_38 rfl rfl rfl (.there _ (.there _ (.here _))) rfl ?_)
     refine DL.done (by kernel_rfl) ?_
     refine Run.goal ⟨(by repeat (first | exact Same.refl _ _ | refine Same.put rfl ?_ | refine Same.over rfl rfl ?_)), (sg, (N, (List.replicate N 0), .slice (some ⟨b9, 0, none⟩) N N), (N, (List.replicate N 0), .slice (some ⟨b8, 0, none⟩) N N)), ?_, ?_, ?_⟩
     ·first | exact ⟨by omega, by omega, by omega⟩ | exact ⟨by omega, hgl.2.1, hgl.2.2.1⟩
     ·exact trivial
     ·exact ((Weak.selF [6, 6, 6, 0, 0, 0, 2, 3, 3, 2]).trans (Some'.weak (.takeEq (by first | rfl | (rw [rep0]) | simp) (.takeEq (by first | rfl | (rw [rep0]) | simp) (.takeEq (by first | rfl | (rw [rep0]) | simp) (.takeEq (by first | rfl | (rw [rep0]) | simp) (.takeEq (by first | rfl | (rw [rep0]) | simp) (.takeEq (by first | rfl | (rw [rep0]) | simp) (.take (.take (.take (.takeEq (by first | rfl | (rw [rep0]) | simp) (.nil _)))))))))))))
   ·have p24 := h24; try simp only [bs] at p24
    have hgl := gf_len (show (gfO es m N is ni os no).isSome = true by simpa using p24)
    refine Run.skip ?_
    refine Run.goal ⟨(by repeat (first | exact Same.refl _ _ | refine Same.put rfl ?_ | refine Same.over rfl rfl ?_)), (sg, ((gfA es m N is ni os no).length, ((gfA es m N is ni os no)), .slice A_u11 ((gfA es m N is ni os no).length) c_u11), ((gfL es m N is ni os no).length, ((gfL es m N is ni os no)), .slice A_u21 ((gfL es m N is ni os no).length) c_u21)), ?_, ?_, ?_⟩
    ·first | exact ⟨by omega, by omega, by omega⟩ | exact ⟨by omega, hgl.2.1, hgl.2.2.1⟩
    ·exact trivial
    ·exact ((Weak.selF [4, 4, 4, 1, 1, 0, 0, 1, 1, 0]).trans (Some'.weak (.takeEq (by first | rfl | (rw [rep0]) | simp) (.takeEq (by first | rfl | (rw [rep0]) | simp) (.takeEq (by first | rfl | (rw [rep0]) | simp) (.takeEq (by first | rfl | (rw [rep0]) | simp) (.takeEq (by first | rfl | (rw [rep0]) | simp) (.takeEq (by first | rfl | (rw [rep0]) | simp) (.take (.take (.take (.takeEq (by first | rfl | (rw [rep0]) | simp) (.nil _)))))))))))))
  ·rintro ⟨sc2, ⟨aa, nx, vx⟩, ⟨bb, ly, vy⟩⟩ fr hcut
   show Run _ _ (over _ _ [] fr) [.own (.slice A_ve1 m c_ve1) 80 2 m (ints es), .own (.slice A_vi1 ni c_vi1) 3 1 ni (ints is), .own (.slice A_vo1 no c_vo1) 3 1 no (ints os), .own vx 3 1 aa (ints nx), .own vy 3 1 bb (ints ly), .blk b5 38 [vx, vy], .blk b4 26 [.int .i64 (((N : Nat) : Int)), .slice A_ve1 m c_ve1, .slice A_vi1 ni c_vi1, .slice A_vo1 no c_vo1], .blk b2 38 [.slice none 0 0, .slice none 0 0], .blk b1 26 [.int .i64 0, .slice none 0 0, .slice none 0 0, .slice none 0 0], .blk b3 64 [.slice Ac n cc, .int .i64 (((sc2.1 : Nat) : Int)), .int .u64 (sc2.2)]]
   obtain ⟨hsc2, haa, hbb⟩ : sc2.1 ≤ 200 ∧ aa = N ∧ bb = N := hcut
   refine Run.seq ?_
   refine Run.sr ?_
   refine Run.p (.pointer (some ⟨b3, 0, none⟩)) rfl rfl ?_
   refine Run.step rfl (OpStep.callM (H1 := [.blk b3 64 [.slice Ac n cc, .int .i64 (((sc2.1 : Nat) : Int)), .int .u64 (sc2.2)]]) (H2 := [.own (.slice A_ve1 m c_ve1) 80 2 m (ints es), .own (.slice A_vi1 ni c_vi1) 3 1 ni (ints is), .own (.slice A_vo1 no c_vo1) 3 1 no (ints os), .own vx 3 1 aa (ints nx), .own vy 3 1 bb (ints ly), .blk b5 38 [vx, vy], .blk b4 26 [.int .i64 (((N : Nat) : Int)), .slice A_ve1 m c_ve1, .slice A_vi1 ni c_vi1, .slice A_vo1 no c_vo1], .blk b2 38 [.slice none 0 0, .slice none 0 0], .blk b1 26 [.int .i64 0, .slice none 0 0, .slice none 0 0, .slice none 0 0]]) (vs := [.pointer (some ⟨b3, 0, none⟩), .int .i64 4]) (caps := []) Tcall_42 rfl rfl (Weak.selF [9]) (fun w hs => one_ex (s := sc2) (by omega) (Cur.top ha hby hs (.head _)) (hs.sub (List.sublist_append_left _ _)).self) ?_)
   rintro _ _ ⟨x1, s1, hs1, rfl, rfl⟩
   show Run _ _ (putF _ _ _ (.bool x1)) [.blk b3 64 [.slice Ac n cc, .int .i64 (((s1.1 : Nat) : Int)), .int .u64 (s1.2)], .own (.slice A_ve1 m c_ve1) 80 2 m (ints es), .own (.slice A_vi1 ni c_vi1) 3 1 ni (ints is), .own (.slice A_vo1 no c_vo1) 3 1 no (ints os), .own vx 3 1 aa (ints nx), .own vy 3 1 bb (ints ly), .blk b5 38 [vx, vy], .blk b4 26 [.int .i64 (((N : Nat) : Int)), .slice A_ve1 m c_ve1, .slice A_vi1 ni c_vi1, .slice A_vo1 no c_vo1], .blk b2 38 [.slice none 0 0, .slice none 0 0], .blk b1 26 [.int .i64 0, .slice none 0 0, .slice none 0 0, .slice none 0 0]]
   refine Run.done ?_
   refine Run.cut (ι := (Nat × Int) × (Nat × List Int × Value) × (Nat × List Int × Value)) [34, 35, 36, 37, 38, 39, 40, 41, 42, 43, 44, 45, 46] (fun ⟨sc2, ⟨aa, nx, vx⟩, ⟨bb, ly, vy⟩⟩ => []) (fun ⟨sc2, ⟨aa, nx, vx⟩, ⟨bb, ly, vy⟩⟩ => [.own (.slice A_ve1 m c_ve1) 80 2 m (ints es), .own (.slice A_vi1 ni c_vi1) 3 1 ni (ints is), .own (.slice A_vo1 no c_vo1) 3 1 no (ints os), .own vx 3 1 aa (ints nx), .own vy 3 1 bb (ints ly), .blk b5 38 [vx, vy], .blk b4 26 [.int .i64 (((N : Nat) : Int)), .slice A_ve1 m c_ve1, .slice A_vi1 ni c_vi1, .slice A_vo1 no c_vo1], .blk b2 38 [.slice none 0 0, .slice none 0 0], .blk b1 26 [.int .i64 0, .slice none 0 0, .slice none 0 0, .slice none 0 0], .blk b3 64 [.slice Ac n cc, .int .i64 (((sc2.1 : Nat) : Int)), .int .u64 (sc2.2)]]) (fun ⟨sc2, ⟨aa, nx, vx⟩, ⟨bb, ly, vy⟩⟩ => sc2.1 ≤ 210 ∧ aa = N ∧ bb = N) ?_ ?_
   ·refine Run.cond (b := x1) rfl (fun h33 => ?_) (fun h33 => ?_)
    ·have p33 := h33; try simp only [bs] at p33
     refine Run.openOwn (.tail _ (.tail _ (.tail _ (.tail _ (List.Mem.head _))))) (by omega) (fun g1 cg1 hvg1 hcapg1 _ => ?_) (fun _ _ _ => ⟨nofun, nofun, nofun⟩)
     subst hvg1
     refine Run.lastlyB [13] [.blk b5 38 [.slice (some ⟨g1, 0, none⟩) aa cg1, vy], .blk b4 26 [.int .i64 (((N : Nat) : Int)), .slice A_ve1 m c_ve1, .slice A_vi1 ni c_vi1, .slice A_vo1 no c_vo1], .blk b2 38 [.slice none 0 0, .slice none 0 0], .blk b1 26 [.int .i64 0, .slice none 0 0, .slice none 0 0, .slice none 0 0]] (by kernel_rfl) ?_
     refine DL.takeP (i := 0) (v := .pointer (some ⟨b5, 0, none⟩)) rfl (by kernel_rfl) (by kernel_rfl) (by kernel_rfl) (fun _ _ _ h => h) rfl (fun _ => OpY.fieldAddr Tfo_38_0 rfl rfl) ?_
     refine DL.take (i := 1) (v := .slice (some ⟨g1, 0, none⟩) aa cg1) rfl (by kernel_rfl) (by kernel_rfl) (by kernel_rfl) (by kernel_rfl) (fun _ _ _ h => h) (Some'.weak (.skip (.skip (.skip (.skip (.skip (.skip (.take (.take (.take (.take (.nil _)))))))))))) rfl (OpY.load1 Tone_24 rfl (Cells.blk (.head _) ⟨rfl, trivial⟩)) ?_
     refine DL.takeP (i := 2) (v := .pointer (some ⟨b3, 0, none⟩)) rfl (by kernel_rfl) (by kernel_rfl) (by kernel_rfl) (fun _ _ _ h => h) rfl (fun _ => OpY.pure rfl) ?_
     refine DL.takeP (i := 3) (v := .pointer (some ⟨b4, 0, none⟩)) rfl (by kernel_rfl) (by kernel_rfl) (by kernel_rfl) (fun _ _ _ h => h) rfl (fun _ => OpY.fieldAddr Tfo_26_0 rfl rfl) ?_
     refine DL.take (i := 4) (v := .int .i64 (((N : Nat) : Int))) rfl (by kernel_rfl) (by kernel_rfl) (by kernel_rfl) (by kernel_rfl) (fun _ _ _ h => h) (Some'.weak (.skip (.skip (.skip (.skip (.skip (.skip (.take (.take (.take (.take (.nil _)))))))))))) rfl (OpY.load1 Tone_3 rfl (Cells.blk (.tail _ (List.Mem.head _)) ⟨rfl, trivial⟩)) ?_
     refine DL.takeP (i := 6) (v := .pointer (some ⟨b3, 0, none⟩)) rfl (by kernel_rfl) (by kernel_rfl) (by kernel_rfl) (fun _ _ _ h => h) rfl (fun _ => OpY.pure rfl) ?_
     refine DL.takeP (i := 7) (v := .pointer (some ⟨b4, 0, none⟩)) rfl (by kernel_rfl) (by kernel_rfl) (by kernel_rfl) (fun _ _ _ h => h) rfl (fun _ => OpY.fieldAddr Tfo_26_0 rfl rfl) ?_
     refine DL.take (i := 8) (v := .int .i64 (((N : Nat) : Int))) rfl (by kernel_rfl) (by kernel_rfl) (by kernel_rfl) (by kernel_rfl) (fun _ _ _ h => h) (Some'.weak (.skip (.skip (.skip (.skip (.skip (.skip (.take (.take (.take (.take (.nil _)))))))))))) rfl (OpY.load1 Tone_3 rfl (Cells.blk (.tail _ (List.Mem.head _)) ⟨rfl, trivial⟩)) ?_
     refine DL.takeP (i := 9) (v := .int .u64 (((N : Nat) : Int))) rfl (by kernel_rfl) (by kernel_rfl) (by kernel_rfl) (fun _ _ _ h => h) rfl (fun _ => OpY.convIntEq Tsome_3 Tint_52 rfl (by rw [IntKind.wrap_u64]; omega)) ?_
     refine DL.takeP (i := 10) (v := .int .i64 (((q : Nat) : Int))) rfl (by kernel_rfl) (by kernel_rfl) (by kernel_rfl) (fun _ _ _ h => h) rfl (fun _ => OpY.shlOne rfl rfl rfl (by omega) hq) ?_
     refine DL.stepS (i := 5) (by kernel_rfl) rfl rfl (OpStep.callM (H1 := [.blk b3 64 [.slice Ac n cc, .int .i64 (((s1.1 : Nat) : Int)), .int .u64 (s1.2)]]) (H2 := [.own (.slice A_ve1 m c_ve1) 80 2 m (ints es), .own (.slice A_vi1 ni c_vi1) 3 1 ni (ints is), .own (.slice A_vo1 no c_vo1) 3 1 no (ints os), .own (.slice (some ⟨g1, 0, none⟩) aa cg1) 3 1 aa (ints nx), .own vy 3 1 bb (ints ly), .blk b5 38 [.slice (some ⟨g1, 0, none⟩) aa cg1, vy], .blk b4 26 [.int .i64 (((N : Nat) : Int)), .slice A_ve1 m c_ve1, .slice A_vi1 ni c_vi1, .slice A_vo1 no c_vo1], .blk b2 38 [.slice none 0 0, .slice none 0 0], .blk b1 26 [.int .i64 0, .slice none 0 0, .slice none 0 0, .slice none 0 0]]) (vs := [.pointer (some ⟨b3, 0, none⟩), .int .i64 (((N : Nat) : Int))]) (caps := []) Tcall_43 rfl rfl (Weak.refl _) (fun w hs => pick_ex (s := s1) (by omega) (Cur.top ha hby hs (.head _)) (hs.sub (List.sublist_append_left _ _)).self) ?_)
     rintro _ _ ⟨x2, s2, hx2, hs2, rfl, rfl⟩
     refine ⟨(Some'.weak (.skip (.skip (.skip (.skip (.skip (.skip (.take (.take (.take (.take (.nil _)))))))))))), ?_⟩
     refine DL.stepS (i := 11) (by kernel_rfl) rfl rfl (OpStep.callM (H1 := [.blk b3 64 [.slice Ac n cc, .int .i64 (((s2.1 : Nat) : Int)), .int .u64 (s2.2)]]) (H2 := [.own (.slice A_ve1 m c_ve1) 80 2 m (ints es), .own (.slice A_vi1 ni c_vi1) 3 1 ni (ints is), .own (.slice A_vo1 no c_vo1) 3 1 no (ints os), .own (.slice (some ⟨g1, 0, none⟩) aa cg1) 3 1 aa (ints nx), .own vy 3 1 bb (ints ly), .blk b5 38 [.slice (some ⟨g1, 0, none⟩) aa cg1, vy], .blk b4 26 [.int .i64 (((N : Nat) : Int)), .slice A_ve1 m c_ve1, .slice A_vi1 ni c_vi1, .slice A_vo1 no c_vo1], .blk b2 38 [.slice none 0 0, .slice none 0 0], .blk b1 26 [.int .i64 0, .slice none 0 0, .slice none 0 0, .slice none 0 0]]) (vs := [.pointer (some ⟨b3, 0, none⟩), .int .i64 (((q : Nat) : Int))]) (caps := []) Tcall_43 rfl rfl (Weak.refl _) (fun w hs => pick_ex (s := s2) (by omega) (Cur.top ha hby hs (.head _)) (hs.sub (List.sublist_append_left _ _)).self) ?_)
     rintro _ _ ⟨x3, s3, hx3, hs3, rfl, rfl⟩
     refine ⟨(Some'.weak (.skip (.skip (.skip (.skip (.skip (.skip (.take (.take (.take (.take (.nil _)))))))))))), ?_⟩
     refine DL.takeP (i := 12) (v := .pointer (some ⟨g1, (x2).toNat, none⟩)) rfl (by kernel_rfl) (by kernel_rfl) (by kernel_rfl) (fun _ _ _ h => h) rfl (fun _ => OpY.index (kk := (x2).toNat) Tsl_24 rfl rfl (by omega) (by omega) (by first | rfl | omega)) ?_
     refine DL.step (i := 13) (by kernel_rfl) (by kernel_rfl) rfl rfl (OpStep.storeOwnInt (o := (x2).toNat) (a := x3) Tsize_3 rfl rfl (.there _ (.there _ (.there _ (.there _ (.here _))))) (by omega) ?_)
     refine DL.done (by kernel_rfl) ?_
     refine Run.goal ⟨(by repeat (first | exact Same.refl _ _ | refine Same.put rfl ?_ | refine Same.over rfl rfl ?_)), (s3, (aa, ((nx.set ((x2).toNat) x3)), .slice (some ⟨g1, 0, none⟩) aa cg1), (bb, ly, vy)), ?_, ?_, ?_⟩
     ·first | exact ⟨by omega, by omega, by omega⟩ | exact ⟨by omega, hgl.2.1, hgl.2.2.1⟩
     ·exact trivial
     ·exact ((Weak.selF [1, 1, 1, 1, 1, 1, 1, 1, 1, 0]).trans (Some'.weak (.takeEq (by first | rfl | (rw [rep0]) | simp) (.takeEq (by first | rfl | (rw [rep0]) | simp) (.takeEq (by first | rfl | (rw [rep0]) | simp) (.takeEq (by first | rfl | (rw [rep0]) | simp) (.takeEq (by first | rfl | (rw [rep0]) | simp) (.takeEq (by first | rfl | (rw [rep0]) | simp) (.take (.take (.take (.takeEq (by first | rfl | (rw [rep0]) | simp) (.nil _)))))))))))))
    ·have p33 := h33; try simp only [bs] at p33
     refine Run.skip ?_
     refine Run.goal ⟨(by repeat (first | exact Same.refl _ _ | refine Same.put rfl ?_ | refine Same.over rfl rfl ?_)), (s1, (aa, nx, vx), (bb, ly, vy)), ?_, ?_, ?_⟩
     ·first | exact ⟨by omega, by omega, by omega⟩ | exact ⟨by omega, hgl.2.1, hgl.2.2.1⟩
     ·exact trivial
     ·exact ((Weak.selF [1, 1, 1, 1, 1, 1, 1, 1, 1, 0]).trans (Some'.weak (.takeEq (by first | rfl | (rw [rep0]) | simp) (.takeEq (by first | rfl | (rw [rep0]) | simp) (.takeEq (by first | rfl | (rw [rep0]) | simp) (.takeEq (by first | rfl | (rw [rep0]) | simp) (.takeEq (by first | rfl | (rw [rep0]) | simp) (.take (.take (.take (.take (.takeEq (by first | rfl | (rw [rep0]) | simp) (.nil _)))))))))))))
   ·rintro ⟨sc2, ⟨aa, nx, vx⟩, ⟨bb, ly, vy⟩⟩ fr hcut
    show Run _ _ (over _ _ [] fr) [.own (.slice A_ve1 m c_ve1) 80 2 m (ints es), .own (.slice A_vi1 ni c_vi1) 3 1 ni (ints is), .own (.slice A_vo1 no c_vo1) 3 1 no (ints os), .own vx 3 1 aa (ints nx), .own vy 3 1 bb (ints ly), .blk b5 38 [vx, vy], .blk b4 26 [.int .i64 (((N : Nat) : Int)), .slice A_ve1 m c_ve1, .slice A_vi1 ni c_vi1, .slice A_vo1 no c_vo1], .blk b2 38 [.slice none 0 0, .slice none 0 0], .blk b1 26 [.int .i64 0, .slice none 0 0, .slice none 0 0, .slice none 0 0], .blk b3 64 [.slice Ac n cc, .int .i64 (((sc2.1 : Nat) : Int)), .int .u64 (sc2.2)]]
    obtain ⟨hsc2, haa, hbb⟩ : sc2.1 ≤ 210 ∧ aa = N ∧ bb = N := hcut
    refine Run.seq ?_
    refine Run.sr ?_
    refine Run.p (.pointer (some ⟨b3, 0, none⟩)) rfl rfl ?_
    refine Run.step rfl (OpStep.callM (H1 := [.blk b3 64 [.slice Ac n cc, .int .i64 (((sc2.1 : Nat) : Int)), .int .u64 (sc2.2)]]) (H2 := [.own (.slice A_ve1 m c_ve1) 80 2 m (ints es), .own (.slice A_vi1 ni c_vi1) 3 1 ni (ints is), .own (.slice A_vo1 no c_vo1) 3 1 no (ints os), .own vx 3 1 aa (ints nx), .own vy 3 1 bb (ints ly), .blk b5 38 [vx, vy], .blk b4 26 [.int .i64 (((N : Nat) : Int)), .slice A_ve1 m c_ve1, .slice A_vi1 ni c_vi1, .slice A_vo1 no c_vo1], .blk b2 38 [.slice none 0 0, .slice none 0 0], .blk b1 26 [.int .i64 0, .slice none 0 0, .slice none 0 0, .slice none 0 0]]) (vs := [.pointer (some ⟨b3, 0, none⟩), .int .i64 4]) (caps := []) Tcall_42 rfl rfl (Weak.selF [9]) (fun w hs => one_ex (s := sc2) (by omega) (Cur.top ha hby hs (.head _)) (hs.sub (List.sublist_append_left _ _)).self) ?_)
    rintro _ _ ⟨x4, s4, hs4, rfl, rfl⟩
    show Run _ _ (putF _ _ _ (.bool x4)) [.blk b3 64 [.slice Ac n cc, .int .i64 (((s4.1 : Nat) : Int)), .int .u64 (s4.2)], .own (.slice A_ve1 m c_ve1) 80 2 m (ints es), .own (.slice A_vi1 ni c_vi1) 3 1 ni (ints is), .own (.slice A_vo1 no c_vo1) 3 1 no (ints os), .own vx 3 1 aa (ints nx), .own vy 3 1 bb (ints ly), .blk b5 38 [vx, vy], .blk b4 26 [.int .i64 (((N : Nat) : Int)), .slice A_ve1 m c_ve1, .slice A_vi1 ni c_vi1, .slice A_vo1 no c_vo1], .blk b2 38 [.slice none 0 0, .slice none 0 0], .blk b1 26 [.int .i64 0, .slice none 0 0, .slice none 0 0, .slice none 0 0]]
    refine Run.done ?_
    refine Run.cut (ι := (Nat × Int) × (Nat × List Int × Value) × (Nat × List Int × Value)) [49, 50, 51, 52, 53, 54, 55, 56, 57, 58] (fun ⟨sc2, ⟨aa, nx, vx⟩, ⟨bb, ly, vy⟩⟩ => []) (fun ⟨sc2, ⟨aa, nx, vx⟩, ⟨bb, ly, vy⟩⟩ => [.own (.slice A_ve1 m c_ve1) 80 2 m (ints es), .own (.slice A_vi1 ni c_vi1) 3 1 ni (ints is), .own (.slice A_vo1 no c_vo1) 3 1 no (ints os), .own vx 3 1 aa (ints nx), .own vy 3 1 bb (ints ly), .blk b5 38 [vx, vy], .blk b4 26 [.int .i64 (((N : Nat) : Int)), .slice A_ve1 m c_ve1, .slice A_vi1 ni c_vi1, .slice A_vo1 no c_vo1], .blk b2 38 [.slice none 0 0, .slice none 0 0], .blk b1 26 [.int .i64 0, .slice none 0 0, .slice none 0 0, .slice none 0 0], .blk b3 64 [.slice Ac n cc, .int .i64 (((sc2.1 : Nat) : Int)), .int .u64 (sc2.2)]]) (fun ⟨sc2, ⟨aa, nx, vx⟩, ⟨bb, ly, vy⟩⟩ => sc2.1 ≤ 220 ∧ aa = N ∧ bb = N) ?_ ?_
    ·refine Run.cond (b := x4) rfl (fun h48 => ?_) (fun h48 => ?_)
     ·have p48 := h48; try simp only [bs] at p48
      refine Run.openOwn (.tail _ (.tail _ (.tail _ (.tail _ (.tail _ (List.Mem.head _)))))) (by omega) (fun g2 cg2 hvg2 hcapg2 _ => ?_) (fun _ _ _ => ⟨nofun, nofun, nofun⟩)
      subst hvg2
      refine Run.lastlyB [10] [.blk b5 38 [vx, .slice (some ⟨g2, 0, none⟩) bb cg2], .blk b4 26 [.int .i64 (((N : Nat) : Int)), .slice A_ve1 m c_ve1, .slice A_vi1 ni c_vi1, .slice A_vo1 no c_vo1], .blk b2 38 [.slice none 0 0, .slice none 0 0], .blk b1 26 [.int .i64 0, .slice none 0 0, .slice none 0 0, .slice none 0 0]] (by kernel_rfl) ?_
      refine DL.takeP (i := 0) (v := .pointer (some ⟨b5, 1, none⟩)) rfl (by kernel_rfl) (by kernel_rfl) (by kernel_rfl) (fun _ _ _ h => h) rfl (fun _ => OpY.fieldAddr Tfo_38_1 rfl rfl) ?_
      refine DL.take (i := 1) (v := .slice (some ⟨g2, 0, none⟩) bb cg2) rfl (by kernel_rfl) (by kernel_rfl) (by kernel_rfl) (by kernel_rfl) (fun _ _ _ h => h) (Some'.weak (.skip (.skip (.skip (.skip (.skip (.skip (.take (.take (.take (.take (.nil _)))))))))))) rfl (OpY.load1 Tone_24 rfl (Cells.blk (.head _) ⟨rfl, trivial⟩)) ?_
      refine DL.takeP (i := 2) (v := .pointer (some ⟨b3, 0, none⟩)) rfl (by kernel_rfl) (by kernel_rfl) (by kernel_rfl) (fun _ _ _ h => h) rfl (fun _ => OpY.pure rfl) ?_
      refine DL.takeP (i := 3) (v := .pointer (some ⟨b4, 0, none⟩)) rfl (by kernel_rfl) (by kernel_rfl) (by kernel_rfl) (fun _ _ _ h => h) rfl (fun _ => OpY.fieldAddr Tfo_26_0 rfl rfl) ?_
      refine DL.take (i := 4) (v := .int .i64 (((N : Nat) : Int))) rfl (by kernel_rfl) (by kernel_rfl) (by kernel_rfl) (by kernel_rfl) (fun _ _ _ h => h) (Some'.weak (.skip (.skip (.skip (.skip (.skip (.skip (.take (.take (.take (.take (.nil _)))))))))))) rfl (OpY.load1 Tone_3 rfl (Cells.blk (.tail _ (List.Mem.head _)) ⟨rfl, trivial⟩)) ?_
      refine DL.takeP (i := 6) (v := .pointer (some ⟨b3, 0, none⟩)) rfl (by kernel_rfl) (by kernel_rfl) (by kernel_rfl) (fun _ _ _ h => h) rfl (fun _ => OpY.pure rfl) ?_
      refine DL.two (i := 5) (j := 7) (by kernel_rfl) rfl rfl rfl rfl ?_ ?_
      ·refine OpStep.callM (H1 := [.blk b3 64 [.slice Ac n cc, .int .i64 (((s4.1 : Nat) : Int)), .int .u64 (s4.2)]]) (H2 := [.own (.slice A_ve1 m c_ve1) 80 2 m (ints es), .own (.slice A_vi1 ni c_vi1) 3 1 ni (ints is), .own (.slice A_vo1 no c_vo1) 3 1 no (ints os), .own vx 3 1 aa (ints nx), .own (.slice (some ⟨g2, 0, none⟩) bb cg2) 3 1 bb (ints ly), .blk b5 38 [vx, .slice (some ⟨g2, 0, none⟩) bb cg2], .blk b4 26 [.int .i64 (((N : Nat) : Int)), .slice A_ve1 m c_ve1, .slice A_vi1 ni c_vi1, .slice A_vo1 no c_vo1], .blk b2 38 [.slice none 0 0, .slice none 0 0], .blk b1 26 [.int .i64 0, .slice none 0 0, .slice none 0 0, .slice none 0 0]]) (vs := [.pointer (some ⟨b3, 0, none⟩), .int .i64 (((N : Nat) : Int))]) (caps := []) Tcall_43 rfl rfl (Weak.refl _) (fun w hs => pick_ex (s := s4) (by omega) (Cur.top ha hby hs (.head _)) (hs.sub (List.sublist_append_left _ _)).self) ?_
       rintro _ _ ⟨x5, s5, hx5, hs5, rfl, rfl⟩
       refine ⟨(Some'.weak (.skip (.skip (.skip (.skip (.skip (.skip (.take (.take (.take (.take (.nil _)))))))))))), ?_⟩
       refine DL.stepS (i := 7) (by kernel_rfl) rfl rfl (OpStep.buildSlice (us := [.int .i64 0, .int .i64 1, .int .i64 2, .int .i64 3, .int .i64 100, .int .i64 101, .int .i64 (-1)]) Tsl_24 (by decide) (by decide) ⟨rfl, [.int .i64 0], _, rfl, rfl, rfl, ⟨rfl, [.int .i64 1], _, rfl, rfl, rfl, ⟨rfl, [.int .i64 2], _, rfl, rfl, rfl, ⟨rfl, [.int .i64 3], _, rfl, rfl, rfl, ⟨rfl, [.int .i64 100], _, rfl, rfl, rfl, ⟨rfl, [.int .i64 101], _, rfl, rfl, rfl, ⟨rfl, [.int .i64 (-1)], _, rfl, rfl, rfl, rfl⟩⟩⟩⟩⟩⟩⟩ rfl fun b10 => ?_)
       refine ⟨(Some'.weak (.skip (.skip (.skip (.skip (.skip (.skip (.skip (.take (.take (.take (.take (.nil _))))))))))))), ?_⟩
       refine DL.stepS (i := 8) (by kernel_rfl) rfl rfl (OpStep.callM (H1 := [.blk b3 64 [.slice Ac n cc, .int .i64 (((s5.1 : Nat) : Int)), .int .u64 (s5.2)], .own (.slice (some ⟨b10, 0, none⟩) 7 7) 3 1 7 (ints [0, 1, 2, 3, 100, 101, -1])]) (H2 := [.own (.slice A_ve1 m c_ve1) 80 2 m (ints es), .own (.slice A_vi1 ni c_vi1) 3 1 ni (ints is), .own (.slice A_vo1 no c_vo1) 3 1 no (ints os), .own vx 3 1 aa (ints nx), .own (.slice (some ⟨g2, 0, none⟩) bb cg2) 3 1 bb (ints ly), .blk b5 38 [vx, .slice (some ⟨g2, 0, none⟩) bb cg2], .blk b4 26 [.int .i64 (((N : Nat) : Int)), .slice A_ve1 m c_ve1, .slice A_vi1 ni c_vi1, .slice A_vo1 no c_vo1], .blk b2 38 [.slice none 0 0, .slice none 0 0], .blk b1 26 [.int .i64 0, .slice none 0 0, .slice none 0 0, .slice none 0 0]]) (vs := [.pointer (some ⟨b3, 0, none⟩), .slice (some ⟨b10, 0, none⟩) 7 7]) (caps := []) Tcall_44 rfl rfl (Weak.selF [1, 0]) (fun w hs => among_spec (s := s5) (by omega) (by decide) (Cur.top ha hby hs (.head _)) (Cur.apart0 ha hs (.tail _ (.head _))) (hs.sub (List.sublist_append_left _ _)).self) ?_)
       rintro _ _ ⟨i1, s6, hi1, hs6, rfl, rfl⟩
       have hixi1 : -1 ≤ ix [0, 1, 2, 3, 100, 101, -1] i1 ∧ ix [0, 1, 2, 3, 100, 101, -1] i1 ≤ 101 := by
        rcases (by omega : i1 = 0 ∨ i1 = 1 ∨ i1 = 2 ∨ i1 = 3 ∨ i1 = 4 ∨ i1 = 5 ∨ i1 = 6) with rfl | rfl | rfl | rfl | rfl | rfl | rfl <;> simp [ix]
       refine ⟨(Some'.weak (.skip (.skip (.skip (.skip (.skip (.skip (.take (.take (.take (.take (.nil _)))))))))))), ?_⟩
       refine DL.takeP (i := 9) (v := .pointer (some ⟨g2, (x5).toNat, none⟩)) rfl (by kernel_rfl) (by kernel_rfl) (by kernel_rfl) (fun _ _ _ h => h) rfl (fun _ => OpY.index (kk := (x5).toNat) Tsl_24 rfl rfl (by omega) (by omega) (by first | rfl | omega)) ?_
       refine DL.step (i := 10) (by kernel_rfl) (by kernel_rfl) rfl rfl (OpStep.storeOwnInt (o := (x5).toNat) (a := ix [0, 1, 2, 3, 100, 101, -1] i1) Tsize_3 rfl rfl (.there _ (.there _ (.there _ (.there _ (.there _ (.here _)))))) (by omega) ?_)
       refine DL.done (by kernel_rfl) ?_
       refine Run.goal ⟨(by repeat (first | exact Same.refl _ _ | refine Same.put rfl ?_ | refine Same.over rfl rfl ?_)), (s6, (aa, nx, vx), (bb, ((ly.set ((x5).toNat) (ix [0, 1, 2, 3, 100, 101, -1] i1))), .slice (some ⟨g2, 0, none⟩) bb cg2)), ?_, ?_, ?_⟩
       ·first | exact ⟨by omega, by omega, by omega⟩ | exact ⟨by omega, hgl.2.1, hgl.2.2.1⟩
       ·exact trivial
       ·exact ((Weak.selF [1, 1, 1, 1, 1, 1, 1, 1, 1, 0]).trans (Some'.weak (.takeEq (by first | rfl | (rw [rep0]) | simp) (.takeEq (by first | rfl | (rw [rep0]) | simp) (.takeEq (by first | rfl | (rw [rep0]) | simp) (.takeEq (by first | rfl | (rw [rep0]) | simp) (.takeEq (by first | rfl | (rw [rep0]) | simp) (.takeEq (by first | rfl | (rw [rep0]) | simp) (.take (.take (.take (.takeEq (by first | rfl | (rw [rep0]) | simp) (.nil _)))))))))))))
      ·refine OpStep.buildSlice (us := [.int .i64 0, .int .i64 1, .int .i64 2, .int .i64 3, .int .i64 100, .int .i64 101, .int .i64 (-1)]) Tsl_24 (by decide) (by decide) ⟨rfl, [.int .i64 0], _, rfl, rfl, rfl, ⟨rfl, [.int .i64 1], _, rfl, rfl, rfl, ⟨rfl, [.int .i64 2], _, rfl, rfl, rfl, ⟨rfl, [.int .i64 3], _, rfl, rfl, rfl, ⟨rfl, [.int .i64 100], _, rfl, rfl, rfl, ⟨rfl, [.int .i64 101], _, rfl, rfl, rfl, ⟨rfl, [.int .i64 (-1)], _, rfl, rfl, rfl, rfl⟩⟩⟩⟩⟩⟩⟩ rfl fun b11 => ?_
       refine ⟨(Some'.weak (.skip (.skip (.skip (.skip (.skip (.skip (.skip (.take (.take (.take (.take (.nil _))))))))))))), ?_⟩
       refine DL.stepS (i := 5) (by kernel_rfl) rfl rfl (OpStep.callM (H1 := [.blk b3 64 [.slice Ac n cc, .int .i64 (((s4.1 : Nat) : Int)), .int .u64 (s4.2)]]) (H2 := [.own (.slice (some ⟨b11, 0, none⟩) 7 7) 3 1 7 ([.int .i64 0, .int .i64 1, .int .i64 2, .int .i64 3, .int .i64 100, .int .i64 101, .int .i64 (-1)]), .own (.slice A_ve1 m c_ve1) 80 2 m (ints es), .own (.slice A_vi1 ni c_vi1) 3 1 ni (ints is), .own (.slice A_vo1 no c_vo1) 3 1 no (ints os), .own vx 3 1 aa (ints nx), .own (.slice (some ⟨g2, 0, none⟩) bb cg2) 3 1 bb (ints ly), .blk b5 38 [vx, .slice (some ⟨g2, 0, none⟩) bb cg2], .blk b4 26 [.int .i64 (((N : Nat) : Int)), .slice A_ve1 m c_ve1, .slice A_vi1 ni c_vi1, .slice A_vo1 no c_vo1], .blk b2 38 [.slice none 0 0, .slice none 0 0], .blk b1 26 [.int .i64 0, .slice none 0 0, .slice none 0 0, .slice none 0 0]]) (vs := [.pointer (some ⟨b3, 0, none⟩), .int .i64 (((N : Nat) : Int))]) (caps := []) Tcall_43 rfl rfl (Weak.selF [1]) (fun w hs => pick_ex (s := s4) (by omega) (Cur.top ha hby hs (.head _)) (hs.sub (List.sublist_append_left _ _)).self) ?_)
       rintro _ _ ⟨x6, s7, hx6, hs7, rfl, rfl⟩
       refine ⟨(Some'.weak (.skip (.skip (.skip (.skip (.skip (.skip (.skip (.take (.take (.take (.take (.nil _))))))))))))), ?_⟩
       refine DL.stepS (i := 8) (by kernel_rfl) rfl rfl (OpStep.callM (H1 := [.blk b3 64 [.slice Ac n cc, .int .i64 (((s7.1 : Nat) : Int)), .int .u64 (s7.2)], .own (.slice (some ⟨b11, 0, none⟩) 7 7) 3 1 7 (ints [0, 1, 2, 3, 100, 101, -1])]) (H2 := [.own (.slice A_ve1 m c_ve1) 80 2 m (ints es), .own (.slice A_vi1 ni c_vi1) 3 1 ni (ints is), .own (.slice A_vo1 no c_vo1) 3 1 no (ints os), .own vx 3 1 aa (ints nx), .own (.slice (some ⟨g2, 0, none⟩) bb cg2) 3 1 bb (ints ly), .blk b5 38 [vx, .slice (some ⟨g2, 0, none⟩) bb cg2], .blk b4 26 [.int .i64 (((N : Nat) : Int)), .slice A_ve1 m c_ve1, .slice A_vi1 ni c_vi1, .slice A_vo1 no c_vo1], .blk b2 38 [.slice none 0 0, .slice none 0 0], .blk b1 26 [.int .i64 0, .slice none 0 0, .slice none 0 0, .slice none 0 0]]) (vs := [.pointer (some ⟨b3, 0, none⟩), .slice (some ⟨b11, 0, none⟩) 7 7]) (caps := []) Tcall_44 rfl rfl (Weak.refl _) (fun w hs => among_spec (s := s7) (by omega) (by decide) (Cur.top ha hby hs (.head _)) (Cur.apart0 ha hs (.tail _ (.head _))) (hs.sub (List.sublist_append_left _ _)).self) ?_)
       rintro _ _ ⟨i2, s8, hi2, hs8, rfl, rfl⟩
       have hixi2 : -1 ≤ ix [0, 1, 2, 3, 100, 101, -1] i2 ∧ ix [0, 1, 2, 3, 100, 101, -1] i2 ≤ 101 := by
        rcases (by omega : i2 = 0 ∨ i2 = 1 ∨ i2 = 2 ∨ i2 = 3 ∨ i2 = 4 ∨ i2 = 5 ∨ i2 = 6) with rfl | rfl | rfl | rfl | rfl | rfl | rfl <;> simp [ix]
       refine ⟨(Some'.weak (.skip (.skip (.skip (.skip (.skip (.skip (.take (.take (.take (.take (.nil _)))))))))))), ?_⟩
       refine DL.takeP (i := 9) (v := .pointer (some ⟨g2, (x6).toNat, none⟩)) rfl (by kernel_rfl) (by kernel_rfl) (by kernel_rfl) (fun _ _ _ h => h) rfl (fun _ => OpY.index (kk := (x6).toNat) Tsl_24 rfl rfl (by omega) (by omega) (by first | rfl | omega)) ?_
       refine DL.step (i := 10) (by kernel_rfl) (by kernel_rfl) rfl rfl (OpStep.storeOwnInt (o := (x6).toNat) (a := ix [0, 1, 2, 3, 100, 101, -1] i2) Tsize_3 rfl rfl (.there _ (.there _ (.there _ (.there _ (.there _ (.here _)))))) (by omega) ?_)
       refine DL.done (by kernel_rfl) ?_
       refine Run.goal ⟨(by repeat (first | exact Same.refl _ _ | refine Same.put rfl ?_ | refine Same.over rfl rfl ?_)), (s8, (aa, nx, vx), (bb, ((ly.set ((x6).toNat) (ix [0, 1, 2, 3, 100, 101, -1] i2))), .slice (some ⟨g2, 0, none⟩) bb cg2)), ?_, ?_, ?_⟩
       ·first | exact ⟨by omega, by omega, by omega⟩ | exact ⟨by omega, hgl.2.1, hgl.2.2.1⟩
       ·exact trivial
       ·exact ((Weak.selF [1, 1, 1, 1, 1, 1, 1, 1, 1, 0]).trans (Some'.weak (.takeEq (by first | rfl | (rw [rep0]) | simp) (.takeEq (by first | rfl | (rw [rep0]) | simp) (.takeEq (by first | rfl | (rw [rep0]) | simp) (.takeEq (by first | rfl | (rw [rep0]) | simp) (.takeEq (by first | rfl | (rw [rep0]) | simp) (.takeEq (by first | rfl | (rw [rep0]) | simp) (.take (.take (.take (.takeEq (by first | rfl | (rw [rep0]) | simp) (.nil _)))))))))))))
     ·have p48 := h48; try simp only [bs] at p48
      refine Run.skip ?_
      refine Run.goal ⟨(by repeat (first | exact Same.refl _ _ | refine Same.put rfl ?_ | refine Same.over rfl rfl ?_)), (s4, (aa, nx, vx), (bb, ly, vy)), ?_, ?_, ?_⟩
      ·first | exact ⟨by omega, by omega, by omega⟩ | exact ⟨by omega, hgl.2.1, hgl.2.2.1⟩
      ·exact trivial
      ·exact ((Weak.selF [1, 1, 1, 1, 1, 1, 1, 1, 1, 0]).trans (Some'.weak (.takeEq (by first | rfl | (rw [rep0]) | simp) (.takeEq (by first | rfl | (rw [rep0]) | simp) (.takeEq (by first | rfl | (rw [rep0]) | simp) (.takeEq (by first | rfl | (rw [rep0]) | simp) (.takeEq (by first | rfl | (rw [rep0]) | simp) (.take (.take (.take (.take (.takeEq (by first | rfl | (rw [rep0]) | simp) (.nil _)))))))))))))
    ·rintro ⟨sc2, ⟨aa, nx, vx⟩, ⟨bb, ly, vy⟩⟩ fr hcut
     show Run _ _ (over _ _ [] fr) [.own (.slice A_ve1 m c_ve1) 80 2 m (ints es), .own (.slice A_vi1 ni c_vi1) 3 1 ni (ints is), .own (.slice A_vo1 no c_vo1) 3 1 no (ints os), .own vx 3 1 aa (ints nx), .own vy 3 1 bb (ints ly), .blk b5 38 [vx, vy], .blk b4 26 [.int .i64 (((N : Nat) : Int)), .slice A_ve1 m c_ve1, .slice A_vi1 ni c_vi1, .slice A_vo1 no c_vo1], .blk b2 38 [.slice none 0 0, .slice none 0 0], .blk b1 26 [.int .i64 0, .slice none 0 0, .slice none 0 0, .slice none 0 0], .blk b3 64 [.slice Ac n cc, .int .i64 (((sc2.1 : Nat) : Int)), .int .u64 (sc2.2)]]
     obtain ⟨hsc2, haa, hbb⟩ : sc2.1 ≤ 220 ∧ aa = N ∧ bb = N := hcut
     refine Run.seq ?_
     refine Run.heldB (base := [.blk b4 26 [.int .i64 (((N : Nat) : Int)), .slice A_ve1 m c_ve1, .slice A_vi1 ni c_vi1, .slice A_vo1 no c_vo1], .blk b5 38 [vx, vy]]) (by kernel_rfl) ?_
     refine DW.take (i := 0) (v := .agg #[.int .i64 (((N : Nat) : Int)), .slice A_ve1 m c_ve1, .slice A_vi1 ni c_vi1, .slice A_vo1 no c_vo1]) rfl (by kernel_rfl) (by kernel_rfl) (by kernel_rfl) (fun _ _ _ h => h) ((Weak.selF [6, 5]).trans (Some'.weak (.take (.take (.nil _))))) rfl (OpY.loadN (cs := [.int .i64 (((N : Nat) : Int)), .slice A_ve1 m c_ve1, .slice A_vi1 ni c_vi1, .slice A_vo1 no c_vo1]) Tagg_26 rfl (Cells.blk (.head _) ⟨rfl, rfl, rfl, rfl, trivial⟩)) ?_
     refine DW.take (i := 1) (v := .agg #[vx, vy]) rfl (by kernel_rfl) (by kernel_rfl) (by kernel_rfl) (fun _ _ _ h => h) ((Weak.selF [6, 5]).trans (Some'.weak (.take (.take (.nil _))))) rfl (OpY.loadN (cs := [vx, vy]) Tagg_38 rfl (Cells.blk (.tail _ (List.Mem.head _)) ⟨rfl, rfl, trivial⟩)) ?_
     refine DW.step (i := 2) (by kernel_rfl) rfl rfl (OpStep.storeAll (us := [.int .i64 (((N : Nat) : Int)), .slice A_ve1 m c_ve1, .slice A_vi1 ni c_vi1, .slice A_vo1 no c_vo1]) Tsize_26 rfl rfl rfl (.there _ (.there _ (.there _ (.there _ (.there _ (.there _ (.there _ (.there _ (.here _))))))))) rfl ?_)
     refine ⟨((Weak.selF [6, 5]).trans (Some'.weak (.take (.take (.nil _))))), ?_⟩
     refine DW.formOwn (.tail _ (.tail _ (.tail _ (List.Mem.head _)))) (fun A_vx1 c_vx1 hv hcapc_vx1 hmaxc_vx1 => ?_)
     subst hv
     refine DW.formOwn (.tail _ (.tail _ (.tail _ (.tail _ (List.Mem.head _))))) (fun A_vy1 c_vy1 hv hcapc_vy1 hmaxc_vy1 => ?_)
     subst hv
     refine DW.step (i := 3) (by kernel_rfl) rfl rfl (OpStep.storeAll (us := [.slice A_vx1 aa c_vx1, .slice A_vy1 bb c_vy1]) Tsize_38 rfl rfl rfl (.there _ (.there _ (.there _ (.there _ (.there _ (.there _ (.there _ (.here _)))))))) rfl ?_)
     refine ⟨((Weak.selF [6, 5]).trans (Some'.weak (.take (.takeEq (by first | rfl | simp) (.nil _))))), ?_⟩
     refine DW.done (by kernel_rfl) ?_
     refine Run.ret ?_
     refine ⟨.tuple #[.agg #[.int .i64 (((N : Nat) : Int)), .slice A_ve1 m c_ve1, .slice A_vi1 ni c_vi1, .slice A_vo1 no c_vo1], .agg #[.slice A_vx1 aa c_vx1, .slice A_vy1 bb c_vy1]], [.own (.slice A_ve1 m c_ve1) 80 2 m (ints es), .own (.slice A_vi1 ni c_vi1) 3 1 ni (ints is), .own (.slice A_vo1 no c_vo1) 3 1 no (ints os), .own (.slice A_vx1 aa c_vx1) 3 1 aa (ints nx), .own (.slice A_vy1 bb c_vy1) 3 1 bb (ints ly)], Out.cells2 (cs := [.int .i64 (((N : Nat) : Int)), .slice A_ve1 m c_ve1, .slice A_vi1 ni c_vi1, .slice A_vo1 no c_vo1]) (ds := [.slice A_vx1 aa c_vx1, .slice A_vy1 bb c_vy1]) rfl Tagg_26 rfl (Cells.blk (.tail _ (.tail _ (.tail _ (.tail _ (.tail _ (.tail _ (.tail _ (.tail _ (List.Mem.head _))))))))) ⟨rfl, rfl, rfl, rfl, trivial⟩) Tagg_38 rfl (Cells.blk (.tail _ (.tail _ (.tail _ (.tail _ (.tail _ (.tail _ (.tail _ (List.Mem.head _)))))))) ⟨rfl, rfl, trivial⟩), (Some'.weak (.take (.take (.take (.take (.take (.nil _))))))), ?_⟩
     exact ⟨_, _, _, _, _, _, _, _, _, _, _, _, _, _, _, _, ⟨hgr, hsm⟩, rfl, rfl⟩

end Go.Proofs.Ytoiaibgcjfgbcaa
/- Plain laws: what is measured already lies outside the set and its odd neighbours. -/
set_option linter.unusedSimpArgs false
set_option linter.unusedVariables false
namespace Go.Proofs.Ytoiaibgcjfgbcaa
open Go Go.RowKit
/-- The nodes that were measured. -/
def dnM (ys : List Int) : Nat → Nat
  | 0 => 0
  | k + 1 => dnM ys k ||| 2 ^ (ix ys k).toNat
theorem dn_bit {ys : List Int} {w : Nat} : ∀ k, (dnM ys k).testBit w = true → ∃ j, j < k ∧ (ix ys j).toNat = w
  | 0, h => by simp [dnM] at h
  | k + 1, h => by
    rw [dnM, Nat.testBit_or, Nat.testBit_two_pow] at h
    rcases Bool.or_eq_true_iff.1 h with h | h
    · obtain ⟨j, h1, h2⟩ := dn_bit k h; exact ⟨j, by omega, h2⟩
    · exact ⟨k, by omega, of_decide_eq_true h⟩
theorem dn_lt {ys : List Int} {n : Nat} : ∀ k, (∀ j, j < k → (ix ys j).toNat < n) → dnM ys k < 2 ^ n
  | 0, _ => Nat.two_pow_pos _
  | k + 1, h => Nat.or_lt_two_pow (dn_lt k fun j hj => h j (by omega)) (Nat.pow_lt_pow_right (by omega) (h k (by omega)))
theorem gf_set {es : List Int} {m n : Nat} {is : List Int} {ni : Nat} {os : List Int} {no : Nat} {ss ly : List Int} (h : gfB es m n is ni os no ss n ly n = true) {v : Nat} (hv : v < n) (ho : hasI os (v : Int) no = false) :
    0 ≤ ix ss v ∧ (ix ss v).toNat < 2 ^ n ∧ ∀ w, w < n → w ≠ v → ((ix ss v).toNat.testBit w = true ∨ (oddM es m n (ix ss v).toNat n).testBit w = true) → ix ly w < ix ly v := by
  simp only [gfB, Bool.and_eq_true, allI_iff] at h
  have h1 := h.2 v hv
  unfold gfAt at h1
  rw [if_neg (by rw [ho]; decide)] at h1
  simp only [Bool.and_eq_true] at h1
  obtain ⟨⟨⟨⟨hw, _⟩, _⟩, _⟩, hb⟩ := h1
  have hw := within_iff.1 hw
  refine ⟨hw.1, by have := hw.2; omega, fun w hwn hne hor => ?_⟩
  refine bef_iff.1 hb w hwn ?_
  rw [Nat.testBit_or, clr_bit]
  rcases hor with h2 | h2
  · rw [h2]; rfl
  · rw [h2, decide_eq_false (show ¬ v = w from fun e => hne e.symm)]; simp
theorem mo_free {es : List Int} {m n : Nat} {is : List Int} {ni : Nat} {os : List Int} {no k0 k v : Nat} {ss ly ys : List Int} (hgf : gfB es m n is ni os no ss n ly n = true) (hl : ys.length = k0) (hs : srt (ys.map (lk ly)) k0) (hm : ∀ x ∈ ys, ∃ u : Nat, u < n ∧ x = (u : Int) ∧ hasI os (u : Int) no = false) (hk : k < k0) (hv : ix ys k = (v : Int)) :
    (((oddM es m n (ix ss v).toNat n ||| (ix ss v).toNat) &&& dnM ys (k + 1)) ^^^ (((oddM es m n (ix ss v).toNat n ||| (ix ss v).toNat) &&& dnM ys (k + 1)) &&& 2 ^ v)) = 0 := by
  obtain ⟨u, hu, hu2, hu3⟩ := hm _ (ix_mem (xs := ys) (i := k) (by omega))
  obtain rfl : u = v := by omega
  obtain ⟨_, _, hlow⟩ := gf_set hgf hu hu3
  refine Nat.eq_of_testBit_eq fun w => ?_
  rw [Nat.testBit_xor, Nat.testBit_and (x := (oddM es m n (ix ss u).toNat n ||| (ix ss u).toNat) &&& dnM ys (k + 1)), Nat.testBit_two_pow, Nat.zero_testBit]
  by_cases e : u = w
  · subst e; simp
  · rw [decide_eq_false e, Bool.and_false, Bool.xor_false]
    cases hb : ((oddM es m n (ix ss u).toNat n ||| (ix ss u).toNat) &&& dnM ys (k + 1)).testBit w with
    | false => rfl
    | true =>
      exfalso
      rw [Nat.testBit_and, Nat.testBit_or, Bool.and_eq_true, Bool.or_eq_true] at hb
      obtain ⟨j, hj, hjw⟩ := dn_bit _ hb.2
      obtain ⟨q, hq, hq2, _⟩ := hm _ (ix_mem (xs := ys) (i := j) (by omega))
      have hqw : q = w := by rw [← hjw, hq2, Int.toNat_natCast]
      subst hqw
      have h1 := hlow q hq (fun e2 => e e2.symm) (hb.1.symm)
      have h2 := ix_lk ly ys (j := j) (by omega)
      have h3 := ix_lk ly ys (j := k) (by omega)
      rw [hq2, Int.toNat_natCast] at h2
      rw [hv, Int.toNat_natCast] at h3
      have hne : j ≠ k := fun e2 => by subst e2; rw [hv] at hq2; exact e (by omega)
      have h4 := hs j k (by omega) (by omega)
      omega

end Go.Proofs.Ytoiaibgcjfgbcaa
/- Plain laws: a causal flow that is found. -/
set_option linter.unusedSimpArgs false
set_option linter.unusedVariables false
namespace Go.Proofs.Ytoiaibgcjfgbcaa
open Go Go.RowKit
theorem gf_found {es : List Int} {m n : Nat} {is : List Int} {ni : Nat} {os : List Int} {no nn nl : Nat} {F L : List Int} (h : (ogB n es m is ni os no && gfB es m n is ni os no F nn L nl) = true) : (gfO es m n is ni os no).isSome = true := by
  rw [Bool.and_eq_true] at h
  obtain ⟨hn1, hn10, hes, hri, hro⟩ := og_ok h.1
  have st := GfI.start h.1
  have h2 := (gfR_ok (ris_pos hri) (n + 1) 1 _ _ (Nat.le_refl _) st.fl st.cnt).2 F nn L nl h.2
  rw [st.run] at h2
  exact Option.isSome_iff_ne_none.2 h2
/-- How often each node has been met. -/
def metL (cs : List (List Int)) (c : List Int) (n : Nat) : List Int := mapN (fun w => ((cntF (w : Int) cs + c.count (w : Int) : Nat) : Int)) n
@[simp] theorem metL_length (cs : List (List Int)) (c : List Int) (n : Nat) : (metL cs c n).length = n := by simp [metL]
theorem Run.lenOf {E : Env} {k : List It} {f : Fr} {H : List Res} {e : TypeId} {v : Value} {n : Nat} {xs : List Int} (hm : Res.own v e 1 n (ints xs) ∈ H) (h : xs.length = n → Run E k f H) (hk : ∀ G i k', k ≠ .goal G :: k' ∧ k ≠ .block i :: k' ∧ k ≠ [] := by exact fun _ _ _ => ⟨nofun, nofun, nofun⟩) : Run E k f H := by
  have key : ∀ w, St E.M E.w0 w H → Run E k f H := by
    intro w hs
    exact h (by simpa using (hs.slOwn hm).len)
  match k, hk with
  | [], hk => exact absurd rfl (hk (fun _ _ => True) 0 []).2.2
  | .goal G :: k', hk => exact absurd rfl (hk G 0 k').1
  | .block i :: k', hk => exact absurd rfl (hk (fun _ _ => True) i k').2.1
  | .rounds c n :: k', _ => exact fun a w ha hs => key w hs a w ha hs
  | .ops ops l :: k', _ => exact fun a w ha hs => key w hs a w ha hs
  | .code c :: k', _ => exact fun a w ha hs => key w hs a w ha hs

end Go.Proofs.Ytoiaibgcjfgbcaa
