/- The walk of the law FnGeneralFlows. -/
import Derived.Test.YtoiaibgcjfgbcaaG12
import Derived.Test.YtoiaibgcjfgbcaaG8
import Derived.Test.YtoiaibgcjfgbcaaG7
import Derived.Test.YtoiaibgcjfgbcaaG9
import Derived.Test.YtoiaibgcjfgbcaaProg
set_option linter.unusedSimpArgs false
set_option linter.unusedVariables false
namespace Go.Proofs.Ytoiaibgcjfgbcaa
open Go Go.RowKit
namespace L52T
theorem Tagg_26 : aggOf Try.prog 26 = some 4 := by kernel_rfl
theorem Tagg_38 : aggOf Try.prog 38 = some 2 := by kernel_rfl
theorem Tbool_4 : Try.prog.underlying 4 = some .bool := by kernel_rfl
theorem Tcall_11 : callable Try.prog 11 = true := by kernel_rfl
theorem Tcall_13 : callable Try.prog 13 = true := by kernel_rfl
theorem Tcall_14 : callable Try.prog 14 = true := by kernel_rfl
theorem Tcall_16 : callable Try.prog 16 = true := by kernel_rfl
theorem Tcall_17 : callable Try.prog 17 = true := by kernel_rfl
theorem Tcall_18 : callable Try.prog 18 = true := by kernel_rfl
theorem Tcall_19 : callable Try.prog 19 = true := by kernel_rfl
theorem Tcall_20 : callable Try.prog 20 = true := by kernel_rfl
theorem Tcall_21 : callable Try.prog 21 = true := by kernel_rfl
theorem Tcall_22 : callable Try.prog 22 = true := by kernel_rfl
theorem Tfo_26_0 : fieldOff Try.prog 26 0 = some 0 := by kernel_rfl
theorem Tfo_26_3 : fieldOff Try.prog 26 3 = some 3 := by kernel_rfl
theorem Tfo_38_0 : fieldOff Try.prog 38 0 = some 0 := by kernel_rfl
theorem Tfo_38_1 : fieldOff Try.prog 38 1 = some 1 := by kernel_rfl
theorem Tint_52 : Try.prog.underlying 52 = some (.int .u64) := by kernel_rfl
theorem Tone_24 : oneOf Try.prog 24 = true := by kernel_rfl
theorem Tone_3 : oneOf Try.prog 3 = true := by kernel_rfl
theorem Tsize_26 : (Try.prog.info? 26).map (·.size) = some 4 := by kernel_rfl
theorem Tsize_38 : (Try.prog.info? 38).map (·.size) = some 2 := by kernel_rfl
theorem Tsl_22 : sliceOf Try.prog 22 = some (5, 1, 1, [.int .u8 0]) := by kernel_rfl
theorem Tsl_24 : sliceOf Try.prog 24 = some (3, 1, 8, [.int .i64 0]) := by kernel_rfl
theorem Tsome_3 : (Try.prog.underlying 3).isSome = true := by kernel_rfl
theorem Tzero_26 : zeroOf Try.prog 26 = some [.int .i64 0, .slice none 0 0, .slice none 0 0, .slice none 0 0] := by kernel_rfl
theorem Tzero_38 : zeroOf Try.prog 38 = some [.slice none 0 0, .slice none 0 0] := by kernel_rfl
end L52T
open L52T
theorem Sl.as {w : World} {v : Value} {s n k : Nat} {xs : List Value} (h : Sl w v s n xs) (e : n = k) : Sl w v s k xs := by subst e; exact h
theorem gf_fl {es : List Int} {m n : Nat} {is : List Int} {ni : Nat} {os : List Int} {no : Nat} (h : (gfO es m n is ni os no).isSome = true) : gfB es m n is ni os no (gfA es m n is ni os no) n (gfL es m n is ni os no) n = true := by
  obtain ⟨⟨ss, ly⟩, hO⟩ := Option.isSome_iff_exists.1 h
  have hg := (gf_len h).1
  obtain ⟨hn1, hn10, hes, hri, hro⟩ := og_ok hg
  obtain ⟨eA, eL, _⟩ := gf_some hO
  have st := GfI.start hg
  have hc := st.cnt
  obtain ⟨hf, h0⟩ := (gfR_ok (ris_pos hri) (n + 1) 1 _ _ (Nat.le_refl _) st.fl st.cnt).1 (ss, ly) (st.run.trans hO)
  rw [eA, eL]
  exact gf_sound (ris_pos hri) (by omega) hf h0
theorem q_ne {xs ys : List Int} {k : Nat} (h : ix xs k ≠ ix ys k) : decide (xs = ys) = false := by
  rw [decide_eq_false_iff_not]; intro e; exact h (by rw [e])
theorem q_len {xs ys : List Int} (h : xs.length ≠ ys.length) : decide (xs = ys) = false := by
  rw [decide_eq_false_iff_not]; intro e; exact h (by rw [e])
theorem q_eq {xs ys : List Int} (hl : xs.length = ys.length) (h : ∀ i, i < xs.length → decide (ix xs i = ix ys i) = true) : decide (xs = ys) = true := by
  rw [decide_eq_true_iff]
  refine List.ext_getElem hl fun i h1 h2 => ?_
  have := of_decide_eq_true (h i h1)
  simpa [ix, List.getD, h1, h2] using this

set_option maxHeartbeats 1000000 in
set_option maxRecDepth 20000 in
theorem qInts_spec {va vb : Value} {n m : Nat} {xs ys : List Int} {w : World} (ha : Sl w va 1 n (ints xs)) (hb : Sl w vb 1 m (ints ys)) : Calls Try.prog 11 #[va, vb] w (Post No w fun v _ => v = .bool (decide (xs = ys))) := by
 have hxl := ha.len
 have hyl := hb.len
 have hn := ha.le
 have hm := hb.le
 obtain ⟨A, c, rfl, _, _⟩ := ha.form0
 obtain ⟨B, d, rfl, _, _⟩ := hb.form0
 refine enter (n := 26) (args := [.slice A n c, .slice B m d]) Try.func11 rfl rfl (St.empty _ _) ?_
 refine Run.sr ?_
 refine Run.p (.bool false) rfl rfl ?_
 refine Run.done ?_
 refine Run.seq ?_
 refine Run.sr ?_
 refine Run.p (.slice A n c) rfl rfl ?_
 refine Run.y (.int .i64 (((n : Nat) : Int))) rfl (OpY.len Tsl_24 rfl) ?_
 refine Run.p (.slice B m d) rfl rfl ?_
 refine Run.y (.int .i64 (((m : Nat) : Int))) rfl (OpY.len Tsl_24 rfl) ?_
 refine Run.p (.bool ((((n : Nat) : Int)) != (((m : Nat) : Int)))) rfl rfl ?_
 refine Run.done ?_
 refine Run.cond (b := (((n : Nat) : Int)) != (((m : Nat) : Int))) rfl (fun h10 => ?_) (fun h10 => ?_)
 ·have p10 := h10; try simp only [bs] at p10
  have hres : decide (xs = ys) = false := q_len (by omega)
  refine Run.sr ?_
  refine Run.p (.bool false) rfl rfl ?_
  refine Run.done ?_
  refine Run.ret ?_
  refine ⟨.bool false, [], Out.one rfl rfl, (Some'.weak (.nil _)), ?_⟩
  show _ = _; rw [hres]
 ·have p10 := h10; try simp only [bs] at p10
  refine Run.skip ?_
  refine Run.seq ?_
  refine Run.sr ?_
  refine Run.p (.slice A n c) rfl rfl ?_
  refine Run.y (.int .i64 (((n : Nat) : Int))) rfl (OpY.len Tsl_24 rfl) ?_
  refine Run.p (.int .i64 0) rfl rfl ?_
  refine Run.done ?_
  refine Run.block ?_
  refine Run.loop (ι := Nat) [4, 5, 13, 14, 15, 16, 17, 18, 19, 20, 21, 22, 23, 24, 25] (fun k => [(13, .int .i64 (((k : Nat) : Int)))]) (fun k => []) (fun k => k ≤ n ∧ (∀ i, i < k → decide (ix xs i = ix ys i) = true)) (fun k => n - k) 0 ?_ ?_ ?_ ?_
  ·exact ⟨Nat.zero_le _, by first | trivial | (intro i hi; omega)⟩
  ·exact ⟨rfl, trivial⟩
  ·exact (Some'.weak (.nil _))
  ·rintro k fr hinv
   show Run _ _ (over _ _ [(13, .int .i64 (((k : Nat) : Int)))] fr) []
   try dsimp only at hinv
   refine Run.sr ?_
   refine Run.p (.bool (decide ((((k : Nat) : Int)) < (((n : Nat) : Int))))) rfl rfl ?_
   refine Run.done ?_
   refine Run.seq ?_
   refine Run.cond (b := decide ((((k : Nat) : Int)) < (((n : Nat) : Int)))) rfl (fun h14 => ?_) (fun h14 => ?_)
   ·have p14 := h14; try simp only [bs] at p14
    have hltk : k < n := by omega
    obtain ⟨b, o, rfl⟩ := ha.opn (by omega)
    have hltm : k < m := by omega
    obtain ⟨b2, o2, rfl⟩ := hb.opn (by omega)
    refine Run.skip ?_
    refine Run.seq ?_
    refine Run.block ?_
    refine Run.sr ?_
    refine Run.p (.int .i64 (((k : Nat) : Int))) rfl rfl ?_
    refine Run.p (.int .i64 (((k : Nat) : Int))) rfl rfl ?_
    refine Run.done ?_
    refine Run.seq ?_
    refine Run.draws (by kernel_rfl) (by kernel_rfl) ?_
    refine Lex.q (v := .slice (some ⟨b, o, none⟩) n c) rfl (OpQ.y (OpY.pure rfl)) ?_
    refine Lex.q (v := .int .i64 (((k : Nat) : Int))) rfl (OpQ.y (OpY.pure rfl)) ?_
    refine Lex.q (v := .pointer (some ⟨b, o + k, none⟩)) rfl (OpQ.y (OpY.index (kk := k) Tsl_24 rfl rfl (by omega) (by omega) (by first | rfl | omega))) ?_
    refine Lex.q (v := .int .i64 (ix xs (k))) rfl (OpQ.y (OpY.load1 Tone_3 rfl (Cells.arg (k := k) ha rfl (by omega) (pre1 (by omega))))) ?_
    refine Lex.q (v := .slice (some ⟨b2, o2, none⟩) m d) rfl (OpQ.y (OpY.pure rfl)) ?_
    refine Lex.q (v := .int .i64 (((k : Nat) : Int))) rfl (OpQ.y (OpY.pure rfl)) ?_
    refine Lex.q (v := .pointer (some ⟨b2, o2 + k, none⟩)) rfl (OpQ.y (OpY.index (kk := k) Tsl_24 rfl rfl (by omega) (by omega) (by first | rfl | omega))) ?_
    refine Lex.q (v := .int .i64 (ix ys (k))) rfl (OpQ.y (OpY.load1 Tone_3 rfl (Cells.arg (k := k) hb rfl (by omega) (pre1 (by omega))))) ?_
    refine Lex.q (v := .bool ((ix xs (k)) != (ix ys (k)))) rfl (OpQ.y (OpY.pure rfl)) ?_
    refine Lex.done ?_
    refine Run.cond (b := (ix xs (k)) != (ix ys (k))) rfl (fun h24 => ?_) (fun h24 => ?_)
    ·have p24 := h24; try simp only [bs] at p24
     have hres : decide (xs = ys) = false := q_ne (k := k) (by omega)
     refine Run.sr ?_
     refine Run.p (.bool false) rfl rfl ?_
     refine Run.done ?_
     refine Run.ret ?_
     refine ⟨.bool false, [], Out.one rfl rfl, (Some'.weak (.nil _)), ?_⟩
     show _ = _; rw [hres]
    ·have p24 := h24; try simp only [bs] at p24
     have hgood : decide (ix xs k = ix ys k) = true := by simp; omega
     refine Run.skip ?_
     refine Run.blockEnd ?_
     refine Run.region ?_
     refine Run.y (.int .i64 ((((k : Nat) : Int)) + 1)) rfl (OpY.add rfl rfl rfl (by omega) (by omega)) ?_
     refine Run.p (.int .i64 ((((k : Nat) : Int)) + 1)) rfl rfl ?_
     refine Run.done ?_
     refine Run.goal ⟨(by repeat (first | exact Same.refl _ _ | refine Same.put rfl ?_ | refine Same.over rfl rfl ?_)), k + 1, ?_, ?_, ?_, ?_⟩
     ·refine ⟨by omega, ?_⟩
      intro i hi
      rcases Nat.lt_succ_iff_lt_or_eq.1 hi with h | h
      ·exact hinv.2 i h
      ·rw [h]; exact hgood
     ·omega
     ·exact ⟨(by first | rfl | (congr 1; omega) | simp), trivial⟩
     ·exact (Some'.weak (.nil _))
   ·have p14 := h14; try simp only [bs] at p14
    have hknk : k = n := by omega
    have hres : decide (xs = ys) = true := q_eq (by omega) fun i hi => hinv.2 i (by omega)
    refine Run.exit rfl ?_
    refine Run.sr ?_
    refine Run.p (.bool true) rfl rfl ?_
    refine Run.done ?_
    refine Run.ret ?_
    refine ⟨.bool true, [], Out.one rfl rfl, (Some'.weak (.nil _)), ?_⟩
    show _ = _; rw [hres]

set_option maxHeartbeats 2000000 in
set_option maxRecDepth 20000 in
theorem law_spec {va vb : Value} {n m0 : Nat} {cs ds : List Int} {w : World} (ha : Sl w va 1 n (u8s cs)) (hby : ∀ x ∈ cs, 0 ≤ x ∧ x < 256) (hb : Sl w vb 1 m0 (u8s ds)) (hbz : ∀ x ∈ ds, 0 ≤ x ∧ x < 256) : Calls Try.prog 4 #[va, vb] w (Post No w fun v _ => v = .bool true) := by
 obtain ⟨Ac, cc, rfl, hn0, _⟩ := ha.form0
 obtain ⟨Bc, dd, rfl, hm0, _⟩ := hb.form0
 refine enter (n := 195) (args := [.slice Ac n cc, .slice Bc m0 dd]) Try.func4 rfl rfl (St.empty _ _) ?_
 refine Run.sr ?_
 refine Run.p (.bool false) rfl rfl ?_
 refine Run.done ?_
 refine Run.seq ?_
 refine Run.sr ?_
 refine Run.p (.slice Ac n cc) rfl rfl ?_
 refine Run.y (.int .i64 (((n : Nat) : Int))) rfl (OpY.len Tsl_22 rfl) ?_
 refine Run.p (.slice Bc m0 dd) rfl rfl ?_
 refine Run.y (.int .i64 (((m0 : Nat) : Int))) rfl (OpY.len Tsl_22 rfl) ?_
 refine Run.y (.int .i64 (IntKind.i64.wrap (((n : Nat) : Int) + ((m0 : Nat) : Int)))) rfl (OpY.addW rfl rfl rfl) ?_
 refine Run.p (.bool (decide ((IntKind.i64.wrap (((n : Nat) : Int) + ((m0 : Nat) : Int))) > 1048576))) rfl rfl ?_
 refine Run.done ?_
 refine Run.cond (b := decide ((IntKind.i64.wrap (((n : Nat) : Int) + ((m0 : Nat) : Int))) > 1048576)) rfl (fun h32 => ?_) (fun h32 => ?_)
 ·have p32 := h32; try simp only [bs] at p32
  refine Run.sr ?_
  refine Run.p (.bool true) rfl rfl ?_
  refine Run.done ?_
  refine Run.ret ?_
  refine ⟨.bool true, [], Out.one rfl rfl, (Some'.weak (.nil _)), ?_⟩
  rfl
 ·have p32 := h32; try simp only [bs] at p32
  refine Run.skip ?_
  refine Run.sr ?_
  refine Run.p (.slice Ac n cc) rfl rfl ?_
  refine Run.step rfl (OpStep.call (vs := [.slice Ac n cc]) (caps := []) Tcall_16 rfl rfl (fun w hs => DrawGFlowOf_spec (hs.sl ha) hby) ?_)
  rintro _ _ ⟨N, m, ni, no, ve, vi, vo, es, is, os, ⟨hgr, hsm⟩, rfl, rfl⟩
  show Run _ _ (putF _ _ _ (.agg #[.int .i64 (((N : Nat) : Int)), ve, vi, vo])) [.own ve 80 2 m (ints es), .own vi 3 1 ni (ints is), .own vo 3 1 no (ints os)]
  refine Run.step rfl (OpStep.alloc (zs := [.int .i64 0, .slice none 0 0, .slice none 0 0, .slice none 0 0]) Tzero_26 fun b1 => ?_)
  refine Run.formOwn (.tail _ (List.Mem.head _)) (fun A_ve1 c_ve1 hv hcapc_ve1 hmaxc_ve1 => ?_) (fun _ _ _ => ⟨nofun, nofun, nofun⟩)
  subst hv
  refine Run.formOwn (.tail _ (.tail _ (List.Mem.head _))) (fun A_vi1 c_vi1 hv hcapc_vi1 hmaxc_vi1 => ?_) (fun _ _ _ => ⟨nofun, nofun, nofun⟩)
  subst hv
  refine Run.formOwn (.tail _ (.tail _ (.tail _ (List.Mem.head _)))) (fun A_vo1 c_vo1 hv hcapc_vo1 hmaxc_vo1 => ?_) (fun _ _ _ => ⟨nofun, nofun, nofun⟩)
  subst hv
  refine Run.step rfl (OpStep.storeAll (us := [.int .i64 (((N : Nat) : Int)), .slice A_ve1 m c_ve1, .slice A_vi1 ni c_vi1, .slice A_vo1 no c_vo1]) Tsize_26 rfl rfl rfl (.here _) rfl ?_)
  refine Run.dsr ?_
  refine Run.y (.agg #[.int .i64 (((N : Nat) : Int)), .slice A_ve1 m c_ve1, .slice A_vi1 ni c_vi1, .slice A_vo1 no c_vo1]) rfl (OpY.loadN (cs := [.int .i64 (((N : Nat) : Int)), .slice A_ve1 m c_ve1, .slice A_vi1 ni c_vi1, .slice A_vo1 no c_vo1]) Tagg_26 rfl (Cells.blk (.head _) ⟨rfl, rfl, rfl, rfl, trivial⟩)) ?_
  refine Run.step rfl (OpStep.call (vs := [.agg #[.int .i64 (((N : Nat) : Int)), .slice A_ve1 m c_ve1, .slice A_vi1 ni c_vi1, .slice A_vo1 no c_vo1]]) (caps := []) Tcall_14 rfl rfl (fun w hs => GFlowOf_spec (by omega) (hs.slOwn (.tail _ (List.Mem.head _))) (hs.slOwn (.tail _ (.tail _ (List.Mem.head _)))) (hs.slOwn (.tail _ (.tail _ (.tail _ (List.Mem.head _)))))) ?_)
  rintro _ _ ⟨ua1, ub1, rfl, rfl⟩
  show Run _ _ (putF _ _ _ (.tuple #[.agg #[ua1, ub1], .bool ((gfO es m N is ni os no).isSome)])) [.own ua1 3 1 ((gfA es m N is ni os no).length) (ints (gfA es m N is ni os no)), .own ub1 3 1 ((gfL es m N is ni os no).length) (ints (gfL es m N is ni os no)), .blk b1 26 [.int .i64 (((N : Nat) : Int)), .slice A_ve1 m c_ve1, .slice A_vi1 ni c_vi1, .slice A_vo1 no c_vo1], .own (.slice A_ve1 m c_ve1) 80 2 m (ints es), .own (.slice A_vi1 ni c_vi1) 3 1 ni (ints is), .own (.slice A_vo1 no c_vo1) 3 1 no (ints os)]
  refine Run.p (.tuple #[.agg #[ua1, ub1], .bool ((gfO es m N is ni os no).isSome)]) rfl rfl ?_
  refine Run.p (.agg #[ua1, ub1]) rfl rfl ?_
  refine Run.p (.bool ((gfO es m N is ni os no).isSome)) rfl rfl ?_
  refine Run.step rfl (OpStep.alloc (zs := [.slice none 0 0, .slice none 0 0]) Tzero_38 fun b2 => ?_)
  refine Run.formOwn (.tail _ (List.Mem.head _)) (fun A_ua11 c_ua11 hv hcapc_ua11 hmaxc_ua11 => ?_) (fun _ _ _ => ⟨nofun, nofun, nofun⟩)
  subst hv
  refine Run.formOwn (.tail _ (.tail _ (List.Mem.head _))) (fun A_ub11 c_ub11 hv hcapc_ub11 hmaxc_ub11 => ?_) (fun _ _ _ => ⟨nofun, nofun, nofun⟩)
  subst hv
  refine Run.step rfl (OpStep.storeAll (us := [.slice A_ua11 ((gfA es m N is ni os no).length) c_ua11, .slice A_ub11 ((gfL es m N is ni os no).length) c_ub11]) Tsize_38 rfl rfl rfl (.here _) rfl ?_)
  refine Run.p (.bool ((gfO es m N is ni os no).isSome)) rfl rfl ?_
  refine Run.dsr ?_
  refine Run.y (.agg #[.int .i64 (((N : Nat) : Int)), .slice A_ve1 m c_ve1, .slice A_vi1 ni c_vi1, .slice A_vo1 no c_vo1]) rfl (OpY.loadN (cs := [.int .i64 (((N : Nat) : Int)), .slice A_ve1 m c_ve1, .slice A_vi1 ni c_vi1, .slice A_vo1 no c_vo1]) Tagg_26 rfl (Cells.blk (.tail _ (.tail _ (.tail _ (List.Mem.head _)))) ⟨rfl, rfl, rfl, rfl, trivial⟩)) ?_
  refine Run.step rfl (OpStep.call (vs := [.agg #[.int .i64 (((N : Nat) : Int)), .slice A_ve1 m c_ve1, .slice A_vi1 ni c_vi1, .slice A_vo1 no c_vo1]]) (caps := []) Tcall_17 rfl rfl (fun w hs => sGFlowOf_spec (by omega) (hs.slOwn (.tail _ (.tail _ (.tail _ (.tail _ (List.Mem.head _)))))) (hs.slOwn (.tail _ (.tail _ (.tail _ (.tail _ (.tail _ (List.Mem.head _))))))) (hs.slOwn (.tail _ (.tail _ (.tail _ (.tail _ (.tail _ (.tail _ (List.Mem.head _)))))))) hsm) ?_)
  rintro _ _ ⟨uc1, ud1, rfl, rfl⟩
  show Run _ _ (putF _ _ _ (.tuple #[.agg #[uc1, ud1], .bool ((gfO es m N is ni os no).isSome)])) [.own uc1 3 1 ((gfA es m N is ni os no).length) (ints (gfA es m N is ni os no)), .own ud1 3 1 ((gfL es m N is ni os no).length) (ints (gfL es m N is ni os no)), .blk b2 38 [.slice A_ua11 ((gfA es m N is ni os no).length) c_ua11, .slice A_ub11 ((gfL es m N is ni os no).length) c_ub11], .own (.slice A_ua11 ((gfA es m N is ni os no).length) c_ua11) 3 1 ((gfA es m N is ni os no).length) (ints (gfA es m N is ni os no)), .own (.slice A_ub11 ((gfL es m N is ni os no).length) c_ub11) 3 1 ((gfL es m N is ni os no).length) (ints (gfL es m N is ni os no)), .blk b1 26 [.int .i64 (((N : Nat) : Int)), .slice A_ve1 m c_ve1, .slice A_vi1 ni c_vi1, .slice A_vo1 no c_vo1], .own (.slice A_ve1 m c_ve1) 80 2 m (ints es), .own (.slice A_vi1 ni c_vi1) 3 1 ni (ints is), .own (.slice A_vo1 no c_vo1) 3 1 no (ints os)]
  refine Run.p (.tuple #[.agg #[uc1, ud1], .bool ((gfO es m N is ni os no).isSome)]) rfl rfl ?_
  refine Run.p (.agg #[uc1, ud1]) rfl rfl ?_
  refine Run.p (.bool ((gfO es m N is ni os no).isSome)) rfl rfl ?_
  refine Run.step rfl (OpStep.alloc (zs := [.slice none 0 0, .slice none 0 0]) Tzero_38 fun b3 => ?_)
  refine Run.formOwn (.tail _ (List.Mem.head _)) (fun A_uc11 c_uc11 hv hcapc_uc11 hmaxc_uc11 => ?_) (fun _ _ _ => ⟨nofun, nofun, nofun⟩)
  subst hv
  refine Run.formOwn (.tail _ (.tail _ (List.Mem.head _))) (fun A_ud11 c_ud11 hv hcapc_ud11 hmaxc_ud11 => ?_) (fun _ _ _ => ⟨nofun, nofun, nofun⟩)
  subst hv
  refine Run.step rfl (OpStep.storeAll (us := [.slice A_uc11 ((gfA es m N is ni os no).length) c_uc11, .slice A_ud11 ((gfL es m N is ni os no).length) c_ud11]) Tsize_38 rfl rfl rfl (.here _) rfl ?_)
  refine Run.p (.bool ((gfO es m N is ni os no).isSome)) rfl rfl ?_
  refine Run.dsr ?_
  refine Run.p (.slice Bc m0 dd) rfl rfl ?_
  refine Run.step rfl (OpStep.call (vs := [.slice Bc m0 dd]) (caps := []) Tcall_18 rfl rfl (fun w hs => DrawIsGFlow_spec (hs.sl hb) hbz) ?_)
  rintro _ _ ⟨N2, m2, ni2, no2, aa2, bb2, ve2, vi2, vo2, vx2, vy2, es2, is2, os2, nx2, ly2, ⟨hgr2, hsm2⟩, rfl, rfl⟩
  show Run _ _ (putF _ _ _ (.tuple #[.agg #[.int .i64 (((N2 : Nat) : Int)), ve2, vi2, vo2], .agg #[vx2, vy2]])) [.own ve2 80 2 m2 (ints es2), .own vi2 3 1 ni2 (ints is2), .own vo2 3 1 no2 (ints os2), .own vx2 3 1 aa2 (ints nx2), .own vy2 3 1 bb2 (ints ly2), .blk b3 38 [.slice A_uc11 ((gfA es m N is ni os no).length) c_uc11, .slice A_ud11 ((gfL es m N is ni os no).length) c_ud11], .own (.slice A_uc11 ((gfA es m N is ni os no).length) c_uc11) 3 1 ((gfA es m N is ni os no).length) (ints (gfA es m N is ni os no)), .own (.slice A_ud11 ((gfL es m N is ni os no).length) c_ud11) 3 1 ((gfL es m N is ni os no).length) (ints (gfL es m N is ni os no)), .blk b2 38 [.slice A_ua11 ((gfA es m N is ni os no).length) c_ua11, .slice A_ub11 ((gfL es m N is ni os no).length) c_ub11], .own (.slice A_ua11 ((gfA es m N is ni os no).length) c_ua11) 3 1 ((gfA es m N is ni os no).length) (ints (gfA es m N is ni os no)), .own (.slice A_ub11 ((gfL es m N is ni os no).length) c_ub11) 3 1 ((gfL es m N is ni os no).length) (ints (gfL es m N is ni os no)), .blk b1 26 [.int .i64 (((N : Nat) : Int)), .slice A_ve1 m c_ve1, .slice A_vi1 ni c_vi1, .slice A_vo1 no c_vo1], .own (.slice A_ve1 m c_ve1) 80 2 m (ints es), .own (.slice A_vi1 ni c_vi1) 3 1 ni (ints is), .own (.slice A_vo1 no c_vo1) 3 1 no (ints os)]
  refine Run.p (.tuple #[.agg #[.int .i64 (((N2 : Nat) : Int)), ve2, vi2, vo2], .agg #[vx2, vy2]]) rfl rfl ?_
  refine Run.p (.agg #[.int .i64 (((N2 : Nat) : Int)), ve2, vi2, vo2]) rfl rfl ?_
  refine Run.p (.agg #[vx2, vy2]) rfl rfl ?_
  refine Run.step rfl (OpStep.alloc (zs := [.int .i64 0, .slice none 0 0, .slice none 0 0, .slice none 0 0]) Tzero_26 fun b4 => ?_)
  refine Run.step rfl (OpStep.alloc (zs := [.slice none 0 0, .slice none 0 0]) Tzero_38 fun b5 => ?_)
  refine Run.formOwn (.tail _ (.tail _ (List.Mem.head _))) (fun A_ve21 c_ve21 hv hcapc_ve21 hmaxc_ve21 => ?_) (fun _ _ _ => ⟨nofun, nofun, nofun⟩)
  subst hv
  refine Run.formOwn (.tail _ (.tail _ (.tail _ (List.Mem.head _)))) (fun A_vi21 c_vi21 hv hcapc_vi21 hmaxc_vi21 => ?_) (fun _ _ _ => ⟨nofun, nofun, nofun⟩)
  subst hv
  refine Run.formOwn (.tail _ (.tail _ (.tail _ (.tail _ (List.Mem.head _))))) (fun A_vo21 c_vo21 hv hcapc_vo21 hmaxc_vo21 => ?_) (fun _ _ _ => ⟨nofun, nofun, nofun⟩)
  subst hv
  refine Run.step rfl (OpStep.storeAll (us := [.int .i64 (((N2 : Nat) : Int)), .slice A_ve21 m2 c_ve21, .slice A_vi21 ni2 c_vi21, .slice A_vo21 no2 c_vo21]) Tsize_26 rfl rfl rfl (.there _ (.here _)) rfl ?_)
  refine Run.formOwn (.tail _ (.tail _ (.tail _ (.tail _ (.tail _ (List.Mem.head _)))))) (fun A_vx21 c_vx21 hv hcapc_vx21 hmaxc_vx21 => ?_) (fun _ _ _ => ⟨nofun, nofun, nofun⟩)
  subst hv
  refine Run.formOwn (.tail _ (.tail _ (.tail _ (.tail _ (.tail _ (.tail _ (List.Mem.head _))))))) (fun A_vy21 c_vy21 hv hcapc_vy21 hmaxc_vy21 => ?_) (fun _ _ _ => ⟨nofun, nofun, nofun⟩)
  subst hv
  refine Run.step rfl (OpStep.storeAll (us := [.slice A_vx21 aa2 c_vx21, .slice A_vy21 bb2 c_vy21]) Tsize_38 rfl rfl rfl (.here _) rfl ?_)
  refine Run.dsr ?_
  refine Run.y (.agg #[.int .i64 (((N2 : Nat) : Int)), .slice A_ve21 m2 c_ve21, .slice A_vi21 ni2 c_vi21, .slice A_vo21 no2 c_vo21]) rfl (OpY.loadN (cs := [.int .i64 (((N2 : Nat) : Int)), .slice A_ve21 m2 c_ve21, .slice A_vi21 ni2 c_vi21, .slice A_vo21 no2 c_vo21]) Tagg_26 rfl (Cells.blk (.tail _ (List.Mem.head _)) ⟨rfl, rfl, rfl, rfl, trivial⟩)) ?_
  refine Run.y (.agg #[.slice A_vx21 aa2 c_vx21, .slice A_vy21 bb2 c_vy21]) rfl (OpY.loadN (cs := [.slice A_vx21 aa2 c_vx21, .slice A_vy21 bb2 c_vy21]) Tagg_38 rfl (Cells.blk (.head _) ⟨rfl, rfl, trivial⟩)) ?_
  refine Run.q (v := .tuple #[.bool (ogB N2 es2 m2 is2 ni2 os2 no2 && gfB es2 m2 N2 is2 ni2 os2 no2 nx2 aa2 ly2 bb2), .bool (ogB N2 es2 m2 is2 ni2 os2 no2)]) rfl (OpQ.call (vs := [.agg #[.int .i64 (((N2 : Nat) : Int)), .slice A_ve21 m2 c_ve21, .slice A_vi21 ni2 c_vi21, .slice A_vo21 no2 c_vo21], .agg #[.slice A_vx21 aa2 c_vx21, .slice A_vy21 bb2 c_vy21]]) (caps := []) Tcall_13 rfl rfl (fun w hs => IsGFlow_spec (by omega) (hs.slOwn (.tail _ (.tail _ (List.Mem.head _)))) (hs.slOwn (.tail _ (.tail _ (.tail _ (List.Mem.head _))))) (hs.slOwn (.tail _ (.tail _ (.tail _ (.tail _ (List.Mem.head _)))))) (hs.slOwn (.tail _ (.tail _ (.tail _ (.tail _ (.tail _ (List.Mem.head _))))))) (hs.slOwn (.tail _ (.tail _ (.tail _ (.tail _ (.tail _ (.tail _ (List.Mem.head _)))))))))) ?_
  refine Run.p (.tuple #[.bool (ogB N2 es2 m2 is2 ni2 os2 no2 && gfB es2 m2 N2 is2 ni2 os2 no2 nx2 aa2 ly2 bb2), .bool (ogB N2 es2 m2 is2 ni2 os2 no2)]) rfl rfl ?_
  refine Run.p (.bool (ogB N2 es2 m2 is2 ni2 os2 no2 && gfB es2 m2 N2 is2 ni2 os2 no2 nx2 aa2 ly2 bb2)) rfl rfl ?_
  refine Run.p (.bool (ogB N2 es2 m2 is2 ni2 os2 no2)) rfl rfl ?_
  refine Run.p (.bool (ogB N2 es2 m2 is2 ni2 os2 no2 && gfB es2 m2 N2 is2 ni2 os2 no2 nx2 aa2 ly2 bb2)) rfl rfl ?_
  refine Run.p (.bool (ogB N2 es2 m2 is2 ni2 os2 no2)) rfl rfl ?_
  refine Run.dsr ?_
  refine Run.y (.agg #[.int .i64 (((N2 : Nat) : Int)), .slice A_ve21 m2 c_ve21, .slice A_vi21 ni2 c_vi21, .slice A_vo21 no2 c_vo21]) rfl (OpY.loadN (cs := [.int .i64 (((N2 : Nat) : Int)), .slice A_ve21 m2 c_ve21, .slice A_vi21 ni2 c_vi21, .slice A_vo21 no2 c_vo21]) Tagg_26 rfl (Cells.blk (.tail _ (List.Mem.head _)) ⟨rfl, rfl, rfl, rfl, trivial⟩)) ?_
  refine Run.y (.agg #[.slice A_vx21 aa2 c_vx21, .slice A_vy21 bb2 c_vy21]) rfl (OpY.loadN (cs := [.slice A_vx21 aa2 c_vx21, .slice A_vy21 bb2 c_vy21]) Tagg_38 rfl (Cells.blk (.head _) ⟨rfl, rfl, trivial⟩)) ?_
  refine Run.q (v := .tuple #[.bool (ogB N2 es2 m2 is2 ni2 os2 no2 && gfB es2 m2 N2 is2 ni2 os2 no2 nx2 aa2 ly2 bb2), .bool (ogB N2 es2 m2 is2 ni2 os2 no2)]) rfl (OpQ.call (vs := [.agg #[.int .i64 (((N2 : Nat) : Int)), .slice A_ve21 m2 c_ve21, .slice A_vi21 ni2 c_vi21, .slice A_vo21 no2 c_vo21], .agg #[.slice A_vx21 aa2 c_vx21, .slice A_vy21 bb2 c_vy21]]) (caps := []) Tcall_19 rfl rfl (fun w hs => sIsGFlow_spec (by omega) (hs.slOwn (.tail _ (.tail _ (List.Mem.head _)))) (hs.slOwn (.tail _ (.tail _ (.tail _ (List.Mem.head _))))) (hs.slOwn (.tail _ (.tail _ (.tail _ (.tail _ (List.Mem.head _)))))) (hs.slOwn (.tail _ (.tail _ (.tail _ (.tail _ (.tail _ (List.Mem.head _))))))) (hs.slOwn (.tail _ (.tail _ (.tail _ (.tail _ (.tail _ (.tail _ (List.Mem.head _)))))))) hsm2)) ?_
  refine Run.p (.tuple #[.bool (ogB N2 es2 m2 is2 ni2 os2 no2 && gfB es2 m2 N2 is2 ni2 os2 no2 nx2 aa2 ly2 bb2), .bool (ogB N2 es2 m2 is2 ni2 os2 no2)]) rfl rfl ?_
  refine Run.p (.bool (ogB N2 es2 m2 is2 ni2 os2 no2 && gfB es2 m2 N2 is2 ni2 os2 no2 nx2 aa2 ly2 bb2)) rfl rfl ?_
  refine Run.p (.bool (ogB N2 es2 m2 is2 ni2 os2 no2)) rfl rfl ?_
  refine Run.p (.bool (ogB N2 es2 m2 is2 ni2 os2 no2 && gfB es2 m2 N2 is2 ni2 os2 no2 nx2 aa2 ly2 bb2)) rfl rfl ?_
  refine Run.p (.bool (ogB N2 es2 m2 is2 ni2 os2 no2)) rfl rfl ?_
  refine Run.done ?_
  refine Run.seq ?_
  refine Run.sr ?_
  refine Run.p (.bool ((gfO es m N is ni os no).isSome)) rfl rfl ?_
  refine Run.p (.bool ((gfO es m N is ni os no).isSome)) rfl rfl ?_
  refine Run.y (.bool false) rfl (OpY.neqBSame Tbool_4 rfl rfl rfl) ?_
  refine Run.p (.bool false) rfl rfl ?_
  refine Run.y (.pointer (some ⟨b2, 0, none⟩)) rfl (OpY.fieldAddr Tfo_38_0 rfl rfl) ?_
  refine Run.y (.slice A_ua11 ((gfA es m N is ni os no).length) c_ua11) rfl (OpY.load1 Tone_24 rfl (Cells.blk (.tail _ (.tail _ (.tail _ (.tail _ (.tail _ (.tail _ (.tail _ (.tail _ (.tail _ (.tail _ (List.Mem.head _))))))))))) ⟨rfl, trivial⟩)) ?_
  refine Run.y (.pointer (some ⟨b3, 0, none⟩)) rfl (OpY.fieldAddr Tfo_38_0 rfl rfl) ?_
  refine Run.y (.slice A_uc11 ((gfA es m N is ni os no).length) c_uc11) rfl (OpY.load1 Tone_24 rfl (Cells.blk (.tail _ (.tail _ (.tail _ (.tail _ (.tail _ (.tail _ (.tail _ (List.Mem.head _)))))))) ⟨rfl, trivial⟩)) ?_
  refine Run.q (v := .bool true) rfl (OpQ.call (vs := [.slice A_ua11 ((gfA es m N is ni os no).length) c_ua11, .slice A_uc11 ((gfA es m N is ni os no).length) c_uc11]) (caps := []) Tcall_11 rfl rfl (fun w hs => (by have h := qInts_spec (xs := (gfA es m N is ni os no)) (ys := (gfA es m N is ni os no)) (hs.slOwn (.tail _ (.tail _ (.tail _ (.tail _ (.tail _ (.tail _ (.tail _ (.tail _ (.tail _ (.tail _ (.tail _ (List.Mem.head _))))))))))))) (hs.slOwn (.tail _ (.tail _ (.tail _ (.tail _ (.tail _ (.tail _ (.tail _ (.tail _ (List.Mem.head _)))))))))); rw [decide_eq_true rfl] at h; exact h))) ?_
  refine Run.p (.bool false) rfl rfl ?_
  refine Run.p (.bool false) rfl rfl ?_
  refine Run.p (.bool false) rfl rfl ?_
  refine Run.y (.pointer (some ⟨b2, 1, none⟩)) rfl (OpY.fieldAddr Tfo_38_1 rfl rfl) ?_
  refine Run.y (.slice A_ub11 ((gfL es m N is ni os no).length) c_ub11) rfl (OpY.load1 Tone_24 rfl (Cells.blk (.tail _ (.tail _ (.tail _ (.tail _ (.tail _ (.tail _ (.tail _ (.tail _ (.tail _ (.tail _ (List.Mem.head _))))))))))) ⟨rfl, trivial⟩)) ?_
  refine Run.y (.pointer (some ⟨b3, 1, none⟩)) rfl (OpY.fieldAddr Tfo_38_1 rfl rfl) ?_
  refine Run.y (.slice A_ud11 ((gfL es m N is ni os no).length) c_ud11) rfl (OpY.load1 Tone_24 rfl (Cells.blk (.tail _ (.tail _ (.tail _ (.tail _ (.tail _ (.tail _ (.tail _ (List.Mem.head _)))))))) ⟨rfl, trivial⟩)) ?_
  refine Run.q (v := .bool true) rfl (OpQ.call (vs := [.slice A_ub11 ((gfL es m N is ni os no).length) c_ub11, .slice A_ud11 ((gfL es m N is ni os no).length) c_ud11]) (caps := []) Tcall_11 rfl rfl (fun w hs => (by have h := qInts_spec (xs := (gfL es m N is ni os no)) (ys := (gfL es m N is ni os no)) (hs.slOwn (.tail _ (.tail _ (.tail _ (.tail _ (.tail _ (.tail _ (.tail _ (.tail _ (.tail _ (.tail _ (.tail _ (.tail _ (List.Mem.head _)))))))))))))) (hs.slOwn (.tail _ (.tail _ (.tail _ (.tail _ (.tail _ (.tail _ (.tail _ (.tail _ (.tail _ (List.Mem.head _))))))))))); rw [decide_eq_true rfl] at h; exact h))) ?_
  refine Run.p (.bool false) rfl rfl ?_
  refine Run.p (.bool false) rfl rfl ?_
  refine Run.p (.bool false) rfl rfl ?_
  refine Run.p (.bool (ogB N2 es2 m2 is2 ni2 os2 no2)) rfl rfl ?_
  refine Run.p (.bool (ogB N2 es2 m2 is2 ni2 os2 no2)) rfl rfl ?_
  refine Run.y (.bool false) rfl (OpY.neqBSame Tbool_4 rfl rfl rfl) ?_
  refine Run.p (.bool false) rfl rfl ?_
  refine Run.p (.bool false) rfl rfl ?_
  refine Run.p (.bool (ogB N2 es2 m2 is2 ni2 os2 no2 && gfB es2 m2 N2 is2 ni2 os2 no2 nx2 aa2 ly2 bb2)) rfl rfl ?_
  refine Run.p (.bool (ogB N2 es2 m2 is2 ni2 os2 no2 && gfB es2 m2 N2 is2 ni2 os2 no2 nx2 aa2 ly2 bb2)) rfl rfl ?_
  refine Run.y (.bool false) rfl (OpY.neqBSame Tbool_4 rfl rfl rfl) ?_
  refine Run.p (.bool false) rfl rfl ?_
  refine Run.done ?_
  refine Run.cond (b := false) rfl (fun h => nomatch h) (fun _ => ?_)
  refine Run.skip ?_
  refine Run.seq ?_
  refine Run.sr ?_
  refine Run.p (.bool (ogB N2 es2 m2 is2 ni2 os2 no2 && gfB es2 m2 N2 is2 ni2 os2 no2 nx2 aa2 ly2 bb2)) rfl rfl ?_
  refine Run.done ?_
  refine Run.cond (b := ogB N2 es2 m2 is2 ni2 os2 no2 && gfB es2 m2 N2 is2 ni2 os2 no2 nx2 aa2 ly2 bb2) rfl (fun h91 => ?_) (fun h91 => ?_)
  ·have p91 := h91; try simp only [bs] at p91
   have hgl2 := gf_len (gf_found h91)
   have hno2 := ris_le (og_ok hgl2.1).2.2.2.2
   have hxm : mostL (gfL es2 m2 N2 is2 ni2 os2 no2) (gfL es2 m2 N2 is2 ni2 os2 no2).length ≤ ((N2 - no2 : Nat) : Int) := mostL_le fun i hi => by
    have h1 := hgl2.2.2.2 i (by omega)
    omega
   refine Run.sr ?_
   refine Run.y (.agg #[.int .i64 (((N2 : Nat) : Int)), .slice A_ve21 m2 c_ve21, .slice A_vi21 ni2 c_vi21, .slice A_vo21 no2 c_vo21]) rfl (OpY.loadN (cs := [.int .i64 (((N2 : Nat) : Int)), .slice A_ve21 m2 c_ve21, .slice A_vi21 ni2 c_vi21, .slice A_vo21 no2 c_vo21]) Tagg_26 rfl (Cells.blk (.tail _ (List.Mem.head _)) ⟨rfl, rfl, rfl, rfl, trivial⟩)) ?_
   refine Run.step rfl (OpStep.call (vs := [.agg #[.int .i64 (((N2 : Nat) : Int)), .slice A_ve21 m2 c_ve21, .slice A_vi21 ni2 c_vi21, .slice A_vo21 no2 c_vo21]]) (caps := []) Tcall_14 rfl rfl (fun w hs => (by have h := GFlowOf_spec (n := N2) (by omega) (hs.slOwn (.tail _ (.tail _ (List.Mem.head _)))) (hs.slOwn (.tail _ (.tail _ (.tail _ (List.Mem.head _))))) (hs.slOwn (.tail _ (.tail _ (.tail _ (.tail _ (List.Mem.head _)))))); rw [gf_found h91] at h; exact h)) ?_)
   rintro _ _ ⟨ua2, ub2, rfl, rfl⟩
   show Run _ _ (putF _ _ _ (.tuple #[.agg #[ua2, ub2], .bool true])) [.own ua2 3 1 ((gfA es2 m2 N2 is2 ni2 os2 no2).length) (ints (gfA es2 m2 N2 is2 ni2 os2 no2)), .own ub2 3 1 ((gfL es2 m2 N2 is2 ni2 os2 no2).length) (ints (gfL es2 m2 N2 is2 ni2 os2 no2)), .blk b5 38 [.slice A_vx21 aa2 c_vx21, .slice A_vy21 bb2 c_vy21], .blk b4 26 [.int .i64 (((N2 : Nat) : Int)), .slice A_ve21 m2 c_ve21, .slice A_vi21 ni2 c_vi21, .slice A_vo21 no2 c_vo21], .own (.slice A_ve21 m2 c_ve21) 80 2 m2 (ints es2), .own (.slice A_vi21 ni2 c_vi21) 3 1 ni2 (ints is2), .own (.slice A_vo21 no2 c_vo21) 3 1 no2 (ints os2), .own (.slice A_vx21 aa2 c_vx21) 3 1 aa2 (ints nx2), .own (.slice A_vy21 bb2 c_vy21) 3 1 bb2 (ints ly2), .blk b3 38 [.slice A_uc11 ((gfA es m N is ni os no).length) c_uc11, .slice A_ud11 ((gfL es m N is ni os no).length) c_ud11], .own (.slice A_uc11 ((gfA es m N is ni os no).length) c_uc11) 3 1 ((gfA es m N is ni os no).length) (ints (gfA es m N is ni os no)), .own (.slice A_ud11 ((gfL es m N is ni os no).length) c_ud11) 3 1 ((gfL es m N is ni os no).length) (ints (gfL es m N is ni os no)), .blk b2 38 [.slice A_ua11 ((gfA es m N is ni os no).length) c_ua11, .slice A_ub11 ((gfL es m N is ni os no).length) c_ub11], .own (.slice A_ua11 ((gfA es m N is ni os no).length) c_ua11) 3 1 ((gfA es m N is ni os no).length) (ints (gfA es m N is ni os no)), .own (.slice A_ub11 ((gfL es m N is ni os no).length) c_ub11) 3 1 ((gfL es m N is ni os no).length) (ints (gfL es m N is ni os no)), .blk b1 26 [.int .i64 (((N : Nat) : Int)), .slice A_ve1 m c_ve1, .slice A_vi1 ni c_vi1, .slice A_vo1 no c_vo1], .own (.slice A_ve1 m c_ve1) 80 2 m (ints es), .own (.slice A_vi1 ni c_vi1) 3 1 ni (ints is), .own (.slice A_vo1 no c_vo1) 3 1 no (ints os)]
   refine Run.p (.tuple #[.agg #[ua2, ub2], .bool true]) rfl rfl ?_
   refine Run.p (.agg #[ua2, ub2]) rfl rfl ?_
   refine Run.p (.bool true) rfl rfl ?_
   refine Run.step rfl (OpStep.alloc (zs := [.slice none 0 0, .slice none 0 0]) Tzero_38 fun b6 => ?_)
   refine Run.formOwn (.tail _ (List.Mem.head _)) (fun A_ua21 c_ua21 hv hcapc_ua21 hmaxc_ua21 => ?_) (fun _ _ _ => ⟨nofun, nofun, nofun⟩)
   subst hv
   refine Run.formOwn (.tail _ (.tail _ (List.Mem.head _))) (fun A_ub21 c_ub21 hv hcapc_ub21 hmaxc_ub21 => ?_) (fun _ _ _ => ⟨nofun, nofun, nofun⟩)
   subst hv
   refine Run.step rfl (OpStep.storeAll (us := [.slice A_ua21 ((gfA es2 m2 N2 is2 ni2 os2 no2).length) c_ua21, .slice A_ub21 ((gfL es2 m2 N2 is2 ni2 os2 no2).length) c_ub21]) Tsize_38 rfl rfl rfl (.here _) rfl ?_)
   refine Run.p (.bool true) rfl rfl ?_
   refine Run.done ?_
   refine Run.seq ?_
   refine Run.draws (by kernel_rfl) (by kernel_rfl) ?_
   refine Lex.q (v := .bool true) rfl (OpQ.y (OpY.pure rfl)) ?_
   refine Lex.q (v := .bool false) rfl (OpQ.y (OpY.pure rfl)) ?_
   refine Lex.q (v := .bool false) rfl (OpQ.y (OpY.pure rfl)) ?_
   refine Lex.q (v := .pointer (some ⟨b6, 1, none⟩)) rfl (OpQ.y (OpY.fieldAddr Tfo_38_1 rfl rfl)) ?_
   refine Lex.q (v := .slice A_ub21 ((gfL es2 m2 N2 is2 ni2 os2 no2).length) c_ub21) rfl (OpQ.y (OpY.load1 Tone_24 rfl (Cells.blk (.head _) ⟨rfl, trivial⟩))) ?_
   refine Lex.q (v := .int .i64 (mostL (gfL es2 m2 N2 is2 ni2 os2 no2) (gfL es2 m2 N2 is2 ni2 os2 no2).length)) rfl (OpQ.call (vs := [.slice A_ub21 ((gfL es2 m2 N2 is2 ni2 os2 no2).length) c_ub21]) (caps := []) Tcall_20 rfl rfl (fun w hs => qMost_spec (hs.slOwn (.tail _ (.tail _ (List.Mem.head _)))))) ?_
   refine Lex.q (v := .pointer (some ⟨b4, 0, none⟩)) rfl (OpQ.y (OpY.fieldAddr Tfo_26_0 rfl rfl)) ?_
   refine Lex.q (v := .int .i64 (((N2 : Nat) : Int))) rfl (OpQ.y (OpY.load1 Tone_3 rfl (Cells.blk (.tail _ (.tail _ (.tail _ (.tail _ (List.Mem.head _))))) ⟨rfl, trivial⟩))) ?_
   refine Lex.q (v := .pointer (some ⟨b4, 3, none⟩)) rfl (OpQ.y (OpY.fieldAddr Tfo_26_3 rfl rfl)) ?_
   refine Lex.q (v := .slice A_vo21 no2 c_vo21) rfl (OpQ.y (OpY.load1 Tone_24 rfl (Cells.blk (.tail _ (.tail _ (.tail _ (.tail _ (List.Mem.head _))))) ⟨rfl, trivial⟩))) ?_
   refine Lex.q (v := .int .i64 (((no2 : Nat) : Int))) rfl (OpQ.y (OpY.len Tsl_24 rfl)) ?_
   refine Lex.q (v := .int .i64 (((N2 - no2 : Nat) : Int))) rfl (OpQ.y (OpY.sub rfl rfl (by omega) (by omega) (by omega))) ?_
   refine Lex.q (v := .bool (decide ((mostL (gfL es2 m2 N2 is2 ni2 os2 no2) (gfL es2 m2 N2 is2 ni2 os2 no2).length) > (((N2 - no2 : Nat) : Int))))) rfl (OpQ.y (OpY.pure rfl)) ?_
   refine Lex.q (v := .bool (decide ((mostL (gfL es2 m2 N2 is2 ni2 os2 no2) (gfL es2 m2 N2 is2 ni2 os2 no2).length) > (((N2 - no2 : Nat) : Int))))) rfl (OpQ.y (OpY.pure rfl)) ?_
   refine Lex.done ?_
   refine Run.cond (b := decide ((mostL (gfL es2 m2 N2 is2 ni2 os2 no2) (gfL es2 m2 N2 is2 ni2 os2 no2).length) > (((N2 - no2 : Nat) : Int)))) rfl (fun h110 => ?_) (fun h110 => ?_)
   ·exact absurd h110 (by simp; omega) --DONE
   ·have p110 := h110; try simp only [bs] at p110
    refine Run.skip ?_
    refine Run.seq ?_
    refine Run.sr ?_
    refine Run.p (.bool ((gfO es m N is ni os no).isSome)) rfl rfl ?_
    refine Run.p (.bool (!((gfO es m N is ni os no).isSome))) rfl rfl ?_
    refine Run.done ?_
    refine Run.cond (b := !((gfO es m N is ni os no).isSome)) rfl (fun h112 => ?_) (fun h112 => ?_)
    ·have p112 := h112; try simp only [bs] at p112
     refine Run.sr ?_
     refine Run.p (.bool true) rfl rfl ?_
     refine Run.done ?_
     refine Run.ret ?_
     refine ⟨.bool true, [], Out.one rfl rfl, (Some'.weak (.nil _)), ?_⟩
     rfl
    ·have p112 := h112; try simp only [bs] at p112
     have hyes : (gfO es m N is ni os no).isSome = true := by simpa using p112
     have hgl := gf_len hyes
     have hgf := gf_fl hyes
     have hgf2 : gfB es m N is ni os no (gfA es m N is ni os no) (gfA es m N is ni os no).length (gfL es m N is ni os no) (gfL es m N is ni os no).length = true := by rw [hgl.2.1, hgl.2.2.1]; exact hgf
     have hla := hgl.2.1
     obtain ⟨hn1, hn10, hes, hri, hro⟩ := og_ok hgl.1
     have hp10 := pow10 hn10
     refine Run.skip ?_
     refine Run.sr ?_
     refine Run.y (.agg #[.int .i64 (((N : Nat) : Int)), .slice A_ve1 m c_ve1, .slice A_vi1 ni c_vi1, .slice A_vo1 no c_vo1]) rfl (OpY.loadN (cs := [.int .i64 (((N : Nat) : Int)), .slice A_ve1 m c_ve1, .slice A_vi1 ni c_vi1, .slice A_vo1 no c_vo1]) Tagg_26 rfl (Cells.blk (.tail _ (.tail _ (.tail _ (.tail _ (.tail _ (.tail _ (.tail _ (.tail _ (.tail _ (.tail _ (.tail _ (.tail _ (.tail _ (.tail _ (.tail _ (.tail _ (List.Mem.head _))))))))))))))))) ⟨rfl, rfl, rfl, rfl, trivial⟩)) ?_
     refine Run.y (.agg #[.slice A_ua11 ((gfA es m N is ni os no).length) c_ua11, .slice A_ub11 ((gfL es m N is ni os no).length) c_ub11]) rfl (OpY.loadN (cs := [.slice A_ua11 ((gfA es m N is ni os no).length) c_ua11, .slice A_ub11 ((gfL es m N is ni os no).length) c_ub11]) Tagg_38 rfl (Cells.blk (.tail _ (.tail _ (.tail _ (.tail _ (.tail _ (.tail _ (.tail _ (.tail _ (.tail _ (.tail _ (.tail _ (.tail _ (.tail _ (List.Mem.head _)))))))))))))) ⟨rfl, rfl, trivial⟩)) ?_
     refine Run.q (v := .tuple #[.bool true, .bool true]) rfl (OpQ.call (vs := [.agg #[.int .i64 (((N : Nat) : Int)), .slice A_ve1 m c_ve1, .slice A_vi1 ni c_vi1, .slice A_vo1 no c_vo1], .agg #[.slice A_ua11 ((gfA es m N is ni os no).length) c_ua11, .slice A_ub11 ((gfL es m N is ni os no).length) c_ub11]]) (caps := []) Tcall_13 rfl rfl (fun w hs => (by have h := IsGFlow_spec (n := N) (by omega) (hs.slOwn (.tail _ (.tail _ (.tail _ (.tail _ (.tail _ (.tail _ (.tail _ (.tail _ (.tail _ (.tail _ (.tail _ (.tail _ (.tail _ (.tail _ (.tail _ (.tail _ (.tail _ (List.Mem.head _))))))))))))))))))) (hs.slOwn (.tail _ (.tail _ (.tail _ (.tail _ (.tail _ (.tail _ (.tail _ (.tail _ (.tail _ (.tail _ (.tail _ (.tail _ (.tail _ (.tail _ (.tail _ (.tail _ (.tail _ (.tail _ (List.Mem.head _)))))))))))))))))))) (hs.slOwn (.tail _ (.tail _ (.tail _ (.tail _ (.tail _ (.tail _ (.tail _ (.tail _ (.tail _ (.tail _ (.tail _ (.tail _ (.tail _ (.tail _ (.tail _ (.tail _ (.tail _ (.tail _ (.tail _ (List.Mem.head _))))))))))))))))))))) (hs.slOwn (.tail _ (.tail _ (.tail _ (.tail _ (.tail _ (.tail _ (.tail _ (.tail _ (.tail _ (.tail _ (.tail _ (.tail _ (.tail _ (.tail _ (List.Mem.head _)))))))))))))))) (hs.slOwn (.tail _ (.tail _ (.tail _ (.tail _ (.tail _ (.tail _ (.tail _ (.tail _ (.tail _ (.tail _ (.tail _ (.tail _ (.tail _ (.tail _ (.tail _ (List.Mem.head _))))))))))))))))); rw [hgl.1, hgf2] at h; exact h))) ?_
     refine Run.p (.tuple #[.bool true, .bool true]) rfl rfl ?_
     refine Run.p (.bool true) rfl rfl ?_
     refine Run.p (.bool true) rfl rfl ?_
     refine Run.p (.bool true) rfl rfl ?_
     refine Run.p (.bool true) rfl rfl ?_
     refine Run.dsr ?_
     refine Run.y (.agg #[.int .i64 (((N : Nat) : Int)), .slice A_ve1 m c_ve1, .slice A_vi1 ni c_vi1, .slice A_vo1 no c_vo1]) rfl (OpY.loadN (cs := [.int .i64 (((N : Nat) : Int)), .slice A_ve1 m c_ve1, .slice A_vi1 ni c_vi1, .slice A_vo1 no c_vo1]) Tagg_26 rfl (Cells.blk (.tail _ (.tail _ (.tail _ (.tail _ (.tail _ (.tail _ (.tail _ (.tail _ (.tail _ (.tail _ (.tail _ (.tail _ (.tail _ (.tail _ (.tail _ (.tail _ (List.Mem.head _))))))))))))))))) ⟨rfl, rfl, rfl, rfl, trivial⟩)) ?_
     refine Run.y (.agg #[.slice A_ua11 ((gfA es m N is ni os no).length) c_ua11, .slice A_ub11 ((gfL es m N is ni os no).length) c_ub11]) rfl (OpY.loadN (cs := [.slice A_ua11 ((gfA es m N is ni os no).length) c_ua11, .slice A_ub11 ((gfL es m N is ni os no).length) c_ub11]) Tagg_38 rfl (Cells.blk (.tail _ (.tail _ (.tail _ (.tail _ (.tail _ (.tail _ (.tail _ (.tail _ (.tail _ (.tail _ (.tail _ (.tail _ (.tail _ (List.Mem.head _)))))))))))))) ⟨rfl, rfl, trivial⟩)) ?_
     refine Run.step rfl (OpStep.call (vs := [.agg #[.int .i64 (((N : Nat) : Int)), .slice A_ve1 m c_ve1, .slice A_vi1 ni c_vi1, .slice A_vo1 no c_vo1], .agg #[.slice A_ua11 ((gfA es m N is ni os no).length) c_ua11, .slice A_ub11 ((gfL es m N is ni os no).length) c_ub11]]) (caps := []) Tcall_21 rfl rfl (fun w hs => MeasureOrder_spec hgl.1 hgf (hs.slOwn (.tail _ (.tail _ (.tail _ (.tail _ (.tail _ (.tail _ (.tail _ (.tail _ (.tail _ (.tail _ (.tail _ (.tail _ (.tail _ (.tail _ (.tail _ (.tail _ (.tail _ (List.Mem.head _))))))))))))))))))) (hs.slOwn (.tail _ (.tail _ (.tail _ (.tail _ (.tail _ (.tail _ (.tail _ (.tail _ (.tail _ (.tail _ (.tail _ (.tail _ (.tail _ (.tail _ (.tail _ (.tail _ (.tail _ (.tail _ (List.Mem.head _)))))))))))))))))))) (hs.slOwn (.tail _ (.tail _ (.tail _ (.tail _ (.tail _ (.tail _ (.tail _ (.tail _ (.tail _ (.tail _ (.tail _ (.tail _ (.tail _ (.tail _ (.tail _ (.tail _ (.tail _ (.tail _ (.tail _ (List.Mem.head _))))))))))))))))))))) (Sl.as (hs.slOwn (.tail _ (.tail _ (.tail _ (.tail _ (.tail _ (.tail _ (.tail _ (.tail _ (.tail _ (.tail _ (.tail _ (.tail _ (.tail _ (.tail _ (List.Mem.head _)))))))))))))))) hgl.2.1) (Sl.as (hs.slOwn (.tail _ (.tail _ (.tail _ (.tail _ (.tail _ (.tail _ (.tail _ (.tail _ (.tail _ (.tail _ (.tail _ (.tail _ (.tail _ (.tail _ (.tail _ (List.Mem.head _))))))))))))))))) hgl.2.2.1)) ?_)
     rintro _ _ ⟨uo, k0, ys, ⟨hk0, hperm, hsrt⟩, rfl, rfl⟩
     show Run _ _ (putF _ _ _ (.tuple #[uo, .bool true])) [.own uo 3 1 k0 (ints ys), .blk b6 38 [.slice A_ua21 ((gfA es2 m2 N2 is2 ni2 os2 no2).length) c_ua21, .slice A_ub21 ((gfL es2 m2 N2 is2 ni2 os2 no2).length) c_ub21], .own (.slice A_ua21 ((gfA es2 m2 N2 is2 ni2 os2 no2).length) c_ua21) 3 1 ((gfA es2 m2 N2 is2 ni2 os2 no2).length) (ints (gfA es2 m2 N2 is2 ni2 os2 no2)), .own (.slice A_ub21 ((gfL es2 m2 N2 is2 ni2 os2 no2).length) c_ub21) 3 1 ((gfL es2 m2 N2 is2 ni2 os2 no2).length) (ints (gfL es2 m2 N2 is2 ni2 os2 no2)), .blk b5 38 [.slice A_vx21 aa2 c_vx21, .slice A_vy21 bb2 c_vy21], .blk b4 26 [.int .i64 (((N2 : Nat) : Int)), .slice A_ve21 m2 c_ve21, .slice A_vi21 ni2 c_vi21, .slice A_vo21 no2 c_vo21], .own (.slice A_ve21 m2 c_ve21) 80 2 m2 (ints es2), .own (.slice A_vi21 ni2 c_vi21) 3 1 ni2 (ints is2), .own (.slice A_vo21 no2 c_vo21) 3 1 no2 (ints os2), .own (.slice A_vx21 aa2 c_vx21) 3 1 aa2 (ints nx2), .own (.slice A_vy21 bb2 c_vy21) 3 1 bb2 (ints ly2), .blk b3 38 [.slice A_uc11 ((gfA es m N is ni os no).length) c_uc11, .slice A_ud11 ((gfL es m N is ni os no).length) c_ud11], .own (.slice A_uc11 ((gfA es m N is ni os no).length) c_uc11) 3 1 ((gfA es m N is ni os no).length) (ints (gfA es m N is ni os no)), .own (.slice A_ud11 ((gfL es m N is ni os no).length) c_ud11) 3 1 ((gfL es m N is ni os no).length) (ints (gfL es m N is ni os no)), .blk b2 38 [.slice A_ua11 ((gfA es m N is ni os no).length) c_ua11, .slice A_ub11 ((gfL es m N is ni os no).length) c_ub11], .own (.slice A_ua11 ((gfA es m N is ni os no).length) c_ua11) 3 1 ((gfA es m N is ni os no).length) (ints (gfA es m N is ni os no)), .own (.slice A_ub11 ((gfL es m N is ni os no).length) c_ub11) 3 1 ((gfL es m N is ni os no).length) (ints (gfL es m N is ni os no)), .blk b1 26 [.int .i64 (((N : Nat) : Int)), .slice A_ve1 m c_ve1, .slice A_vi1 ni c_vi1, .slice A_vo1 no c_vo1], .own (.slice A_ve1 m c_ve1) 80 2 m (ints es), .own (.slice A_vi1 ni c_vi1) 3 1 ni (ints is), .own (.slice A_vo1 no c_vo1) 3 1 no (ints os)]
     refine Run.p (.tuple #[uo, .bool true]) rfl rfl ?_
     refine Run.p (uo) rfl rfl ?_
     refine Run.p (.bool true) rfl rfl ?_
     refine Run.p (uo) rfl rfl ?_
     refine Run.p (.bool true) rfl rfl ?_
     refine Run.done ?_
     have hmem : ∀ x ∈ ys, ∃ u : Nat, u < N ∧ x = (u : Int) ∧ hasI os (u : Int) no = false := fun x hx => (notO_mem N x).1 (hperm.mem_iff.1 hx)
     have hyl : ys.length = k0 := by have h1 := hperm.length_eq; have h2 := notO_len hro; omega
     refine Run.seq ?_
     refine Run.sr ?_
     refine Run.p (.bool true) rfl rfl ?_
     refine Run.p (.bool false) rfl rfl ?_
     refine Run.p (.bool false) rfl rfl ?_
     refine Run.p (.bool true) rfl rfl ?_
     refine Run.p (.bool false) rfl rfl ?_
     refine Run.p (.bool false) rfl rfl ?_
     refine Run.p (.bool false) rfl rfl ?_
     refine Run.p (.bool true) rfl rfl ?_
     refine Run.p (.bool false) rfl rfl ?_
     refine Run.p (.bool false) rfl rfl ?_
     refine Run.p (.bool false) rfl rfl ?_
     refine Run.p (uo) rfl rfl ?_
     refine Run.formOwn (.head _) (fun A_uo1 c_uo1 hv hcapc_uo1 hmaxc_uo1 => ?_) (fun _ _ _ => ⟨nofun, nofun, nofun⟩)
     subst hv
     refine Run.y (.int .i64 (((k0 : Nat) : Int))) rfl (OpY.len Tsl_24 rfl) ?_
     refine Run.y (.pointer (some ⟨b1, 0, none⟩)) rfl (OpY.fieldAddr Tfo_26_0 rfl rfl) ?_
     refine Run.y (.int .i64 (((N : Nat) : Int))) rfl (OpY.load1 Tone_3 rfl (Cells.blk (.tail _ (.tail _ (.tail _ (.tail _ (.tail _ (.tail _ (.tail _ (.tail _ (.tail _ (.tail _ (.tail _ (.tail _ (.tail _ (.tail _ (.tail _ (.tail _ (.tail _ (List.Mem.head _)))))))))))))))))) ⟨rfl, trivial⟩)) ?_
     refine Run.y (.pointer (some ⟨b1, 3, none⟩)) rfl (OpY.fieldAddr Tfo_26_3 rfl rfl) ?_
     refine Run.y (.slice A_vo1 no c_vo1) rfl (OpY.load1 Tone_24 rfl (Cells.blk (.tail _ (.tail _ (.tail _ (.tail _ (.tail _ (.tail _ (.tail _ (.tail _ (.tail _ (.tail _ (.tail _ (.tail _ (.tail _ (.tail _ (.tail _ (.tail _ (.tail _ (List.Mem.head _)))))))))))))))))) ⟨rfl, trivial⟩)) ?_
     refine Run.y (.int .i64 (((no : Nat) : Int))) rfl (OpY.len Tsl_24 rfl) ?_
     refine Run.y (.int .i64 (((k0 : Nat) : Int))) rfl (OpY.sub rfl rfl (by omega) (by omega) (by omega)) ?_
     refine Run.y (.bool false) rfl (OpY.neqSame rfl rfl rfl) ?_
     refine Run.p (.bool false) rfl rfl ?_
     refine Run.done ?_
     refine Run.cond (b := false) rfl (fun h => nomatch h) (fun _ => ?_)
     refine Run.skip ?_
     refine Run.sr ?_
     refine Run.p (.int .i64 0) rfl rfl ?_
     refine Run.done ?_
     refine Run.openOwn (.tail _ (.tail _ (.tail _ (.tail _ (.tail _ (.tail _ (.tail _ (.tail _ (.tail _ (.tail _ (.tail _ (.tail _ (.tail _ (.tail _ (.tail _ (List.Mem.head _)))))))))))))))) (by omega) (fun gs cgs hvgs hcapgs _ => ?_) (fun _ _ _ => ⟨nofun, nofun, nofun⟩)
     injection hvgs with hAgs _ hcgs; subst hAgs; subst hcgs
     refine Run.seq ?_
     refine Run.sr ?_
     refine Run.p (.slice A_uo1 k0 c_uo1) rfl rfl ?_
     refine Run.y (.int .i64 (((k0 : Nat) : Int))) rfl (OpY.len Tsl_24 rfl) ?_
     refine Run.p (.int .i64 0) rfl rfl ?_
     refine Run.done ?_
     refine Run.block ?_
     refine Run.loop (ι := Nat) ([4, 22, 24, 25, 26, 148, 149, 150, 151, 152, 153, 154, 155, 156, 157, 158, 159, 160, 161, 162, 163, 164, 165, 166, 167, 168, 169, 170, 171, 172, 173, 174, 175, 176, 177, 178, 179, 180, 181, 182, 183, 184, 185, 186, 187, 188, 189, 190, 191, 192] ++ [193, 194]) (fun k => [(22, .int .i64 (((dnM ys k : Nat) : Int))), (148, .int .i64 (((k : Nat) : Int)))]) (fun k => [.own (.slice A_uo1 k0 c_uo1) 3 1 k0 (ints ys), .blk b6 38 [.slice A_ua21 ((gfA es2 m2 N2 is2 ni2 os2 no2).length) c_ua21, .slice A_ub21 ((gfL es2 m2 N2 is2 ni2 os2 no2).length) c_ub21], .own (.slice A_ua21 ((gfA es2 m2 N2 is2 ni2 os2 no2).length) c_ua21) 3 1 ((gfA es2 m2 N2 is2 ni2 os2 no2).length) (ints (gfA es2 m2 N2 is2 ni2 os2 no2)), .own (.slice A_ub21 ((gfL es2 m2 N2 is2 ni2 os2 no2).length) c_ub21) 3 1 ((gfL es2 m2 N2 is2 ni2 os2 no2).length) (ints (gfL es2 m2 N2 is2 ni2 os2 no2)), .blk b5 38 [.slice A_vx21 aa2 c_vx21, .slice A_vy21 bb2 c_vy21], .blk b4 26 [.int .i64 (((N2 : Nat) : Int)), .slice A_ve21 m2 c_ve21, .slice A_vi21 ni2 c_vi21, .slice A_vo21 no2 c_vo21], .own (.slice A_ve21 m2 c_ve21) 80 2 m2 (ints es2), .own (.slice A_vi21 ni2 c_vi21) 3 1 ni2 (ints is2), .own (.slice A_vo21 no2 c_vo21) 3 1 no2 (ints os2), .own (.slice A_vx21 aa2 c_vx21) 3 1 aa2 (ints nx2), .own (.slice A_vy21 bb2 c_vy21) 3 1 bb2 (ints ly2), .blk b3 38 [.slice A_uc11 ((gfA es m N is ni os no).length) c_uc11, .slice A_ud11 ((gfL es m N is ni os no).length) c_ud11], .own (.slice A_uc11 ((gfA es m N is ni os no).length) c_uc11) 3 1 ((gfA es m N is ni os no).length) (ints (gfA es m N is ni os no)), .own (.slice A_ud11 ((gfL es m N is ni os no).length) c_ud11) 3 1 ((gfL es m N is ni os no).length) (ints (gfL es m N is ni os no)), .blk b2 38 [.slice (some ⟨gs, 0, none⟩) ((gfA es m N is ni os no).length) c_ua11, .slice A_ub11 ((gfL es m N is ni os no).length) c_ub11], .own (.slice (some ⟨gs, 0, none⟩) ((gfA es m N is ni os no).length) c_ua11) 3 1 ((gfA es m N is ni os no).length) (ints (gfA es m N is ni os no)), .own (.slice A_ub11 ((gfL es m N is ni os no).length) c_ub11) 3 1 ((gfL es m N is ni os no).length) (ints (gfL es m N is ni os no)), .blk b1 26 [.int .i64 (((N : Nat) : Int)), .slice A_ve1 m c_ve1, .slice A_vi1 ni c_vi1, .slice A_vo1 no c_vo1], .own (.slice A_ve1 m c_ve1) 80 2 m (ints es), .own (.slice A_vi1 ni c_vi1) 3 1 ni (ints is), .own (.slice A_vo1 no c_vo1) 3 1 no (ints os)]) (fun k => k ≤ k0) (fun k => k0 - k) 0 ?_ ?_ ?_ ?_
     ·exact Nat.zero_le _
     ·exact ⟨rfl, rfl, trivial⟩
     ·exact (Some'.weak (.take (.take (.take (.take (.take (.take (.take (.take (.take (.take (.take (.take (.take (.take (.take (.take (.take (.take (.take (.take (.take (.nil _)))))))))))))))))))))))
     ·rintro k fr hinv
      show Run _ _ (over _ _ [(22, .int .i64 (((dnM ys k : Nat) : Int))), (148, .int .i64 (((k : Nat) : Int)))] fr) [.own (.slice A_uo1 k0 c_uo1) 3 1 k0 (ints ys), .blk b6 38 [.slice A_ua21 ((gfA es2 m2 N2 is2 ni2 os2 no2).length) c_ua21, .slice A_ub21 ((gfL es2 m2 N2 is2 ni2 os2 no2).length) c_ub21], .own (.slice A_ua21 ((gfA es2 m2 N2 is2 ni2 os2 no2).length) c_ua21) 3 1 ((gfA es2 m2 N2 is2 ni2 os2 no2).length) (ints (gfA es2 m2 N2 is2 ni2 os2 no2)), .own (.slice A_ub21 ((gfL es2 m2 N2 is2 ni2 os2 no2).length) c_ub21) 3 1 ((gfL es2 m2 N2 is2 ni2 os2 no2).length) (ints (gfL es2 m2 N2 is2 ni2 os2 no2)), .blk b5 38 [.slice A_vx21 aa2 c_vx21, .slice A_vy21 bb2 c_vy21], .blk b4 26 [.int .i64 (((N2 : Nat) : Int)), .slice A_ve21 m2 c_ve21, .slice A_vi21 ni2 c_vi21, .slice A_vo21 no2 c_vo21], .own (.slice A_ve21 m2 c_ve21) 80 2 m2 (ints es2), .own (.slice A_vi21 ni2 c_vi21) 3 1 ni2 (ints is2), .own (.slice A_vo21 no2 c_vo21) 3 1 no2 (ints os2), .own (.slice A_vx21 aa2 c_vx21) 3 1 aa2 (ints nx2), .own (.slice A_vy21 bb2 c_vy21) 3 1 bb2 (ints ly2), .blk b3 38 [.slice A_uc11 ((gfA es m N is ni os no).length) c_uc11, .slice A_ud11 ((gfL es m N is ni os no).length) c_ud11], .own (.slice A_uc11 ((gfA es m N is ni os no).length) c_uc11) 3 1 ((gfA es m N is ni os no).length) (ints (gfA es m N is ni os no)), .own (.slice A_ud11 ((gfL es m N is ni os no).length) c_ud11) 3 1 ((gfL es m N is ni os no).length) (ints (gfL es m N is ni os no)), .blk b2 38 [.slice (some ⟨gs, 0, none⟩) ((gfA es m N is ni os no).length) c_ua11, .slice A_ub11 ((gfL es m N is ni os no).length) c_ub11], .own (.slice (some ⟨gs, 0, none⟩) ((gfA es m N is ni os no).length) c_ua11) 3 1 ((gfA es m N is ni os no).length) (ints (gfA es m N is ni os no)), .own (.slice A_ub11 ((gfL es m N is ni os no).length) c_ub11) 3 1 ((gfL es m N is ni os no).length) (ints (gfL es m N is ni os no)), .blk b1 26 [.int .i64 (((N : Nat) : Int)), .slice A_ve1 m c_ve1, .slice A_vi1 ni c_vi1, .slice A_vo1 no c_vo1], .own (.slice A_ve1 m c_ve1) 80 2 m (ints es), .own (.slice A_vi1 ni c_vi1) 3 1 ni (ints is), .own (.slice A_vo1 no c_vo1) 3 1 no (ints os)]
      try dsimp only at hinv
      refine Run.sr ?_
      refine Run.p (.bool (decide ((((k : Nat) : Int)) < (((k0 : Nat) : Int))))) rfl rfl ?_
      refine Run.done ?_
      refine Run.seq ?_
      refine Run.cond (b := decide ((((k : Nat) : Int)) < (((k0 : Nat) : Int)))) rfl (fun h149 => ?_) (fun h149 => ?_)
      ·have p149 := h149; try simp only [bs] at p149
       have hkk : k < k0 := by omega
       refine Run.openOwn (.head _) (by omega) (fun go cgo hvgo hcapgo _ => ?_) (fun _ _ _ => ⟨nofun, nofun, nofun⟩)
       injection hvgo with hAgo _ hcgo; subst hAgo; subst hcgo
       obtain ⟨v0, hv0, hv1, hv2⟩ := hmem _ (ix_mem (xs := ys) (i := k) (by omega))
       obtain ⟨q, hq, hq11, hq12⟩ := pow_q (k := v0) hn10 hv0
       have hdn : dnM ys (k + 1) = dnM ys k ||| q := by rw [dnM, hv1, Int.toNat_natCast, hq]
       obtain ⟨hS00, hS01, _⟩ := gf_set hgf hv0 hv2
       obtain ⟨S0, hS0⟩ : ∃ S : Nat, ix (gfA es m N is ni os no) v0 = (S : Int) := ⟨(ix (gfA es m N is ni os no) v0).toNat, by omega⟩
       have hSt : (ix (gfA es m N is ni os no) v0).toNat = S0 := by rw [hS0, Int.toNat_natCast]
       have hfree := mo_free hgf hyl hsrt hmem (show k < k0 by omega) hv1
       rw [hSt, hdn, ← hq] at hfree
       rw [hSt] at hS01
       have hS1 := hS01
       have hS2 : S0 < 2 ^ N := hS01
       have ho2 := oddM_lt es m N S0 N
       have hX1 : oddM es m N S0 N ||| S0 < 2 ^ N := Nat.or_lt_two_pow ho2 hS2
       have hd1 : dnM ys k < 2 ^ N := dn_lt k fun j hj => by
        obtain ⟨u, h1, h2, _⟩ := hmem _ (ix_mem (xs := ys) (i := j) (by omega))
        omega
       have hd2 : dnM ys k ||| q < 2 ^ N := by
        rw [← hdn]
        exact dn_lt (k + 1) fun j hj => by
         obtain ⟨u, h1, h2, _⟩ := hmem _ (ix_mem (xs := ys) (i := j) (by omega))
         omega
       have hX2 : (oddM es m N S0 N ||| S0) &&& (dnM ys k ||| q) < 2 ^ N := Nat.lt_of_le_of_lt Nat.and_le_left hX1
       refine Run.skip ?_
       refine Run.seq ?_
       refine Run.block ?_
       refine Run.sr ?_
       refine Run.y (.pointer (some ⟨go, k, none⟩)) rfl (OpY.index (kk := k) Tsl_24 rfl rfl (by omega) (by omega) (by first | rfl | omega)) ?_
       refine Run.y (.int .i64 (ix ys (k))) rfl (OpY.load1 Tone_3 rfl (Cells.own0 (.head _) (pre1 (by first | omega | (simp; omega))))) ?_
       refine Run.p (.int .i64 (ix ys (k))) rfl rfl ?_
       refine Run.done ?_
       rw [hv1]
       refine Run.seq ?_
       refine Run.sr ?_
       refine Run.p (.int .i64 (((v0 : Nat) : Int))) rfl rfl ?_
       refine Run.p (.bool (decide ((((v0 : Nat) : Int)) < 0))) rfl rfl ?_
       rcases Bool.eq_false_or_eq_true (decide ((((v0 : Nat) : Int)) < 0)) with h154 | h154
       ·refine Run.q (v := .bool true) rfl (OpQ.y (OpY.moveB rfl h154)) ?_
        have p154 := h154; try simp only [bs] at p154
        exact absurd h154 (by simp <;> omega) --DONE
       ·refine Run.q (v := .bool false) rfl (OpQ.y (OpY.moveB rfl h154)) ?_
        have p154 := h154; try simp only [bs] at p154
        refine Run.p (.int .i64 (((v0 : Nat) : Int))) rfl rfl ?_
        refine Run.y (.pointer (some ⟨b2, 0, none⟩)) rfl (OpY.fieldAddr Tfo_38_0 rfl rfl) ?_
        refine Run.y (.slice (some ⟨gs, 0, none⟩) ((gfA es m N is ni os no).length) c_ua11) rfl (OpY.load1 Tone_24 rfl (Cells.blk (.tail _ (.tail _ (.tail _ (.tail _ (.tail _ (.tail _ (.tail _ (.tail _ (.tail _ (.tail _ (.tail _ (.tail _ (.tail _ (.tail _ (List.Mem.head _))))))))))))))) ⟨rfl, trivial⟩)) ?_
        refine Run.y (.int .i64 ((((gfA es m N is ni os no).length : Nat) : Int))) rfl (OpY.len Tsl_24 rfl) ?_
        refine Run.p (.bool (decide ((((v0 : Nat) : Int)) ≥ ((((gfA es m N is ni os no).length : Nat) : Int))))) rfl rfl ?_
        refine Run.p (.bool (decide ((((v0 : Nat) : Int)) ≥ ((((gfA es m N is ni os no).length : Nat) : Int))))) rfl rfl ?_
        refine Run.done ?_
        refine Run.cond (b := decide ((((v0 : Nat) : Int)) ≥ ((((gfA es m N is ni os no).length : Nat) : Int)))) rfl (fun h160 => ?_) (fun h160 => ?_)
        ·exact absurd h160 (by simp; omega) --DONE
        ·have p160 := h160; try simp only [bs] at p160
         refine Run.skip ?_
         refine Run.sr ?_
         refine Run.p (.int .i64 (((dnM ys k : Nat) : Int))) rfl rfl ?_
         refine Run.p (.int .i64 (((v0 : Nat) : Int))) rfl rfl ?_
         refine Run.y (.int .u64 (((v0 : Nat) : Int))) rfl (OpY.convIntEq Tsome_3 Tint_52 rfl (by rw [IntKind.wrap_u64]; omega)) ?_
         refine Run.y (.int .i64 (((q : Nat) : Int))) rfl (OpY.shlOne rfl rfl rfl (by omega) hq) ?_
         refine Run.y (.int .i64 (((dnM ys k ||| q : Nat) : Int))) rfl (OpY.orNat rfl rfl rfl rfl (by omega) (by omega)) ?_
         refine Run.p (.int .i64 (((dnM ys k ||| q : Nat) : Int))) rfl rfl ?_
         refine Run.done ?_
         refine Run.seq ?_
         refine Run.draws (by kernel_rfl) (by kernel_rfl) ?_
         refine Lex.q (v := .agg #[.int .i64 (((N : Nat) : Int)), .slice A_ve1 m c_ve1, .slice A_vi1 ni c_vi1, .slice A_vo1 no c_vo1]) rfl (OpQ.y (OpY.loadN (cs := [.int .i64 (((N : Nat) : Int)), .slice A_ve1 m c_ve1, .slice A_vi1 ni c_vi1, .slice A_vo1 no c_vo1]) Tagg_26 rfl (Cells.blk (.tail _ (.tail _ (.tail _ (.tail _ (.tail _ (.tail _ (.tail _ (.tail _ (.tail _ (.tail _ (.tail _ (.tail _ (.tail _ (.tail _ (.tail _ (.tail _ (.tail _ (List.Mem.head _)))))))))))))))))) ⟨rfl, rfl, rfl, rfl, trivial⟩))) ?_
         refine Lex.q (v := .pointer (some ⟨b2, 0, none⟩)) rfl (OpQ.y (OpY.fieldAddr Tfo_38_0 rfl rfl)) ?_
         refine Lex.q (v := .slice (some ⟨gs, 0, none⟩) ((gfA es m N is ni os no).length) c_ua11) rfl (OpQ.y (OpY.load1 Tone_24 rfl (Cells.blk (.tail _ (.tail _ (.tail _ (.tail _ (.tail _ (.tail _ (.tail _ (.tail _ (.tail _ (.tail _ (.tail _ (.tail _ (.tail _ (.tail _ (List.Mem.head _))))))))))))))) ⟨rfl, trivial⟩))) ?_
         refine Lex.q (v := .int .i64 (((v0 : Nat) : Int))) rfl (OpQ.y (OpY.pure rfl)) ?_
         refine Lex.q (v := .pointer (some ⟨gs, v0, none⟩)) rfl (OpQ.y (OpY.index (kk := v0) Tsl_24 rfl rfl (by omega) (by omega) (by first | rfl | omega))) ?_
         refine Lex.q (v := .int .i64 (ix (gfA es m N is ni os no) (v0))) rfl (OpQ.y (OpY.load1 Tone_3 rfl (Cells.own0 (.tail _ (.tail _ (.tail _ (.tail _ (.tail _ (.tail _ (.tail _ (.tail _ (.tail _ (.tail _ (.tail _ (.tail _ (.tail _ (.tail _ (.tail _ (List.Mem.head _)))))))))))))))) (pre1 (by first | omega | (simp; omega)))))) ?_
         refine Lex.q (v := .tuple #[.int .i64 (((oddM es m N S0 N : Nat) : Int)), .bool true]) rfl (OpQ.call (vs := [.agg #[.int .i64 (((N : Nat) : Int)), .slice A_ve1 m c_ve1, .slice A_vi1 ni c_vi1, .slice A_vo1 no c_vo1], .int .i64 (ix (gfA es m N is ni os no) (v0))]) (caps := []) Tcall_22 rfl rfl (fun w hs => (by have h := OddNeighbors_spec (set := S0) hgl.1 hS1 (hs.slOwn (.tail _ (.tail _ (.tail _ (.tail _ (.tail _ (.tail _ (.tail _ (.tail _ (.tail _ (.tail _ (.tail _ (.tail _ (.tail _ (.tail _ (.tail _ (.tail _ (.tail _ (.tail _ (List.Mem.head _)))))))))))))))))))) (hs.slOwn (.tail _ (.tail _ (.tail _ (.tail _ (.tail _ (.tail _ (.tail _ (.tail _ (.tail _ (.tail _ (.tail _ (.tail _ (.tail _ (.tail _ (.tail _ (.tail _ (.tail _ (.tail _ (.tail _ (List.Mem.head _))))))))))))))))))))) (hs.slOwn (.tail _ (.tail _ (.tail _ (.tail _ (.tail _ (.tail _ (.tail _ (.tail _ (.tail _ (.tail _ (.tail _ (.tail _ (.tail _ (.tail _ (.tail _ (.tail _ (.tail _ (.tail _ (.tail _ (.tail _ (List.Mem.head _)))))))))))))))))))))); rw [← hS0] at h; exact h))) ?_
         refine Lex.q (v := .tuple #[.int .i64 (((oddM es m N S0 N : Nat) : Int)), .bool true]) rfl (OpQ.y (OpY.pure rfl)) ?_
         refine Lex.q (v := .int .i64 (((oddM es m N S0 N : Nat) : Int))) rfl (OpQ.y (OpY.pure rfl)) ?_
         refine Lex.q (v := .bool true) rfl (OpQ.y (OpY.pure rfl)) ?_
         refine Lex.q (v := .int .i64 (((oddM es m N S0 N : Nat) : Int))) rfl (OpQ.y (OpY.pure rfl)) ?_
         refine Lex.q (v := .bool true) rfl (OpQ.y (OpY.pure rfl)) ?_
         refine Lex.done ?_
         refine Run.sr ?_
         refine Run.p (.bool true) rfl rfl ?_
         refine Run.p (.bool false) rfl rfl ?_
         refine Run.p (.bool false) rfl rfl ?_
         refine Run.p (.int .i64 (((oddM es m N S0 N : Nat) : Int))) rfl rfl ?_
         refine Run.y (.pointer (some ⟨b2, 0, none⟩)) rfl (OpY.fieldAddr Tfo_38_0 rfl rfl) ?_
         refine Run.y (.slice (some ⟨gs, 0, none⟩) ((gfA es m N is ni os no).length) c_ua11) rfl (OpY.load1 Tone_24 rfl (Cells.blk (.tail _ (.tail _ (.tail _ (.tail _ (.tail _ (.tail _ (.tail _ (.tail _ (.tail _ (.tail _ (.tail _ (.tail _ (.tail _ (.tail _ (List.Mem.head _))))))))))))))) ⟨rfl, trivial⟩)) ?_
         refine Run.p (.int .i64 (((v0 : Nat) : Int))) rfl rfl ?_
         refine Run.y (.pointer (some ⟨gs, v0, none⟩)) rfl (OpY.index (kk := v0) Tsl_24 rfl rfl (by omega) (by omega) (by first | rfl | omega)) ?_
         refine Run.y (.int .i64 (ix (gfA es m N is ni os no) (v0))) rfl (OpY.load1 Tone_3 rfl (Cells.own0 (.tail _ (.tail _ (.tail _ (.tail _ (.tail _ (.tail _ (.tail _ (.tail _ (.tail _ (.tail _ (.tail _ (.tail _ (.tail _ (.tail _ (.tail _ (List.Mem.head _)))))))))))))))) (pre1 (by first | omega | (simp; omega))))) ?_
         refine Run.y (.int .i64 (((oddM es m N S0 N ||| S0 : Nat) : Int))) rfl (OpY.orNat rfl rfl rfl hS0 (by omega) (by omega)) ?_
         refine Run.p (.int .i64 (((dnM ys k ||| q : Nat) : Int))) rfl rfl ?_
         refine Run.y (.int .i64 ((((oddM es m N S0 N ||| S0) &&& (dnM ys k ||| q) : Nat) : Int))) rfl (OpY.andNat2 rfl rfl (by omega) (by omega)) ?_
         refine Run.p (.int .i64 (((v0 : Nat) : Int))) rfl rfl ?_
         refine Run.y (.int .u64 (((v0 : Nat) : Int))) rfl (OpY.convIntEq Tsome_3 Tint_52 rfl (by rw [IntKind.wrap_u64]; omega)) ?_
         refine Run.y (.int .i64 (((q : Nat) : Int))) rfl (OpY.shlOne rfl rfl rfl (by omega) hq) ?_
         refine Run.y (.int .i64 (((((oddM es m N S0 N ||| S0) &&& (dnM ys k ||| q)) ^^^ (((oddM es m N S0 N ||| S0) &&& (dnM ys k ||| q)) &&& q) : Nat) : Int))) rfl (OpY.andNotNat rfl rfl (by omega) (by omega) rfl) ?_
         refine Run.p (.bool ((((((oddM es m N S0 N ||| S0) &&& (dnM ys k ||| q)) ^^^ (((oddM es m N S0 N ||| S0) &&& (dnM ys k ||| q)) &&& q) : Nat) : Int)) != 0)) rfl rfl ?_
         refine Run.p (.bool ((((((oddM es m N S0 N ||| S0) &&& (dnM ys k ||| q)) ^^^ (((oddM es m N S0 N ||| S0) &&& (dnM ys k ||| q)) &&& q) : Nat) : Int)) != 0)) rfl rfl ?_
         refine Run.done ?_
         refine Run.cond (b := (((((oddM es m N S0 N ||| S0) &&& (dnM ys k ||| q)) ^^^ (((oddM es m N S0 N ||| S0) &&& (dnM ys k ||| q)) &&& q) : Nat) : Int)) != 0) rfl (fun h193 => ?_) (fun h193 => ?_)
         ·exact absurd h193 (by rw [hfree]; decide) --DONE
         ·have p193 := h193; try simp only [bs] at p193
          refine Run.skip ?_
          refine Run.blockEnd ?_
          refine Run.region ?_
          refine Run.y (.int .i64 (((k + 1 : Nat) : Int))) rfl (OpY.add rfl rfl (by omega) (by omega) (by omega)) ?_
          refine Run.p (.int .i64 (((k + 1 : Nat) : Int))) rfl rfl ?_
          refine Run.done ?_
          refine Run.goal ⟨(by repeat (first | exact Same.refl _ _ | refine Same.put rfl ?_ | refine Same.over rfl rfl ?_)), k + 1, ?_, ?_, ?_, ?_⟩
          ·exact hkk
          ·omega
          ·exact ⟨(by show Value.int _ _ = Value.int _ _; rw [hdn]), (by first | rfl | (congr 1; omega) | simp), trivial⟩
          ·exact (Some'.weak (.takeEq (by first | rfl | simp) (.take (.takeEq (by first | rfl | simp) (.takeEq (by first | rfl | simp) (.take (.take (.takeEq (by first | rfl | simp) (.takeEq (by first | rfl | simp) (.takeEq (by first | rfl | simp) (.takeEq (by first | rfl | simp) (.takeEq (by first | rfl | simp) (.take (.takeEq (by first | rfl | simp) (.takeEq (by first | rfl | simp) (.take (.takeEq (by first | rfl | simp) (.takeEq (by first | rfl | simp) (.take (.takeEq (by first | rfl | simp) (.takeEq (by first | rfl | simp) (.takeEq (by first | rfl | simp) (.nil _)))))))))))))))))))))))
      ·have p149 := h149; try simp only [bs] at p149
       refine Run.exit rfl ?_
       refine Run.sr ?_
       refine Run.p (.bool true) rfl rfl ?_
       refine Run.done ?_
       refine Run.ret ?_
       refine ⟨.bool true, [], Out.one rfl rfl, (Some'.weak (.nil _)), ?_⟩
       rfl
  ·have p91 := h91; try simp only [bs] at p91
   refine Run.skip ?_
   refine Run.seq ?_
   refine Run.sr ?_
   refine Run.p (.bool ((gfO es m N is ni os no).isSome)) rfl rfl ?_
   refine Run.p (.bool (!((gfO es m N is ni os no).isSome))) rfl rfl ?_
   refine Run.done ?_
   refine Run.cond (b := !((gfO es m N is ni os no).isSome)) rfl (fun h112 => ?_) (fun h112 => ?_)
   ·have p112 := h112; try simp only [bs] at p112
    refine Run.sr ?_
    refine Run.p (.bool true) rfl rfl ?_
    refine Run.done ?_
    refine Run.ret ?_
    refine ⟨.bool true, [], Out.one rfl rfl, (Some'.weak (.nil _)), ?_⟩
    rfl
   ·have p112 := h112; try simp only [bs] at p112
    have hyes : (gfO es m N is ni os no).isSome = true := by simpa using p112
    have hgl := gf_len hyes
    have hgf := gf_fl hyes
    have hgf2 : gfB es m N is ni os no (gfA es m N is ni os no) (gfA es m N is ni os no).length (gfL es m N is ni os no) (gfL es m N is ni os no).length = true := by rw [hgl.2.1, hgl.2.2.1]; exact hgf
    have hla := hgl.2.1
    obtain ⟨hn1, hn10, hes, hri, hro⟩ := og_ok hgl.1
    have hp10 := pow10 hn10
    refine Run.skip ?_
    refine Run.sr ?_
    refine Run.y (.agg #[.int .i64 (((N : Nat) : Int)), .slice A_ve1 m c_ve1, .slice A_vi1 ni c_vi1, .slice A_vo1 no c_vo1]) rfl (OpY.loadN (cs := [.int .i64 (((N : Nat) : Int)), .slice A_ve1 m c_ve1, .slice A_vi1 ni c_vi1, .slice A_vo1 no c_vo1]) Tagg_26 rfl (Cells.blk (.tail _ (.tail _ (.tail _ (.tail _ (.tail _ (.tail _ (.tail _ (.tail _ (.tail _ (.tail _ (.tail _ (.tail _ (.tail _ (List.Mem.head _)))))))))))))) ⟨rfl, rfl, rfl, rfl, trivial⟩)) ?_
    refine Run.y (.agg #[.slice A_ua11 ((gfA es m N is ni os no).length) c_ua11, .slice A_ub11 ((gfL es m N is ni os no).length) c_ub11]) rfl (OpY.loadN (cs := [.slice A_ua11 ((gfA es m N is ni os no).length) c_ua11, .slice A_ub11 ((gfL es m N is ni os no).length) c_ub11]) Tagg_38 rfl (Cells.blk (.tail _ (.tail _ (.tail _ (.tail _ (.tail _ (.tail _ (.tail _ (.tail _ (.tail _ (.tail _ (List.Mem.head _))))))))))) ⟨rfl, rfl, trivial⟩)) ?_
    refine Run.q (v := .tuple #[.bool true, .bool true]) rfl (OpQ.call (vs := [.agg #[.int .i64 (((N : Nat) : Int)), .slice A_ve1 m c_ve1, .slice A_vi1 ni c_vi1, .slice A_vo1 no c_vo1], .agg #[.slice A_ua11 ((gfA es m N is ni os no).length) c_ua11, .slice A_ub11 ((gfL es m N is ni os no).length) c_ub11]]) (caps := []) Tcall_13 rfl rfl (fun w hs => (by have h := IsGFlow_spec (n := N) (by omega) (hs.slOwn (.tail _ (.tail _ (.tail _ (.tail _ (.tail _ (.tail _ (.tail _ (.tail _ (.tail _ (.tail _ (.tail _ (.tail _ (.tail _ (.tail _ (List.Mem.head _)))))))))))))))) (hs.slOwn (.tail _ (.tail _ (.tail _ (.tail _ (.tail _ (.tail _ (.tail _ (.tail _ (.tail _ (.tail _ (.tail _ (.tail _ (.tail _ (.tail _ (.tail _ (List.Mem.head _))))))))))))))))) (hs.slOwn (.tail _ (.tail _ (.tail _ (.tail _ (.tail _ (.tail _ (.tail _ (.tail _ (.tail _ (.tail _ (.tail _ (.tail _ (.tail _ (.tail _ (.tail _ (.tail _ (List.Mem.head _)))))))))))))))))) (hs.slOwn (.tail _ (.tail _ (.tail _ (.tail _ (.tail _ (.tail _ (.tail _ (.tail _ (.tail _ (.tail _ (.tail _ (List.Mem.head _))))))))))))) (hs.slOwn (.tail _ (.tail _ (.tail _ (.tail _ (.tail _ (.tail _ (.tail _ (.tail _ (.tail _ (.tail _ (.tail _ (.tail _ (List.Mem.head _)))))))))))))); rw [hgl.1, hgf2] at h; exact h))) ?_
    refine Run.p (.tuple #[.bool true, .bool true]) rfl rfl ?_
    refine Run.p (.bool true) rfl rfl ?_
    refine Run.p (.bool true) rfl rfl ?_
    refine Run.p (.bool true) rfl rfl ?_
    refine Run.p (.bool true) rfl rfl ?_
    refine Run.dsr ?_
    refine Run.y (.agg #[.int .i64 (((N : Nat) : Int)), .slice A_ve1 m c_ve1, .slice A_vi1 ni c_vi1, .slice A_vo1 no c_vo1]) rfl (OpY.loadN (cs := [.int .i64 (((N : Nat) : Int)), .slice A_ve1 m c_ve1, .slice A_vi1 ni c_vi1, .slice A_vo1 no c_vo1]) Tagg_26 rfl (Cells.blk (.tail _ (.tail _ (.tail _ (.tail _ (.tail _ (.tail _ (.tail _ (.tail _ (.tail _ (.tail _ (.tail _ (.tail _ (.tail _ (List.Mem.head _)))))))))))))) ⟨rfl, rfl, rfl, rfl, trivial⟩)) ?_
    refine Run.y (.agg #[.slice A_ua11 ((gfA es m N is ni os no).length) c_ua11, .slice A_ub11 ((gfL es m N is ni os no).length) c_ub11]) rfl (OpY.loadN (cs := [.slice A_ua11 ((gfA es m N is ni os no).length) c_ua11, .slice A_ub11 ((gfL es m N is ni os no).length) c_ub11]) Tagg_38 rfl (Cells.blk (.tail _ (.tail _ (.tail _ (.tail _ (.tail _ (.tail _ (.tail _ (.tail _ (.tail _ (.tail _ (List.Mem.head _))))))))))) ⟨rfl, rfl, trivial⟩)) ?_
    refine Run.step rfl (OpStep.call (vs := [.agg #[.int .i64 (((N : Nat) : Int)), .slice A_ve1 m c_ve1, .slice A_vi1 ni c_vi1, .slice A_vo1 no c_vo1], .agg #[.slice A_ua11 ((gfA es m N is ni os no).length) c_ua11, .slice A_ub11 ((gfL es m N is ni os no).length) c_ub11]]) (caps := []) Tcall_21 rfl rfl (fun w hs => MeasureOrder_spec hgl.1 hgf (hs.slOwn (.tail _ (.tail _ (.tail _ (.tail _ (.tail _ (.tail _ (.tail _ (.tail _ (.tail _ (.tail _ (.tail _ (.tail _ (.tail _ (.tail _ (List.Mem.head _)))))))))))))))) (hs.slOwn (.tail _ (.tail _ (.tail _ (.tail _ (.tail _ (.tail _ (.tail _ (.tail _ (.tail _ (.tail _ (.tail _ (.tail _ (.tail _ (.tail _ (.tail _ (List.Mem.head _))))))))))))))))) (hs.slOwn (.tail _ (.tail _ (.tail _ (.tail _ (.tail _ (.tail _ (.tail _ (.tail _ (.tail _ (.tail _ (.tail _ (.tail _ (.tail _ (.tail _ (.tail _ (.tail _ (List.Mem.head _)))))))))))))))))) (Sl.as (hs.slOwn (.tail _ (.tail _ (.tail _ (.tail _ (.tail _ (.tail _ (.tail _ (.tail _ (.tail _ (.tail _ (.tail _ (List.Mem.head _))))))))))))) hgl.2.1) (Sl.as (hs.slOwn (.tail _ (.tail _ (.tail _ (.tail _ (.tail _ (.tail _ (.tail _ (.tail _ (.tail _ (.tail _ (.tail _ (.tail _ (List.Mem.head _)))))))))))))) hgl.2.2.1)) ?_)
    rintro _ _ ⟨uo, k0, ys, ⟨hk0, hperm, hsrt⟩, rfl, rfl⟩
    show Run _ _ (putF _ _ _ (.tuple #[uo, .bool true])) [.own uo 3 1 k0 (ints ys), .blk b5 38 [.slice A_vx21 aa2 c_vx21, .slice A_vy21 bb2 c_vy21], .blk b4 26 [.int .i64 (((N2 : Nat) : Int)), .slice A_ve21 m2 c_ve21, .slice A_vi21 ni2 c_vi21, .slice A_vo21 no2 c_vo21], .own (.slice A_ve21 m2 c_ve21) 80 2 m2 (ints es2), .own (.slice A_vi21 ni2 c_vi21) 3 1 ni2 (ints is2), .own (.slice A_vo21 no2 c_vo21) 3 1 no2 (ints os2), .own (.slice A_vx21 aa2 c_vx21) 3 1 aa2 (ints nx2), .own (.slice A_vy21 bb2 c_vy21) 3 1 bb2 (ints ly2), .blk b3 38 [.slice A_uc11 ((gfA es m N is ni os no).length) c_uc11, .slice A_ud11 ((gfL es m N is ni os no).length) c_ud11], .own (.slice A_uc11 ((gfA es m N is ni os no).length) c_uc11) 3 1 ((gfA es m N is ni os no).length) (ints (gfA es m N is ni os no)), .own (.slice A_ud11 ((gfL es m N is ni os no).length) c_ud11) 3 1 ((gfL es m N is ni os no).length) (ints (gfL es m N is ni os no)), .blk b2 38 [.slice A_ua11 ((gfA es m N is ni os no).length) c_ua11, .slice A_ub11 ((gfL es m N is ni os no).length) c_ub11], .own (.slice A_ua11 ((gfA es m N is ni os no).length) c_ua11) 3 1 ((gfA es m N is ni os no).length) (ints (gfA es m N is ni os no)), .own (.slice A_ub11 ((gfL es m N is ni os no).length) c_ub11) 3 1 ((gfL es m N is ni os no).length) (ints (gfL es m N is ni os no)), .blk b1 26 [.int .i64 (((N : Nat) : Int)), .slice A_ve1 m c_ve1, .slice A_vi1 ni c_vi1, .slice A_vo1 no c_vo1], .own (.slice A_ve1 m c_ve1) 80 2 m (ints es), .own (.slice A_vi1 ni c_vi1) 3 1 ni (ints is), .own (.slice A_vo1 no c_vo1) 3 1 no (ints os)]
    refine Run.p (.tuple #[uo, .bool true]) rfl rfl ?_
    refine Run.p (uo) rfl rfl ?_
    refine Run.p (.bool true) rfl rfl ?_
    refine Run.p (uo) rfl rfl ?_
    refine Run.p (.bool true) rfl rfl ?_
    refine Run.done ?_
    have hmem : ∀ x ∈ ys, ∃ u : Nat, u < N ∧ x = (u : Int) ∧ hasI os (u : Int) no = false := fun x hx => (notO_mem N x).1 (hperm.mem_iff.1 hx)
    have hyl : ys.length = k0 := by have h1 := hperm.length_eq; have h2 := notO_len hro; omega
    refine Run.seq ?_
    refine Run.sr ?_
    refine Run.p (.bool true) rfl rfl ?_
    refine Run.p (.bool false) rfl rfl ?_
    refine Run.p (.bool false) rfl rfl ?_
    refine Run.p (.bool true) rfl rfl ?_
    refine Run.p (.bool false) rfl rfl ?_
    refine Run.p (.bool false) rfl rfl ?_
    refine Run.p (.bool false) rfl rfl ?_
    refine Run.p (.bool true) rfl rfl ?_
    refine Run.p (.bool false) rfl rfl ?_
    refine Run.p (.bool false) rfl rfl ?_
    refine Run.p (.bool false) rfl rfl ?_
    refine Run.p (uo) rfl rfl ?_
    refine Run.formOwn (.head _) (fun A_uo2 c_uo2 hv hcapc_uo2 hmaxc_uo2 => ?_) (fun _ _ _ => ⟨nofun, nofun, nofun⟩)
    subst hv
    refine Run.y (.int .i64 (((k0 : Nat) : Int))) rfl (OpY.len Tsl_24 rfl) ?_
    refine Run.y (.pointer (some ⟨b1, 0, none⟩)) rfl (OpY.fieldAddr Tfo_26_0 rfl rfl) ?_
    refine Run.y (.int .i64 (((N : Nat) : Int))) rfl (OpY.load1 Tone_3 rfl (Cells.blk (.tail _ (.tail _ (.tail _ (.tail _ (.tail _ (.tail _ (.tail _ (.tail _ (.tail _ (.tail _ (.tail _ (.tail _ (.tail _ (.tail _ (List.Mem.head _))))))))))))))) ⟨rfl, trivial⟩)) ?_
    refine Run.y (.pointer (some ⟨b1, 3, none⟩)) rfl (OpY.fieldAddr Tfo_26_3 rfl rfl) ?_
    refine Run.y (.slice A_vo1 no c_vo1) rfl (OpY.load1 Tone_24 rfl (Cells.blk (.tail _ (.tail _ (.tail _ (.tail _ (.tail _ (.tail _ (.tail _ (.tail _ (.tail _ (.tail _ (.tail _ (.tail _ (.tail _ (.tail _ (List.Mem.head _))))))))))))))) ⟨rfl, trivial⟩)) ?_
    refine Run.y (.int .i64 (((no : Nat) : Int))) rfl (OpY.len Tsl_24 rfl) ?_
    refine Run.y (.int .i64 (((k0 : Nat) : Int))) rfl (OpY.sub rfl rfl (by omega) (by omega) (by omega)) ?_
    refine Run.y (.bool false) rfl (OpY.neqSame rfl rfl rfl) ?_
    refine Run.p (.bool false) rfl rfl ?_
    refine Run.done ?_
    refine Run.cond (b := false) rfl (fun h => nomatch h) (fun _ => ?_)
    refine Run.skip ?_
    refine Run.sr ?_
    refine Run.p (.int .i64 0) rfl rfl ?_
    refine Run.done ?_
    refine Run.openOwn (.tail _ (.tail _ (.tail _ (.tail _ (.tail _ (.tail _ (.tail _ (.tail _ (.tail _ (.tail _ (.tail _ (.tail _ (List.Mem.head _))))))))))))) (by omega) (fun gs cgs hvgs hcapgs _ => ?_) (fun _ _ _ => ⟨nofun, nofun, nofun⟩)
    injection hvgs with hAgs _ hcgs; subst hAgs; subst hcgs
    refine Run.seq ?_
    refine Run.sr ?_
    refine Run.p (.slice A_uo2 k0 c_uo2) rfl rfl ?_
    refine Run.y (.int .i64 (((k0 : Nat) : Int))) rfl (OpY.len Tsl_24 rfl) ?_
    refine Run.p (.int .i64 0) rfl rfl ?_
    refine Run.done ?_
    refine Run.block ?_
    refine Run.loop (ι := Nat) ([4, 22, 24, 25, 26, 148, 149, 150, 151, 152, 153, 154, 155, 156, 157, 158, 159, 160, 161, 162, 163, 164, 165, 166, 167, 168, 169, 170, 171, 172, 173, 174, 175, 176, 177, 178, 179, 180, 181, 182, 183, 184, 185, 186, 187, 188, 189, 190, 191, 192] ++ [193, 194]) (fun k => [(22, .int .i64 (((dnM ys k : Nat) : Int))), (148, .int .i64 (((k : Nat) : Int)))]) (fun k => [.own (.slice A_uo2 k0 c_uo2) 3 1 k0 (ints ys), .blk b5 38 [.slice A_vx21 aa2 c_vx21, .slice A_vy21 bb2 c_vy21], .blk b4 26 [.int .i64 (((N2 : Nat) : Int)), .slice A_ve21 m2 c_ve21, .slice A_vi21 ni2 c_vi21, .slice A_vo21 no2 c_vo21], .own (.slice A_ve21 m2 c_ve21) 80 2 m2 (ints es2), .own (.slice A_vi21 ni2 c_vi21) 3 1 ni2 (ints is2), .own (.slice A_vo21 no2 c_vo21) 3 1 no2 (ints os2), .own (.slice A_vx21 aa2 c_vx21) 3 1 aa2 (ints nx2), .own (.slice A_vy21 bb2 c_vy21) 3 1 bb2 (ints ly2), .blk b3 38 [.slice A_uc11 ((gfA es m N is ni os no).length) c_uc11, .slice A_ud11 ((gfL es m N is ni os no).length) c_ud11], .own (.slice A_uc11 ((gfA es m N is ni os no).length) c_uc11) 3 1 ((gfA es m N is ni os no).length) (ints (gfA es m N is ni os no)), .own (.slice A_ud11 ((gfL es m N is ni os no).length) c_ud11) 3 1 ((gfL es m N is ni os no).length) (ints (gfL es m N is ni os no)), .blk b2 38 [.slice (some ⟨gs, 0, none⟩) ((gfA es m N is ni os no).length) c_ua11, .slice A_ub11 ((gfL es m N is ni os no).length) c_ub11], .own (.slice (some ⟨gs, 0, none⟩) ((gfA es m N is ni os no).length) c_ua11) 3 1 ((gfA es m N is ni os no).length) (ints (gfA es m N is ni os no)), .own (.slice A_ub11 ((gfL es m N is ni os no).length) c_ub11) 3 1 ((gfL es m N is ni os no).length) (ints (gfL es m N is ni os no)), .blk b1 26 [.int .i64 (((N : Nat) : Int)), .slice A_ve1 m c_ve1, .slice A_vi1 ni c_vi1, .slice A_vo1 no c_vo1], .own (.slice A_ve1 m c_ve1) 80 2 m (ints es), .own (.slice A_vi1 ni c_vi1) 3 1 ni (ints is), .own (.slice A_vo1 no c_vo1) 3 1 no (ints os)]) (fun k => k ≤ k0) (fun k => k0 - k) 0 ?_ ?_ ?_ ?_
    ·exact Nat.zero_le _
    ·exact ⟨rfl, rfl, trivial⟩
    ·exact (Some'.weak (.take (.take (.take (.take (.take (.take (.take (.take (.take (.take (.take (.take (.take (.take (.take (.take (.take (.take (.nil _))))))))))))))))))))
    ·rintro k fr hinv
     show Run _ _ (over _ _ [(22, .int .i64 (((dnM ys k : Nat) : Int))), (148, .int .i64 (((k : Nat) : Int)))] fr) [.own (.slice A_uo2 k0 c_uo2) 3 1 k0 (ints ys), .blk b5 38 [.slice A_vx21 aa2 c_vx21, .slice A_vy21 bb2 c_vy21], .blk b4 26 [.int .i64 (((N2 : Nat) : Int)), .slice A_ve21 m2 c_ve21, .slice A_vi21 ni2 c_vi21, .slice A_vo21 no2 c_vo21], .own (.slice A_ve21 m2 c_ve21) 80 2 m2 (ints es2), .own (.slice A_vi21 ni2 c_vi21) 3 1 ni2 (ints is2), .own (.slice A_vo21 no2 c_vo21) 3 1 no2 (ints os2), .own (.slice A_vx21 aa2 c_vx21) 3 1 aa2 (ints nx2), .own (.slice A_vy21 bb2 c_vy21) 3 1 bb2 (ints ly2), .blk b3 38 [.slice A_uc11 ((gfA es m N is ni os no).length) c_uc11, .slice A_ud11 ((gfL es m N is ni os no).length) c_ud11], .own (.slice A_uc11 ((gfA es m N is ni os no).length) c_uc11) 3 1 ((gfA es m N is ni os no).length) (ints (gfA es m N is ni os no)), .own (.slice A_ud11 ((gfL es m N is ni os no).length) c_ud11) 3 1 ((gfL es m N is ni os no).length) (ints (gfL es m N is ni os no)), .blk b2 38 [.slice (some ⟨gs, 0, none⟩) ((gfA es m N is ni os no).length) c_ua11, .slice A_ub11 ((gfL es m N is ni os no).length) c_ub11], .own (.slice (some ⟨gs, 0, none⟩) ((gfA es m N is ni os no).length) c_ua11) 3 1 ((gfA es m N is ni os no).length) (ints (gfA es m N is ni os no)), .own (.slice A_ub11 ((gfL es m N is ni os no).length) c_ub11) 3 1 ((gfL es m N is ni os no).length) (ints (gfL es m N is ni os no)), .blk b1 26 [.int .i64 (((N : Nat) : Int)), .slice A_ve1 m c_ve1, .slice A_vi1 ni c_vi1, .slice A_vo1 no c_vo1], .own (.slice A_ve1 m c_ve1) 80 2 m (ints es), .own (.slice A_vi1 ni c_vi1) 3 1 ni (ints is), .own (.slice A_vo1 no c_vo1) 3 1 no (ints os)]
     try dsimp only at hinv
     refine Run.sr ?_
     refine Run.p (.bool (decide ((((k : Nat) : Int)) < (((k0 : Nat) : Int))))) rfl rfl ?_
     refine Run.done ?_
     refine Run.seq ?_
     refine Run.cond (b := decide ((((k : Nat) : Int)) < (((k0 : Nat) : Int)))) rfl (fun h149 => ?_) (fun h149 => ?_)
     ·have p149 := h149; try simp only [bs] at p149
      have hkk : k < k0 := by omega
      refine Run.openOwn (.head _) (by omega) (fun go cgo hvgo hcapgo _ => ?_) (fun _ _ _ => ⟨nofun, nofun, nofun⟩)
      injection hvgo with hAgo _ hcgo; subst hAgo; subst hcgo
      obtain ⟨v0, hv0, hv1, hv2⟩ := hmem _ (ix_mem (xs := ys) (i := k) (by omega))
      obtain ⟨q, hq, hq11, hq12⟩ := pow_q (k := v0) hn10 hv0
      have hdn : dnM ys (k + 1) = dnM ys k ||| q := by rw [dnM, hv1, Int.toNat_natCast, hq]
      obtain ⟨hS00, hS01, _⟩ := gf_set hgf hv0 hv2
      obtain ⟨S0, hS0⟩ : ∃ S : Nat, ix (gfA es m N is ni os no) v0 = (S : Int) := ⟨(ix (gfA es m N is ni os no) v0).toNat, by omega⟩
      have hSt : (ix (gfA es m N is ni os no) v0).toNat = S0 := by rw [hS0, Int.toNat_natCast]
      have hfree := mo_free hgf hyl hsrt hmem (show k < k0 by omega) hv1
      rw [hSt, hdn, ← hq] at hfree
      rw [hSt] at hS01
      have hS1 := hS01
      have hS2 : S0 < 2 ^ N := hS01
      have ho2 := oddM_lt es m N S0 N
      have hX1 : oddM es m N S0 N ||| S0 < 2 ^ N := Nat.or_lt_two_pow ho2 hS2
      have hd1 : dnM ys k < 2 ^ N := dn_lt k fun j hj => by
       obtain ⟨u, h1, h2, _⟩ := hmem _ (ix_mem (xs := ys) (i := j) (by omega))
       omega
      have hd2 : dnM ys k ||| q < 2 ^ N := by
       rw [← hdn]
       exact dn_lt (k + 1) fun j hj => by
        obtain ⟨u, h1, h2, _⟩ := hmem _ (ix_mem (xs := ys) (i := j) (by omega))
        omega
      have hX2 : (oddM es m N S0 N ||| S0) &&& (dnM ys k ||| q) < 2 ^ N := Nat.lt_of_le_of_lt Nat.and_le_left hX1
      refine Run.skip ?_
      refine Run.seq ?_
      refine Run.block ?_
      refine Run.sr ?_
      refine Run.y (.pointer (some ⟨go, k, none⟩)) rfl (OpY.index (kk := k) Tsl_24 rfl rfl (by omega) (by omega) (by first | rfl | omega)) ?_
      refine Run.y (.int .i64 (ix ys (k))) rfl (OpY.load1 Tone_3 rfl (Cells.own0 (.head _) (pre1 (by first | omega | (simp; omega))))) ?_
      refine Run.p (.int .i64 (ix ys (k))) rfl rfl ?_
      refine Run.done ?_
      rw [hv1]
      refine Run.seq ?_
      refine Run.sr ?_
      refine Run.p (.int .i64 (((v0 : Nat) : Int))) rfl rfl ?_
      refine Run.p (.bool (decide ((((v0 : Nat) : Int)) < 0))) rfl rfl ?_
      rcases Bool.eq_false_or_eq_true (decide ((((v0 : Nat) : Int)) < 0)) with h154 | h154
      ·refine Run.q (v := .bool true) rfl (OpQ.y (OpY.moveB rfl h154)) ?_
       have p154 := h154; try simp only [bs] at p154
       exact absurd h154 (by simp <;> omega) --DONE
      ·refine Run.q (v := .bool false) rfl (OpQ.y (OpY.moveB rfl h154)) ?_
       have p154 := h154; try simp only [bs] at p154
       refine Run.p (.int .i64 (((v0 : Nat) : Int))) rfl rfl ?_
       refine Run.y (.pointer (some ⟨b2, 0, none⟩)) rfl (OpY.fieldAddr Tfo_38_0 rfl rfl) ?_
       refine Run.y (.slice (some ⟨gs, 0, none⟩) ((gfA es m N is ni os no).length) c_ua11) rfl (OpY.load1 Tone_24 rfl (Cells.blk (.tail _ (.tail _ (.tail _ (.tail _ (.tail _ (.tail _ (.tail _ (.tail _ (.tail _ (.tail _ (.tail _ (List.Mem.head _)))))))))))) ⟨rfl, trivial⟩)) ?_
       refine Run.y (.int .i64 ((((gfA es m N is ni os no).length : Nat) : Int))) rfl (OpY.len Tsl_24 rfl) ?_
       refine Run.p (.bool (decide ((((v0 : Nat) : Int)) ≥ ((((gfA es m N is ni os no).length : Nat) : Int))))) rfl rfl ?_
       refine Run.p (.bool (decide ((((v0 : Nat) : Int)) ≥ ((((gfA es m N is ni os no).length : Nat) : Int))))) rfl rfl ?_
       refine Run.done ?_
       refine Run.cond (b := decide ((((v0 : Nat) : Int)) ≥ ((((gfA es m N is ni os no).length : Nat) : Int)))) rfl (fun h160 => ?_) (fun h160 => ?_)
       ·exact absurd h160 (by simp; omega) --DONE
       ·have p160 := h160; try simp only [bs] at p160
        refine Run.skip ?_
        refine Run.sr ?_
        refine Run.p (.int .i64 (((dnM ys k : Nat) : Int))) rfl rfl ?_
        refine Run.p (.int .i64 (((v0 : Nat) : Int))) rfl rfl ?_
        refine Run.y (.int .u64 (((v0 : Nat) : Int))) rfl (OpY.convIntEq Tsome_3 Tint_52 rfl (by rw [IntKind.wrap_u64]; omega)) ?_
        refine Run.y (.int .i64 (((q : Nat) : Int))) rfl (OpY.shlOne rfl rfl rfl (by omega) hq) ?_
        refine Run.y (.int .i64 (((dnM ys k ||| q : Nat) : Int))) rfl (OpY.orNat rfl rfl rfl rfl (by omega) (by omega)) ?_
        refine Run.p (.int .i64 (((dnM ys k ||| q : Nat) : Int))) rfl rfl ?_
        refine Run.done ?_
        refine Run.seq ?_
        refine Run.draws (by kernel_rfl) (by kernel_rfl) ?_
        refine Lex.q (v := .agg #[.int .i64 (((N : Nat) : Int)), .slice A_ve1 m c_ve1, .slice A_vi1 ni c_vi1, .slice A_vo1 no c_vo1]) rfl (OpQ.y (OpY.loadN (cs := [.int .i64 (((N : Nat) : Int)), .slice A_ve1 m c_ve1, .slice A_vi1 ni c_vi1, .slice A_vo1 no c_vo1]) Tagg_26 rfl (Cells.blk (.tail _ (.tail _ (.tail _ (.tail _ (.tail _ (.tail _ (.tail _ (.tail _ (.tail _ (.tail _ (.tail _ (.tail _ (.tail _ (.tail _ (List.Mem.head _))))))))))))))) ⟨rfl, rfl, rfl, rfl, trivial⟩))) ?_
        refine Lex.q (v := .pointer (some ⟨b2, 0, none⟩)) rfl (OpQ.y (OpY.fieldAddr Tfo_38_0 rfl rfl)) ?_
        refine Lex.q (v := .slice (some ⟨gs, 0, none⟩) ((gfA es m N is ni os no).length) c_ua11) rfl (OpQ.y (OpY.load1 Tone_24 rfl (Cells.blk (.tail _ (.tail _ (.tail _ (.tail _ (.tail _ (.tail _ (.tail _ (.tail _ (.tail _ (.tail _ (.tail _ (List.Mem.head _)))))))))))) ⟨rfl, trivial⟩))) ?_
        refine Lex.q (v := .int .i64 (((v0 : Nat) : Int))) rfl (OpQ.y (OpY.pure rfl)) ?_
        refine Lex.q (v := .pointer (some ⟨gs, v0, none⟩)) rfl (OpQ.y (OpY.index (kk := v0) Tsl_24 rfl rfl (by omega) (by omega) (by first | rfl | omega))) ?_
        refine Lex.q (v := .int .i64 (ix (gfA es m N is ni os no) (v0))) rfl (OpQ.y (OpY.load1 Tone_3 rfl (Cells.own0 (.tail _ (.tail _ (.tail _ (.tail _ (.tail _ (.tail _ (.tail _ (.tail _ (.tail _ (.tail _ (.tail _ (.tail _ (List.Mem.head _))))))))))))) (pre1 (by first | omega | (simp; omega)))))) ?_
        refine Lex.q (v := .tuple #[.int .i64 (((oddM es m N S0 N : Nat) : Int)), .bool true]) rfl (OpQ.call (vs := [.agg #[.int .i64 (((N : Nat) : Int)), .slice A_ve1 m c_ve1, .slice A_vi1 ni c_vi1, .slice A_vo1 no c_vo1], .int .i64 (ix (gfA es m N is ni os no) (v0))]) (caps := []) Tcall_22 rfl rfl (fun w hs => (by have h := OddNeighbors_spec (set := S0) hgl.1 hS1 (hs.slOwn (.tail _ (.tail _ (.tail _ (.tail _ (.tail _ (.tail _ (.tail _ (.tail _ (.tail _ (.tail _ (.tail _ (.tail _ (.tail _ (.tail _ (.tail _ (List.Mem.head _))))))))))))))))) (hs.slOwn (.tail _ (.tail _ (.tail _ (.tail _ (.tail _ (.tail _ (.tail _ (.tail _ (.tail _ (.tail _ (.tail _ (.tail _ (.tail _ (.tail _ (.tail _ (.tail _ (List.Mem.head _)))))))))))))))))) (hs.slOwn (.tail _ (.tail _ (.tail _ (.tail _ (.tail _ (.tail _ (.tail _ (.tail _ (.tail _ (.tail _ (.tail _ (.tail _ (.tail _ (.tail _ (.tail _ (.tail _ (.tail _ (List.Mem.head _))))))))))))))))))); rw [← hS0] at h; exact h))) ?_
        refine Lex.q (v := .tuple #[.int .i64 (((oddM es m N S0 N : Nat) : Int)), .bool true]) rfl (OpQ.y (OpY.pure rfl)) ?_
        refine Lex.q (v := .int .i64 (((oddM es m N S0 N : Nat) : Int))) rfl (OpQ.y (OpY.pure rfl)) ?_
        refine Lex.q (v := .bool true) rfl (OpQ.y (OpY.pure rfl)) ?_
        refine Lex.q (v := .int .i64 (((oddM es m N S0 N : Nat) : Int))) rfl (OpQ.y (OpY.pure rfl)) ?_
        refine Lex.q (v := .bool true) rfl (OpQ.y (OpY.pure rfl)) ?_
        refine Lex.done ?_
        refine Run.sr ?_
        refine Run.p (.bool true) rfl rfl ?_
        refine Run.p (.bool false) rfl rfl ?_
        refine Run.p (.bool false) rfl rfl ?_
        refine Run.p (.int .i64 (((oddM es m N S0 N : Nat) : Int))) rfl rfl ?_
        refine Run.y (.pointer (some ⟨b2, 0, none⟩)) rfl (OpY.fieldAddr Tfo_38_0 rfl rfl) ?_
        refine Run.y (.slice (some ⟨gs, 0, none⟩) ((gfA es m N is ni os no).length) c_ua11) rfl (OpY.load1 Tone_24 rfl (Cells.blk (.tail _ (.tail _ (.tail _ (.tail _ (.tail _ (.tail _ (.tail _ (.tail _ (.tail _ (.tail _ (.tail _ (List.Mem.head _)))))))))))) ⟨rfl, trivial⟩)) ?_
        refine Run.p (.int .i64 (((v0 : Nat) : Int))) rfl rfl ?_
        refine Run.y (.pointer (some ⟨gs, v0, none⟩)) rfl (OpY.index (kk := v0) Tsl_24 rfl rfl (by omega) (by omega) (by first | rfl | omega)) ?_
        refine Run.y (.int .i64 (ix (gfA es m N is ni os no) (v0))) rfl (OpY.load1 Tone_3 rfl (Cells.own0 (.tail _ (.tail _ (.tail _ (.tail _ (.tail _ (.tail _ (.tail _ (.tail _ (.tail _ (.tail _ (.tail _ (.tail _ (List.Mem.head _))))))))))))) (pre1 (by first | omega | (simp; omega))))) ?_
        refine Run.y (.int .i64 (((oddM es m N S0 N ||| S0 : Nat) : Int))) rfl (OpY.orNat rfl rfl rfl hS0 (by omega) (by omega)) ?_
        refine Run.p (.int .i64 (((dnM ys k ||| q : Nat) : Int))) rfl rfl ?_
        refine Run.y (.int .i64 ((((oddM es m N S0 N ||| S0) &&& (dnM ys k ||| q) : Nat) : Int))) rfl (OpY.andNat2 rfl rfl (by omega) (by omega)) ?_
        refine Run.p (.int .i64 (((v0 : Nat) : Int))) rfl rfl ?_
        refine Run.y (.int .u64 (((v0 : Nat) : Int))) rfl (OpY.convIntEq Tsome_3 Tint_52 rfl (by rw [IntKind.wrap_u64]; omega)) ?_
        refine Run.y (.int .i64 (((q : Nat) : Int))) rfl (OpY.shlOne rfl rfl rfl (by omega) hq) ?_
        refine Run.y (.int .i64 (((((oddM es m N S0 N ||| S0) &&& (dnM ys k ||| q)) ^^^ (((oddM es m N S0 N ||| S0) &&& (dnM ys k ||| q)) &&& q) : Nat) : Int))) rfl (OpY.andNotNat rfl rfl (by omega) (by omega) rfl) ?_
        refine Run.p (.bool ((((((oddM es m N S0 N ||| S0) &&& (dnM ys k ||| q)) ^^^ (((oddM es m N S0 N ||| S0) &&& (dnM ys k ||| q)) &&& q) : Nat) : Int)) != 0)) rfl rfl ?_
        refine Run.p (.bool ((((((oddM es m N S0 N ||| S0) &&& (dnM ys k ||| q)) ^^^ (((oddM es m N S0 N ||| S0) &&& (dnM ys k ||| q)) &&& q) : Nat) : Int)) != 0)) rfl rfl ?_
        refine Run.done ?_
        refine Run.cond (b := (((((oddM es m N S0 N ||| S0) &&& (dnM ys k ||| q)) ^^^ (((oddM es m N S0 N ||| S0) &&& (dnM ys k ||| q)) &&& q) : Nat) : Int)) != 0) rfl (fun h193 => ?_) (fun h193 => ?_)
        ·exact absurd h193 (by rw [hfree]; decide) --DONE
        ·have p193 := h193; try simp only [bs] at p193
         refine Run.skip ?_
         refine Run.blockEnd ?_
         refine Run.region ?_
         refine Run.y (.int .i64 (((k + 1 : Nat) : Int))) rfl (OpY.add rfl rfl (by omega) (by omega) (by omega)) ?_
         refine Run.p (.int .i64 (((k + 1 : Nat) : Int))) rfl rfl ?_
         refine Run.done ?_
         refine Run.goal ⟨(by repeat (first | exact Same.refl _ _ | refine Same.put rfl ?_ | refine Same.over rfl rfl ?_)), k + 1, ?_, ?_, ?_, ?_⟩
         ·exact hkk
         ·omega
         ·exact ⟨(by show Value.int _ _ = Value.int _ _; rw [hdn]), (by first | rfl | (congr 1; omega) | simp), trivial⟩
         ·exact (Some'.weak (.takeEq (by first | rfl | simp) (.take (.take (.takeEq (by first | rfl | simp) (.takeEq (by first | rfl | simp) (.takeEq (by first | rfl | simp) (.takeEq (by first | rfl | simp) (.takeEq (by first | rfl | simp) (.take (.takeEq (by first | rfl | simp) (.takeEq (by first | rfl | simp) (.take (.takeEq (by first | rfl | simp) (.takeEq (by first | rfl | simp) (.take (.takeEq (by first | rfl | simp) (.takeEq (by first | rfl | simp) (.takeEq (by first | rfl | simp) (.nil _))))))))))))))))))))
     ·have p149 := h149; try simp only [bs] at p149
      refine Run.exit rfl ?_
      refine Run.sr ?_
      refine Run.p (.bool true) rfl rfl ?_
      refine Run.done ?_
      refine Run.ret ?_
      refine ⟨.bool true, [], Out.one rfl rfl, (Some'.weak (.nil _)), ?_⟩
      rfl

end Go.Proofs.Ytoiaibgcjfgbcaa
