/- The walk of the law FnCausalFlows. -/
import Derived.Test.YtoiaibgcjfgbcaaFwm
import Derived.Test.YtoiaibgcjfgbcaaFwl
import Derived.Test.YtoiaibgcjfgbcaaFwd
import Derived.Test.YtoiaibgcjfgbcaaFwg
import Derived.Test.YtoiaibgcjfgbcaaGsr
import Derived.Test.YtoiaibgcjfgbcaaProg
set_option linter.unusedSimpArgs false
set_option linter.unusedVariables false
namespace Go.Proofs.Ytoiaibgcjfgbcaa
open Go Go.RowKit
namespace L48T
theorem Tagg_26 : aggOf Try.prog 26 = some 4 := by kernel_rfl
theorem Tagg_29 : aggOf Try.prog 29 = some 2 := by kernel_rfl
theorem Tagg_38 : aggOf Try.prog 38 = some 2 := by kernel_rfl
theorem Tbool_4 : Try.prog.underlying 4 = some .bool := by kernel_rfl
theorem Tcall_10 : callable Try.prog 10 = true := by kernel_rfl
theorem Tcall_11 : callable Try.prog 11 = true := by kernel_rfl
theorem Tcall_12 : callable Try.prog 12 = true := by kernel_rfl
theorem Tcall_13 : callable Try.prog 13 = true := by kernel_rfl
theorem Tcall_14 : callable Try.prog 14 = true := by kernel_rfl
theorem Tcall_15 : callable Try.prog 15 = true := by kernel_rfl
theorem Tcall_5 : callable Try.prog 5 = true := by kernel_rfl
theorem Tcall_6 : callable Try.prog 6 = true := by kernel_rfl
theorem Tcall_7 : callable Try.prog 7 = true := by kernel_rfl
theorem Tcall_8 : callable Try.prog 8 = true := by kernel_rfl
theorem Tcall_9 : callable Try.prog 9 = true := by kernel_rfl
theorem Tfo_26_0 : fieldOff Try.prog 26 0 = some 0 := by kernel_rfl
theorem Tfo_26_3 : fieldOff Try.prog 26 3 = some 3 := by kernel_rfl
theorem Tfo_29_0 : fieldOff Try.prog 29 0 = some 0 := by kernel_rfl
theorem Tfo_29_1 : fieldOff Try.prog 29 1 = some 1 := by kernel_rfl
theorem Tone_24 : oneOf Try.prog 24 = true := by kernel_rfl
theorem Tone_3 : oneOf Try.prog 3 = true := by kernel_rfl
theorem Tsize_26 : (Try.prog.info? 26).map (·.size) = some 4 := by kernel_rfl
theorem Tsize_29 : (Try.prog.info? 29).map (·.size) = some 2 := by kernel_rfl
theorem Tsize_3 : (Try.prog.info? 3).map (·.size) = some 1 := by kernel_rfl
theorem Tsize_38 : (Try.prog.info? 38).map (·.size) = some 2 := by kernel_rfl
theorem Tsl_22 : sliceOf Try.prog 22 = some (5, 1, 1, [.int .u8 0]) := by kernel_rfl
theorem Tsl_24 : sliceOf Try.prog 24 = some (3, 1, 8, [.int .i64 0]) := by kernel_rfl
theorem Tsl_43 : sliceOf Try.prog 43 = some (24, 1, 24, [.slice none 0 0]) := by kernel_rfl
theorem Tzero_26 : zeroOf Try.prog 26 = some [.int .i64 0, .slice none 0 0, .slice none 0 0, .slice none 0 0] := by kernel_rfl
theorem Tzero_29 : zeroOf Try.prog 29 = some [.slice none 0 0, .slice none 0 0] := by kernel_rfl
theorem Tzero_38 : zeroOf Try.prog 38 = some [.slice none 0 0, .slice none 0 0] := by kernel_rfl
end L48T
open L48T

theorem Sl.as {w : World} {v : Value} {s n k : Nat} {xs : List Value} (h : Sl w v s n xs) (e : n = k) : Sl w v s k xs := by subst e; exact h
theorem q_ne {xs ys : List Int} {k : Nat} (h : ix xs k ≠ ix ys k) : decide (xs = ys) = false := by
  rw [decide_eq_false_iff_not]; intro e; exact h (by rw [e])
theorem q_len {xs ys : List Int} (h : xs.length ≠ ys.length) : decide (xs = ys) = false := by
  rw [decide_eq_false_iff_not]; intro e; exact h (by rw [e])
theorem q_eq {xs ys : List Int} (hl : xs.length = ys.length) (h : ∀ i, i < xs.length → decide (ix xs i = ix ys i) = true) : decide (xs = ys) = true := by
  rw [decide_eq_true_iff]
  refine List.ext_getElem hl fun i h1 h2 => ?_
  have := of_decide_eq_true (h i h1)
  simpa [ix, List.getD, h1, h2] using this

set_option maxHeartbeats 1000000 in
set_option maxRecDepth 20000 in
theorem qInts_spec {va vb : Value} {n m : Nat} {xs ys : List Int} {w : World} (ha : Sl w va 1 n (ints xs)) (hb : Sl w vb 1 m (ints ys)) : Calls Try.prog 11 #[va, vb] w (Post No w fun v _ => v = .bool (decide (xs = ys))) := by
 have hxl := ha.len
 have hyl := hb.len
 have hn := ha.le
 have hm := hb.le
 obtain ⟨A, c, rfl, _, _⟩ := ha.form0
 obtain ⟨B, d, rfl, _, _⟩ := hb.form0
 refine enter (n := 26) (args := [.slice A n c, .slice B m d]) Try.func11 rfl rfl (St.empty _ _) ?_
 refine Run.sr ?_
 refine Run.p (.bool false) rfl rfl ?_
 refine Run.done ?_
 refine Run.seq ?_
 refine Run.sr ?_
 refine Run.p (.slice A n c) rfl rfl ?_
 refine Run.y (.int .i64 (((n : Nat) : Int))) rfl (OpY.len Tsl_24 rfl) ?_
 refine Run.p (.slice B m d) rfl rfl ?_
 refine Run.y (.int .i64 (((m : Nat) : Int))) rfl (OpY.len Tsl_24 rfl) ?_
 refine Run.p (.bool ((((n : Nat) : Int)) != (((m : Nat) : Int)))) rfl rfl ?_
 refine Run.done ?_
 refine Run.cond (b := (((n : Nat) : Int)) != (((m : Nat) : Int))) rfl (fun h10 => ?_) (fun h10 => ?_)
 ·have p10 := h10; try simp only [bs] at p10
  have hres : decide (xs = ys) = false := q_len (by omega)
  refine Run.sr ?_
  refine Run.p (.bool false) rfl rfl ?_
  refine Run.done ?_
  refine Run.ret ?_
  refine ⟨.bool false, [], Out.one rfl rfl, (Some'.weak (.nil _)), ?_⟩
  show _ = _; rw [hres]
 ·have p10 := h10; try simp only [bs] at p10
  refine Run.skip ?_
  refine Run.seq ?_
  refine Run.sr ?_
  refine Run.p (.slice A n c) rfl rfl ?_
  refine Run.y (.int .i64 (((n : Nat) : Int))) rfl (OpY.len Tsl_24 rfl) ?_
  refine Run.p (.int .i64 0) rfl rfl ?_
  refine Run.done ?_
  refine Run.block ?_
  refine Run.loop (ι := Nat) [4, 5, 13, 14, 15, 16, 17, 18, 19, 20, 21, 22, 23, 24, 25] (fun k => [(13, .int .i64 (((k : Nat) : Int)))]) (fun k => []) (fun k => k ≤ n ∧ (∀ i, i < k → decide (ix xs i = ix ys i) = true)) (fun k => n - k) 0 ?_ ?_ ?_ ?_
  ·exact ⟨Nat.zero_le _, by first | trivial | (intro i hi; omega)⟩
  ·exact ⟨rfl, trivial⟩
  ·exact (Some'.weak (.nil _))
  ·rintro k fr hinv
   show Run _ _ (over _ _ [(13, .int .i64 (((k : Nat) : Int)))] fr) []
   try dsimp only at hinv
   refine Run.sr ?_
   refine Run.p (.bool (decide ((((k : Nat) : Int)) < (((n : Nat) : Int))))) rfl rfl ?_
   refine Run.done ?_
   refine Run.seq ?_
   refine Run.cond (b := decide ((((k : Nat) : Int)) < (((n : Nat) : Int)))) rfl (fun h14 => ?_) (fun h14 => ?_)
   ·have p14 := h14; try simp only [bs] at p14
    have hltk : k < n := by omega
    obtain ⟨b, o, rfl⟩ := ha.opn (by omega)
    have hltm : k < m := by omega
    obtain ⟨b2, o2, rfl⟩ := hb.opn (by omega)
    refine Run.skip ?_
    refine Run.seq ?_
    refine Run.block ?_
    refine Run.sr ?_
    refine Run.p (.int .i64 (((k : Nat) : Int))) rfl rfl ?_
    refine Run.p (.int .i64 (((k : Nat) : Int))) rfl rfl ?_
    refine Run.done ?_
    refine Run.seq ?_
    refine Run.draws (by kernel_rfl) (by kernel_rfl) ?_
    refine Lex.q (v := .slice (some ⟨b, o, none⟩) n c) rfl (OpQ.y (OpY.pure rfl)) ?_
    refine Lex.q (v := .int .i64 (((k : Nat) : Int))) rfl (OpQ.y (OpY.pure rfl)) ?_
    refine Lex.q (v := .pointer (some ⟨b, o + k, none⟩)) rfl (OpQ.y (OpY.index (kk := k) Tsl_24 rfl rfl (by omega) (by omega) (by first | rfl | omega))) ?_
    refine Lex.q (v := .int .i64 (ix xs (k))) rfl (OpQ.y (OpY.load1 Tone_3 rfl (Cells.arg (k := k) ha rfl (by omega) (pre1 (by omega))))) ?_
    refine Lex.q (v := .slice (some ⟨b2, o2, none⟩) m d) rfl (OpQ.y (OpY.pure rfl)) ?_
    refine Lex.q (v := .int .i64 (((k : Nat) : Int))) rfl (OpQ.y (OpY.pure rfl)) ?_
    refine Lex.q (v := .pointer (some ⟨b2, o2 + k, none⟩)) rfl (OpQ.y (OpY.index (kk := k) Tsl_24 rfl rfl (by omega) (by omega) (by first | rfl | omega))) ?_
    refine Lex.q (v := .int .i64 (ix ys (k))) rfl (OpQ.y (OpY.load1 Tone_3 rfl (Cells.arg (k := k) hb rfl (by omega) (pre1 (by omega))))) ?_
    refine Lex.q (v := .bool ((ix xs (k)) != (ix ys (k)))) rfl (OpQ.y (OpY.pure rfl)) ?_
    refine Lex.done ?_
    refine Run.cond (b := (ix xs (k)) != (ix ys (k))) rfl (fun h24 => ?_) (fun h24 => ?_)
    ·have p24 := h24; try simp only [bs] at p24
     have hres : decide (xs = ys) = false := q_ne (k := k) (by omega)
     refine Run.sr ?_
     refine Run.p (.bool false) rfl rfl ?_
     refine Run.done ?_
     refine Run.ret ?_
     refine ⟨.bool false, [], Out.one rfl rfl, (Some'.weak (.nil _)), ?_⟩
     show _ = _; rw [hres]
    ·have p24 := h24; try simp only [bs] at p24
     have hgood : decide (ix xs k = ix ys k) = true := by simp; omega
     refine Run.skip ?_
     refine Run.blockEnd ?_
     refine Run.region ?_
     refine Run.y (.int .i64 ((((k : Nat) : Int)) + 1)) rfl (OpY.add rfl rfl rfl (by omega) (by omega)) ?_
     refine Run.p (.int .i64 ((((k : Nat) : Int)) + 1)) rfl rfl ?_
     refine Run.done ?_
     refine Run.goal ⟨(by repeat (first | exact Same.refl _ _ | refine Same.put rfl ?_ | refine Same.over rfl rfl ?_)), k + 1, ?_, ?_, ?_, ?_⟩
     ·refine ⟨by omega, ?_⟩
      intro i hi
      rcases Nat.lt_succ_iff_lt_or_eq.1 hi with h | h
      ·exact hinv.2 i h
      ·rw [h]; exact hgood
     ·omega
     ·exact ⟨(by first | rfl | (congr 1; omega) | simp), trivial⟩
     ·exact (Some'.weak (.nil _))
   ·have p14 := h14; try simp only [bs] at p14
    have hknk : k = n := by omega
    have hres : decide (xs = ys) = true := q_eq (by omega) fun i hi => hinv.2 i (by omega)
    refine Run.exit rfl ?_
    refine Run.sr ?_
    refine Run.p (.bool true) rfl rfl ?_
    refine Run.done ?_
    refine Run.ret ?_
    refine ⟨.bool true, [], Out.one rfl rfl, (Some'.weak (.nil _)), ?_⟩
    show _ = _; rw [hres]

set_option maxHeartbeats 2000000 in
set_option maxRecDepth 20000 in
theorem law_spec {va vb : Value} {n m0 : Nat} {cs ds : List Int} {w : World} (ha : Sl w va 1 n (u8s cs)) (hby : ∀ x ∈ cs, 0 ≤ x ∧ x < 256) (hb : Sl w vb 1 m0 (u8s ds)) (hbz : ∀ x ∈ ds, 0 ≤ x ∧ x < 256) : Calls Try.prog 3 #[va, vb] w (Post No w fun v _ => v = .bool true) := by
 obtain ⟨Ac, cc, rfl, hn0, _⟩ := ha.form0
 obtain ⟨Bc, dd, rfl, hm0, _⟩ := hb.form0
 refine enter (n := 205) (args := [.slice Ac n cc, .slice Bc m0 dd]) Try.func3 rfl rfl (St.empty _ _) ?_
 refine Run.sr ?_
 refine Run.p (.bool false) rfl rfl ?_
 refine Run.done ?_
 refine Run.seq ?_
 refine Run.sr ?_
 refine Run.p (.slice Ac n cc) rfl rfl ?_
 refine Run.y (.int .i64 (((n : Nat) : Int))) rfl (OpY.len Tsl_22 rfl) ?_
 refine Run.p (.slice Bc m0 dd) rfl rfl ?_
 refine Run.y (.int .i64 (((m0 : Nat) : Int))) rfl (OpY.len Tsl_22 rfl) ?_
 refine Run.y (.int .i64 (IntKind.i64.wrap (((n : Nat) : Int) + ((m0 : Nat) : Int)))) rfl (OpY.addW rfl rfl rfl) ?_
 refine Run.p (.bool (decide ((IntKind.i64.wrap (((n : Nat) : Int) + ((m0 : Nat) : Int))) > 1048576))) rfl rfl ?_
 refine Run.done ?_
 refine Run.cond (b := decide ((IntKind.i64.wrap (((n : Nat) : Int) + ((m0 : Nat) : Int))) > 1048576)) rfl (fun h40 => ?_) (fun h40 => ?_)
 ·have p40 := h40; try simp only [bs] at p40
  refine Run.sr ?_
  refine Run.p (.bool true) rfl rfl ?_
  refine Run.done ?_
  refine Run.ret ?_
  refine ⟨.bool true, [], Out.one rfl rfl, (Some'.weak (.nil _)), ?_⟩
  rfl
 ·have p40 := h40; try simp only [bs] at p40
  refine Run.skip ?_
  refine Run.sr ?_
  refine Run.p (.slice Ac n cc) rfl rfl ?_
  refine Run.step rfl (OpStep.call (vs := [.slice Ac n cc]) (caps := []) Tcall_5 rfl rfl (fun w hs => DrawCausalFlowOf_spec (hs.sl ha) hby) ?_)
  rintro _ _ ⟨N, m, ni, no, ve, vi, vo, es, is, os, ⟨hgr, hsm⟩, rfl, rfl⟩
  show Run _ _ (putF _ _ _ (.agg #[.int .i64 (((N : Nat) : Int)), ve, vi, vo])) [.own ve 80 2 m (ints es), .own vi 3 1 ni (ints is), .own vo 3 1 no (ints os)]
  refine Run.step rfl (OpStep.alloc (zs := [.int .i64 0, .slice none 0 0, .slice none 0 0, .slice none 0 0]) Tzero_26 fun b1 => ?_)
  refine Run.formOwn (.tail _ (List.Mem.head _)) (fun A_ve1 c_ve1 hv hcapc_ve1 hmaxc_ve1 => ?_) (fun _ _ _ => ⟨nofun, nofun, nofun⟩)
  subst hv
  refine Run.formOwn (.tail _ (.tail _ (List.Mem.head _))) (fun A_vi1 c_vi1 hv hcapc_vi1 hmaxc_vi1 => ?_) (fun _ _ _ => ⟨nofun, nofun, nofun⟩)
  subst hv
  refine Run.formOwn (.tail _ (.tail _ (.tail _ (List.Mem.head _)))) (fun A_vo1 c_vo1 hv hcapc_vo1 hmaxc_vo1 => ?_) (fun _ _ _ => ⟨nofun, nofun, nofun⟩)
  subst hv
  refine Run.step rfl (OpStep.storeAll (us := [.int .i64 (((N : Nat) : Int)), .slice A_ve1 m c_ve1, .slice A_vi1 ni c_vi1, .slice A_vo1 no c_vo1]) Tsize_26 rfl rfl rfl (.here _) rfl ?_)
  refine Run.dsr ?_
  refine Run.y (.agg #[.int .i64 (((N : Nat) : Int)), .slice A_ve1 m c_ve1, .slice A_vi1 ni c_vi1, .slice A_vo1 no c_vo1]) rfl (OpY.loadN (cs := [.int .i64 (((N : Nat) : Int)), .slice A_ve1 m c_ve1, .slice A_vi1 ni c_vi1, .slice A_vo1 no c_vo1]) Tagg_26 rfl (Cells.blk (.head _) ⟨rfl, rfl, rfl, rfl, trivial⟩)) ?_
  refine Run.step rfl (OpStep.call (vs := [.agg #[.int .i64 (((N : Nat) : Int)), .slice A_ve1 m c_ve1, .slice A_vi1 ni c_vi1, .slice A_vo1 no c_vo1]]) (caps := []) Tcall_6 rfl rfl (fun w hs => CausalFlowOf_spec (by omega) (hs.slOwn (.tail _ (List.Mem.head _))) (hs.slOwn (.tail _ (.tail _ (List.Mem.head _)))) (hs.slOwn (.tail _ (.tail _ (.tail _ (List.Mem.head _)))))) ?_)
  rintro _ _ ⟨ua1, ub1, rfl, rfl⟩
  show Run _ _ (putF _ _ _ (.tuple #[.agg #[ua1, ub1], .bool ((cfO es m N is ni os no).isSome)])) [.own ua1 3 1 ((cfA es m N is ni os no).length) (ints (cfA es m N is ni os no)), .own ub1 3 1 ((cfL es m N is ni os no).length) (ints (cfL es m N is ni os no)), .blk b1 26 [.int .i64 (((N : Nat) : Int)), .slice A_ve1 m c_ve1, .slice A_vi1 ni c_vi1, .slice A_vo1 no c_vo1], .own (.slice A_ve1 m c_ve1) 80 2 m (ints es), .own (.slice A_vi1 ni c_vi1) 3 1 ni (ints is), .own (.slice A_vo1 no c_vo1) 3 1 no (ints os)]
  refine Run.p (.tuple #[.agg #[ua1, ub1], .bool ((cfO es m N is ni os no).isSome)]) rfl rfl ?_
  refine Run.p (.agg #[ua1, ub1]) rfl rfl ?_
  refine Run.p (.bool ((cfO es m N is ni os no).isSome)) rfl rfl ?_
  refine Run.step rfl (OpStep.alloc (zs := [.slice none 0 0, .slice none 0 0]) Tzero_29 fun b2 => ?_)
  refine Run.formOwn (.tail _ (List.Mem.head _)) (fun A_ua11 c_ua11 hv hcapc_ua11 hmaxc_ua11 => ?_) (fun _ _ _ => ⟨nofun, nofun, nofun⟩)
  subst hv
  refine Run.formOwn (.tail _ (.tail _ (List.Mem.head _))) (fun A_ub11 c_ub11 hv hcapc_ub11 hmaxc_ub11 => ?_) (fun _ _ _ => ⟨nofun, nofun, nofun⟩)
  subst hv
  refine Run.step rfl (OpStep.storeAll (us := [.slice A_ua11 ((cfA es m N is ni os no).length) c_ua11, .slice A_ub11 ((cfL es m N is ni os no).length) c_ub11]) Tsize_29 rfl rfl rfl (.here _) rfl ?_)
  refine Run.p (.bool ((cfO es m N is ni os no).isSome)) rfl rfl ?_
  refine Run.dsr ?_
  refine Run.y (.agg #[.int .i64 (((N : Nat) : Int)), .slice A_ve1 m c_ve1, .slice A_vi1 ni c_vi1, .slice A_vo1 no c_vo1]) rfl (OpY.loadN (cs := [.int .i64 (((N : Nat) : Int)), .slice A_ve1 m c_ve1, .slice A_vi1 ni c_vi1, .slice A_vo1 no c_vo1]) Tagg_26 rfl (Cells.blk (.tail _ (.tail _ (.tail _ (List.Mem.head _)))) ⟨rfl, rfl, rfl, rfl, trivial⟩)) ?_
  refine Run.step rfl (OpStep.call (vs := [.agg #[.int .i64 (((N : Nat) : Int)), .slice A_ve1 m c_ve1, .slice A_vi1 ni c_vi1, .slice A_vo1 no c_vo1]]) (caps := []) Tcall_7 rfl rfl (fun w hs => sCausalFlowOf_spec (by omega) (hs.slOwn (.tail _ (.tail _ (.tail _ (.tail _ (List.Mem.head _)))))) (hs.slOwn (.tail _ (.tail _ (.tail _ (.tail _ (.tail _ (List.Mem.head _))))))) (hs.slOwn (.tail _ (.tail _ (.tail _ (.tail _ (.tail _ (.tail _ (List.Mem.head _)))))))) hsm) ?_)
  rintro _ _ ⟨uc1, ud1, rfl, rfl⟩
  show Run _ _ (putF _ _ _ (.tuple #[.agg #[uc1, ud1], .bool ((cfO es m N is ni os no).isSome)])) [.own uc1 3 1 ((cfA es m N is ni os no).length) (ints (cfA es m N is ni os no)), .own ud1 3 1 ((cfL es m N is ni os no).length) (ints (cfL es m N is ni os no)), .blk b2 29 [.slice A_ua11 ((cfA es m N is ni os no).length) c_ua11, .slice A_ub11 ((cfL es m N is ni os no).length) c_ub11], .own (.slice A_ua11 ((cfA es m N is ni os no).length) c_ua11) 3 1 ((cfA es m N is ni os no).length) (ints (cfA es m N is ni os no)), .own (.slice A_ub11 ((cfL es m N is ni os no).length) c_ub11) 3 1 ((cfL es m N is ni os no).length) (ints (cfL es m N is ni os no)), .blk b1 26 [.int .i64 (((N : Nat) : Int)), .slice A_ve1 m c_ve1, .slice A_vi1 ni c_vi1, .slice A_vo1 no c_vo1], .own (.slice A_ve1 m c_ve1) 80 2 m (ints es), .own (.slice A_vi1 ni c_vi1) 3 1 ni (ints is), .own (.slice A_vo1 no c_vo1) 3 1 no (ints os)]
  refine Run.p (.tuple #[.agg #[uc1, ud1], .bool ((cfO es m N is ni os no).isSome)]) rfl rfl ?_
  refine Run.p (.agg #[uc1, ud1]) rfl rfl ?_
  refine Run.p (.bool ((cfO es m N is ni os no).isSome)) rfl rfl ?_
  refine Run.step rfl (OpStep.alloc (zs := [.slice none 0 0, .slice none 0 0]) Tzero_29 fun b3 => ?_)
  refine Run.formOwn (.tail _ (List.Mem.head _)) (fun A_uc11 c_uc11 hv hcapc_uc11 hmaxc_uc11 => ?_) (fun _ _ _ => ⟨nofun, nofun, nofun⟩)
  subst hv
  refine Run.formOwn (.tail _ (.tail _ (List.Mem.head _))) (fun A_ud11 c_ud11 hv hcapc_ud11 hmaxc_ud11 => ?_) (fun _ _ _ => ⟨nofun, nofun, nofun⟩)
  subst hv
  refine Run.step rfl (OpStep.storeAll (us := [.slice A_uc11 ((cfA es m N is ni os no).length) c_uc11, .slice A_ud11 ((cfL es m N is ni os no).length) c_ud11]) Tsize_29 rfl rfl rfl (.here _) rfl ?_)
  refine Run.p (.bool ((cfO es m N is ni os no).isSome)) rfl rfl ?_
  refine Run.dsr ?_
  refine Run.p (.slice Bc m0 dd) rfl rfl ?_
  refine Run.step rfl (OpStep.call (vs := [.slice Bc m0 dd]) (caps := []) Tcall_8 rfl rfl (fun w hs => DrawIsCausalFlow_spec (hs.sl hb) hbz) ?_)
  rintro _ _ ⟨N2, m2, ni2, no2, aa2, bb2, ve2, vi2, vo2, vx2, vy2, es2, is2, os2, nx2, ly2, ⟨hgr2, hsm2⟩, rfl, rfl⟩
  show Run _ _ (putF _ _ _ (.tuple #[.agg #[.int .i64 (((N2 : Nat) : Int)), ve2, vi2, vo2], .agg #[vx2, vy2]])) [.own ve2 80 2 m2 (ints es2), .own vi2 3 1 ni2 (ints is2), .own vo2 3 1 no2 (ints os2), .own vx2 3 1 aa2 (ints nx2), .own vy2 3 1 bb2 (ints ly2), .blk b3 29 [.slice A_uc11 ((cfA es m N is ni os no).length) c_uc11, .slice A_ud11 ((cfL es m N is ni os no).length) c_ud11], .own (.slice A_uc11 ((cfA es m N is ni os no).length) c_uc11) 3 1 ((cfA es m N is ni os no).length) (ints (cfA es m N is ni os no)), .own (.slice A_ud11 ((cfL es m N is ni os no).length) c_ud11) 3 1 ((cfL es m N is ni os no).length) (ints (cfL es m N is ni os no)), .blk b2 29 [.slice A_ua11 ((cfA es m N is ni os no).length) c_ua11, .slice A_ub11 ((cfL es m N is ni os no).length) c_ub11], .own (.slice A_ua11 ((cfA es m N is ni os no).length) c_ua11) 3 1 ((cfA es m N is ni os no).length) (ints (cfA es m N is ni os no)), .own (.slice A_ub11 ((cfL es m N is ni os no).length) c_ub11) 3 1 ((cfL es m N is ni os no).length) (ints (cfL es m N is ni os no)), .blk b1 26 [.int .i64 (((N : Nat) : Int)), .slice A_ve1 m c_ve1, .slice A_vi1 ni c_vi1, .slice A_vo1 no c_vo1], .own (.slice A_ve1 m c_ve1) 80 2 m (ints es), .own (.slice A_vi1 ni c_vi1) 3 1 ni (ints is), .own (.slice A_vo1 no c_vo1) 3 1 no (ints os)]
  refine Run.p (.tuple #[.agg #[.int .i64 (((N2 : Nat) : Int)), ve2, vi2, vo2], .agg #[vx2, vy2]]) rfl rfl ?_
  refine Run.p (.agg #[.int .i64 (((N2 : Nat) : Int)), ve2, vi2, vo2]) rfl rfl ?_
  refine Run.p (.agg #[vx2, vy2]) rfl rfl ?_
  refine Run.step rfl (OpStep.alloc (zs := [.int .i64 0, .slice none 0 0, .slice none 0 0, .slice none 0 0]) Tzero_26 fun b4 => ?_)
  refine Run.step rfl (OpStep.alloc (zs := [.slice none 0 0, .slice none 0 0]) Tzero_29 fun b5 => ?_)
  refine Run.formOwn (.tail _ (.tail _ (List.Mem.head _))) (fun A_ve21 c_ve21 hv hcapc_ve21 hmaxc_ve21 => ?_) (fun _ _ _ => ⟨nofun, nofun, nofun⟩)
  subst hv
  refine Run.formOwn (.tail _ (.tail _ (.tail _ (List.Mem.head _)))) (fun A_vi21 c_vi21 hv hcapc_vi21 hmaxc_vi21 => ?_) (fun _ _ _ => ⟨nofun, nofun, nofun⟩)
  subst hv
  refine Run.formOwn (.tail _ (.tail _ (.tail _ (.tail _ (List.Mem.head _))))) (fun A_vo21 c_vo21 hv hcapc_vo21 hmaxc_vo21 => ?_) (fun _ _ _ => ⟨nofun, nofun, nofun⟩)
  subst hv
  refine Run.step rfl (OpStep.storeAll (us := [.int .i64 (((N2 : Nat) : Int)), .slice A_ve21 m2 c_ve21, .slice A_vi21 ni2 c_vi21, .slice A_vo21 no2 c_vo21]) Tsize_26 rfl rfl rfl (.there _ (.here _)) rfl ?_)
  refine Run.formOwn (.tail _ (.tail _ (.tail _ (.tail _ (.tail _ (List.Mem.head _)))))) (fun A_vx21 c_vx21 hv hcapc_vx21 hmaxc_vx21 => ?_) (fun _ _ _ => ⟨nofun, nofun, nofun⟩)
  subst hv
  refine Run.formOwn (.tail _ (.tail _ (.tail _ (.tail _ (.tail _ (.tail _ (List.Mem.head _))))))) (fun A_vy21 c_vy21 hv hcapc_vy21 hmaxc_vy21 => ?_) (fun _ _ _ => ⟨nofun, nofun, nofun⟩)
  subst hv
  refine Run.step rfl (OpStep.storeAll (us := [.slice A_vx21 aa2 c_vx21, .slice A_vy21 bb2 c_vy21]) Tsize_29 rfl rfl rfl (.here _) rfl ?_)
  refine Run.dsr ?_
  refine Run.y (.agg #[.int .i64 (((N2 : Nat) : Int)), .slice A_ve21 m2 c_ve21, .slice A_vi21 ni2 c_vi21, .slice A_vo21 no2 c_vo21]) rfl (OpY.loadN (cs := [.int .i64 (((N2 : Nat) : Int)), .slice A_ve21 m2 c_ve21, .slice A_vi21 ni2 c_vi21, .slice A_vo21 no2 c_vo21]) Tagg_26 rfl (Cells.blk (.tail _ (List.Mem.head _)) ⟨rfl, rfl, rfl, rfl, trivial⟩)) ?_
  refine Run.y (.agg #[.slice A_vx21 aa2 c_vx21, .slice A_vy21 bb2 c_vy21]) rfl (OpY.loadN (cs := [.slice A_vx21 aa2 c_vx21, .slice A_vy21 bb2 c_vy21]) Tagg_29 rfl (Cells.blk (.head _) ⟨rfl, rfl, trivial⟩)) ?_
  refine Run.q (v := .tuple #[.bool (ogB N2 es2 m2 is2 ni2 os2 no2 && flB es2 m2 N2 is2 ni2 os2 no2 nx2 aa2 ly2 bb2), .bool (ogB N2 es2 m2 is2 ni2 os2 no2)]) rfl (OpQ.call (vs := [.agg #[.int .i64 (((N2 : Nat) : Int)), .slice A_ve21 m2 c_ve21, .slice A_vi21 ni2 c_vi21, .slice A_vo21 no2 c_vo21], .agg #[.slice A_vx21 aa2 c_vx21, .slice A_vy21 bb2 c_vy21]]) (caps := []) Tcall_9 rfl rfl (fun w hs => IsCausalFlow_spec (by omega) (hs.slOwn (.tail _ (.tail _ (List.Mem.head _)))) (hs.slOwn (.tail _ (.tail _ (.tail _ (List.Mem.head _))))) (hs.slOwn (.tail _ (.tail _ (.tail _ (.tail _ (List.Mem.head _)))))) (hs.slOwn (.tail _ (.tail _ (.tail _ (.tail _ (.tail _ (List.Mem.head _))))))) (hs.slOwn (.tail _ (.tail _ (.tail _ (.tail _ (.tail _ (.tail _ (List.Mem.head _)))))))))) ?_
  refine Run.p (.tuple #[.bool (ogB N2 es2 m2 is2 ni2 os2 no2 && flB es2 m2 N2 is2 ni2 os2 no2 nx2 aa2 ly2 bb2), .bool (ogB N2 es2 m2 is2 ni2 os2 no2)]) rfl rfl ?_
  refine Run.p (.bool (ogB N2 es2 m2 is2 ni2 os2 no2 && flB es2 m2 N2 is2 ni2 os2 no2 nx2 aa2 ly2 bb2)) rfl rfl ?_
  refine Run.p (.bool (ogB N2 es2 m2 is2 ni2 os2 no2)) rfl rfl ?_
  refine Run.p (.bool (ogB N2 es2 m2 is2 ni2 os2 no2 && flB es2 m2 N2 is2 ni2 os2 no2 nx2 aa2 ly2 bb2)) rfl rfl ?_
  refine Run.p (.bool (ogB N2 es2 m2 is2 ni2 os2 no2)) rfl rfl ?_
  refine Run.dsr ?_
  refine Run.y (.agg #[.int .i64 (((N2 : Nat) : Int)), .slice A_ve21 m2 c_ve21, .slice A_vi21 ni2 c_vi21, .slice A_vo21 no2 c_vo21]) rfl (OpY.loadN (cs := [.int .i64 (((N2 : Nat) : Int)), .slice A_ve21 m2 c_ve21, .slice A_vi21 ni2 c_vi21, .slice A_vo21 no2 c_vo21]) Tagg_26 rfl (Cells.blk (.tail _ (List.Mem.head _)) ⟨rfl, rfl, rfl, rfl, trivial⟩)) ?_
  refine Run.y (.agg #[.slice A_vx21 aa2 c_vx21, .slice A_vy21 bb2 c_vy21]) rfl (OpY.loadN (cs := [.slice A_vx21 aa2 c_vx21, .slice A_vy21 bb2 c_vy21]) Tagg_29 rfl (Cells.blk (.head _) ⟨rfl, rfl, trivial⟩)) ?_
  refine Run.q (v := .tuple #[.bool (ogB N2 es2 m2 is2 ni2 os2 no2 && flB es2 m2 N2 is2 ni2 os2 no2 nx2 aa2 ly2 bb2), .bool (ogB N2 es2 m2 is2 ni2 os2 no2)]) rfl (OpQ.call (vs := [.agg #[.int .i64 (((N2 : Nat) : Int)), .slice A_ve21 m2 c_ve21, .slice A_vi21 ni2 c_vi21, .slice A_vo21 no2 c_vo21], .agg #[.slice A_vx21 aa2 c_vx21, .slice A_vy21 bb2 c_vy21]]) (caps := []) Tcall_10 rfl rfl (fun w hs => sIsCausalFlow_spec (by omega) (hs.slOwn (.tail _ (.tail _ (List.Mem.head _)))) (hs.slOwn (.tail _ (.tail _ (.tail _ (List.Mem.head _))))) (hs.slOwn (.tail _ (.tail _ (.tail _ (.tail _ (List.Mem.head _)))))) (hs.slOwn (.tail _ (.tail _ (.tail _ (.tail _ (.tail _ (List.Mem.head _))))))) (hs.slOwn (.tail _ (.tail _ (.tail _ (.tail _ (.tail _ (.tail _ (List.Mem.head _)))))))) hsm2)) ?_
  refine Run.p (.tuple #[.bool (ogB N2 es2 m2 is2 ni2 os2 no2 && flB es2 m2 N2 is2 ni2 os2 no2 nx2 aa2 ly2 bb2), .bool (ogB N2 es2 m2 is2 ni2 os2 no2)]) rfl rfl ?_
  refine Run.p (.bool (ogB N2 es2 m2 is2 ni2 os2 no2 && flB es2 m2 N2 is2 ni2 os2 no2 nx2 aa2 ly2 bb2)) rfl rfl ?_
  refine Run.p (.bool (ogB N2 es2 m2 is2 ni2 os2 no2)) rfl rfl ?_
  refine Run.p (.bool (ogB N2 es2 m2 is2 ni2 os2 no2 && flB es2 m2 N2 is2 ni2 os2 no2 nx2 aa2 ly2 bb2)) rfl rfl ?_
  refine Run.p (.bool (ogB N2 es2 m2 is2 ni2 os2 no2)) rfl rfl ?_
  refine Run.done ?_
  refine Run.seq ?_
  refine Run.sr ?_
  refine Run.p (.bool ((cfO es m N is ni os no).isSome)) rfl rfl ?_
  refine Run.p (.bool ((cfO es m N is ni os no).isSome)) rfl rfl ?_
  refine Run.y (.bool false) rfl (OpY.neqBSame Tbool_4 rfl rfl rfl) ?_
  refine Run.p (.bool false) rfl rfl ?_
  refine Run.y (.pointer (some ⟨b2, 0, none⟩)) rfl (OpY.fieldAddr Tfo_29_0 rfl rfl) ?_
  refine Run.y (.slice A_ua11 ((cfA es m N is ni os no).length) c_ua11) rfl (OpY.load1 Tone_24 rfl (Cells.blk (.tail _ (.tail _ (.tail _ (.tail _ (.tail _ (.tail _ (.tail _ (.tail _ (.tail _ (.tail _ (List.Mem.head _))))))))))) ⟨rfl, trivial⟩)) ?_
  refine Run.y (.pointer (some ⟨b3, 0, none⟩)) rfl (OpY.fieldAddr Tfo_29_0 rfl rfl) ?_
  refine Run.y (.slice A_uc11 ((cfA es m N is ni os no).length) c_uc11) rfl (OpY.load1 Tone_24 rfl (Cells.blk (.tail _ (.tail _ (.tail _ (.tail _ (.tail _ (.tail _ (.tail _ (List.Mem.head _)))))))) ⟨rfl, trivial⟩)) ?_
  refine Run.q (v := .bool true) rfl (OpQ.call (vs := [.slice A_ua11 ((cfA es m N is ni os no).length) c_ua11, .slice A_uc11 ((cfA es m N is ni os no).length) c_uc11]) (caps := []) Tcall_11 rfl rfl (fun w hs => (by have h := qInts_spec (xs := (cfA es m N is ni os no)) (ys := (cfA es m N is ni os no)) (hs.slOwn (.tail _ (.tail _ (.tail _ (.tail _ (.tail _ (.tail _ (.tail _ (.tail _ (.tail _ (.tail _ (.tail _ (List.Mem.head _))))))))))))) (hs.slOwn (.tail _ (.tail _ (.tail _ (.tail _ (.tail _ (.tail _ (.tail _ (.tail _ (List.Mem.head _)))))))))); rw [decide_eq_true rfl] at h; exact h))) ?_
  refine Run.p (.bool false) rfl rfl ?_
  refine Run.p (.bool false) rfl rfl ?_
  refine Run.p (.bool false) rfl rfl ?_
  refine Run.y (.pointer (some ⟨b2, 1, none⟩)) rfl (OpY.fieldAddr Tfo_29_1 rfl rfl) ?_
  refine Run.y (.slice A_ub11 ((cfL es m N is ni os no).length) c_ub11) rfl (OpY.load1 Tone_24 rfl (Cells.blk (.tail _ (.tail _ (.tail _ (.tail _ (.tail _ (.tail _ (.tail _ (.tail _ (.tail _ (.tail _ (List.Mem.head _))))))))))) ⟨rfl, trivial⟩)) ?_
  refine Run.y (.pointer (some ⟨b3, 1, none⟩)) rfl (OpY.fieldAddr Tfo_29_1 rfl rfl) ?_
  refine Run.y (.slice A_ud11 ((cfL es m N is ni os no).length) c_ud11) rfl (OpY.load1 Tone_24 rfl (Cells.blk (.tail _ (.tail _ (.tail _ (.tail _ (.tail _ (.tail _ (.tail _ (List.Mem.head _)))))))) ⟨rfl, trivial⟩)) ?_
  refine Run.q (v := .bool true) rfl (OpQ.call (vs := [.slice A_ub11 ((cfL es m N is ni os no).length) c_ub11, .slice A_ud11 ((cfL es m N is ni os no).length) c_ud11]) (caps := []) Tcall_11 rfl rfl (fun w hs => (by have h := qInts_spec (xs := (cfL es m N is ni os no)) (ys := (cfL es m N is ni os no)) (hs.slOwn (.tail _ (.tail _ (.tail _ (.tail _ (.tail _ (.tail _ (.tail _ (.tail _ (.tail _ (.tail _ (.tail _ (.tail _ (List.Mem.head _)))))))))))))) (hs.slOwn (.tail _ (.tail _ (.tail _ (.tail _ (.tail _ (.tail _ (.tail _ (.tail _ (.tail _ (List.Mem.head _))))))))))); rw [decide_eq_true rfl] at h; exact h))) ?_
  refine Run.p (.bool false) rfl rfl ?_
  refine Run.p (.bool false) rfl rfl ?_
  refine Run.p (.bool false) rfl rfl ?_
  refine Run.p (.bool (ogB N2 es2 m2 is2 ni2 os2 no2)) rfl rfl ?_
  refine Run.p (.bool (ogB N2 es2 m2 is2 ni2 os2 no2)) rfl rfl ?_
  refine Run.y (.bool false) rfl (OpY.neqBSame Tbool_4 rfl rfl rfl) ?_
  refine Run.p (.bool false) rfl rfl ?_
  refine Run.p (.bool false) rfl rfl ?_
  refine Run.p (.bool (ogB N2 es2 m2 is2 ni2 os2 no2 && flB es2 m2 N2 is2 ni2 os2 no2 nx2 aa2 ly2 bb2)) rfl rfl ?_
  refine Run.p (.bool (ogB N2 es2 m2 is2 ni2 os2 no2 && flB es2 m2 N2 is2 ni2 os2 no2 nx2 aa2 ly2 bb2)) rfl rfl ?_
  refine Run.y (.bool false) rfl (OpY.neqBSame Tbool_4 rfl rfl rfl) ?_
  refine Run.p (.bool false) rfl rfl ?_
  refine Run.done ?_
  refine Run.cond (b := false) rfl (fun h => nomatch h) (fun _ => ?_)
  refine Run.skip ?_
  refine Run.seq ?_
  refine Run.sr ?_
  refine Run.p (.bool (ogB N2 es2 m2 is2 ni2 os2 no2 && flB es2 m2 N2 is2 ni2 os2 no2 nx2 aa2 ly2 bb2)) rfl rfl ?_
  refine Run.done ?_
  refine Run.cond (b := ogB N2 es2 m2 is2 ni2 os2 no2 && flB es2 m2 N2 is2 ni2 os2 no2 nx2 aa2 ly2 bb2) rfl (fun h99 => ?_) (fun h99 => ?_)
  ·have p99 := h99; try simp only [bs] at p99
   refine Run.sr ?_
   refine Run.y (.agg #[.int .i64 (((N2 : Nat) : Int)), .slice A_ve21 m2 c_ve21, .slice A_vi21 ni2 c_vi21, .slice A_vo21 no2 c_vo21]) rfl (OpY.loadN (cs := [.int .i64 (((N2 : Nat) : Int)), .slice A_ve21 m2 c_ve21, .slice A_vi21 ni2 c_vi21, .slice A_vo21 no2 c_vo21]) Tagg_26 rfl (Cells.blk (.tail _ (List.Mem.head _)) ⟨rfl, rfl, rfl, rfl, trivial⟩)) ?_
   refine Run.step rfl (OpStep.call (vs := [.agg #[.int .i64 (((N2 : Nat) : Int)), .slice A_ve21 m2 c_ve21, .slice A_vi21 ni2 c_vi21, .slice A_vo21 no2 c_vo21]]) (caps := []) Tcall_6 rfl rfl (fun w hs => CausalFlowOf_spec (by omega) (hs.slOwn (.tail _ (.tail _ (List.Mem.head _)))) (hs.slOwn (.tail _ (.tail _ (.tail _ (List.Mem.head _))))) (hs.slOwn (.tail _ (.tail _ (.tail _ (.tail _ (List.Mem.head _))))))) ?_)
   rintro _ _ ⟨ua2, ub2, rfl, rfl⟩
   show Run _ _ (putF _ _ _ (.tuple #[.agg #[ua2, ub2], .bool ((cfO es2 m2 N2 is2 ni2 os2 no2).isSome)])) [.own ua2 3 1 ((cfA es2 m2 N2 is2 ni2 os2 no2).length) (ints (cfA es2 m2 N2 is2 ni2 os2 no2)), .own ub2 3 1 ((cfL es2 m2 N2 is2 ni2 os2 no2).length) (ints (cfL es2 m2 N2 is2 ni2 os2 no2)), .blk b5 29 [.slice A_vx21 aa2 c_vx21, .slice A_vy21 bb2 c_vy21], .blk b4 26 [.int .i64 (((N2 : Nat) : Int)), .slice A_ve21 m2 c_ve21, .slice A_vi21 ni2 c_vi21, .slice A_vo21 no2 c_vo21], .own (.slice A_ve21 m2 c_ve21) 80 2 m2 (ints es2), .own (.slice A_vi21 ni2 c_vi21) 3 1 ni2 (ints is2), .own (.slice A_vo21 no2 c_vo21) 3 1 no2 (ints os2), .own (.slice A_vx21 aa2 c_vx21) 3 1 aa2 (ints nx2), .own (.slice A_vy21 bb2 c_vy21) 3 1 bb2 (ints ly2), .blk b3 29 [.slice A_uc11 ((cfA es m N is ni os no).length) c_uc11, .slice A_ud11 ((cfL es m N is ni os no).length) c_ud11], .own (.slice A_uc11 ((cfA es m N is ni os no).length) c_uc11) 3 1 ((cfA es m N is ni os no).length) (ints (cfA es m N is ni os no)), .own (.slice A_ud11 ((cfL es m N is ni os no).length) c_ud11) 3 1 ((cfL es m N is ni os no).length) (ints (cfL es m N is ni os no)), .blk b2 29 [.slice A_ua11 ((cfA es m N is ni os no).length) c_ua11, .slice A_ub11 ((cfL es m N is ni os no).length) c_ub11], .own (.slice A_ua11 ((cfA es m N is ni os no).length) c_ua11) 3 1 ((cfA es m N is ni os no).length) (ints (cfA es m N is ni os no)), .own (.slice A_ub11 ((cfL es m N is ni os no).length) c_ub11) 3 1 ((cfL es m N is ni os no).length) (ints (cfL es m N is ni os no)), .blk b1 26 [.int .i64 (((N : Nat) : Int)), .slice A_ve1 m c_ve1, .slice A_vi1 ni c_vi1, .slice A_vo1 no c_vo1], .own (.slice A_ve1 m c_ve1) 80 2 m (ints es), .own (.slice A_vi1 ni c_vi1) 3 1 ni (ints is), .own (.slice A_vo1 no c_vo1) 3 1 no (ints os)]
   refine Run.p (.tuple #[.agg #[ua2, ub2], .bool ((cfO es2 m2 N2 is2 ni2 os2 no2).isSome)]) rfl rfl ?_
   refine Run.p (.agg #[ua2, ub2]) rfl rfl ?_
   refine Run.p (.bool ((cfO es2 m2 N2 is2 ni2 os2 no2).isSome)) rfl rfl ?_
   refine Run.step rfl (OpStep.alloc (zs := [.slice none 0 0, .slice none 0 0]) Tzero_29 fun b6 => ?_)
   refine Run.formOwn (.tail _ (List.Mem.head _)) (fun A_ua21 c_ua21 hv hcapc_ua21 hmaxc_ua21 => ?_) (fun _ _ _ => ⟨nofun, nofun, nofun⟩)
   subst hv
   refine Run.formOwn (.tail _ (.tail _ (List.Mem.head _))) (fun A_ub21 c_ub21 hv hcapc_ub21 hmaxc_ub21 => ?_) (fun _ _ _ => ⟨nofun, nofun, nofun⟩)
   subst hv
   refine Run.step rfl (OpStep.storeAll (us := [.slice A_ua21 ((cfA es2 m2 N2 is2 ni2 os2 no2).length) c_ua21, .slice A_ub21 ((cfL es2 m2 N2 is2 ni2 os2 no2).length) c_ub21]) Tsize_29 rfl rfl rfl (.here _) rfl ?_)
   refine Run.p (.bool ((cfO es2 m2 N2 is2 ni2 os2 no2).isSome)) rfl rfl ?_
   refine Run.dsr ?_
   refine Run.p (.bool ((cfO es2 m2 N2 is2 ni2 os2 no2).isSome)) rfl rfl ?_
   refine Run.p (.bool (!((cfO es2 m2 N2 is2 ni2 os2 no2).isSome))) rfl rfl ?_
   refine Run.done ?_
   refine Run.cond (b := !((cfO es2 m2 N2 is2 ni2 os2 no2).isSome)) rfl (fun h106 => ?_) (fun h106 => ?_)
   ·exact absurd (cf_found h99) (by have h := h106; rw [Bool.not_eq_true'] at h; rw [h]; decide) --DONE
   ·have p106 := h106; try simp only [bs] at p106
    refine Run.skip ?_
    refine Run.seq ?_
    refine Run.sr ?_
    refine Run.p (.bool ((cfO es m N is ni os no).isSome)) rfl rfl ?_
    refine Run.p (.bool (!((cfO es m N is ni os no).isSome))) rfl rfl ?_
    refine Run.done ?_
    refine Run.cond (b := !((cfO es m N is ni os no).isSome)) rfl (fun h108 => ?_) (fun h108 => ?_)
    ·have p108 := h108; try simp only [bs] at p108
     refine Run.sr ?_
     refine Run.p (.bool true) rfl rfl ?_
     refine Run.done ?_
     refine Run.ret ?_
     refine ⟨.bool true, [], Out.one rfl rfl, (Some'.weak (.nil _)), ?_⟩
     rfl
    ·have p108 := h108; try simp only [bs] at p108
     have hyes : (cfO es m N is ni os no).isSome = true := by simpa using p108
     have hok := cf_ok hyes
     have hfl2 : flB es m N is ni os no (cfA es m N is ni os no) (cfA es m N is ni os no).length (cfL es m N is ni os no) (cfL es m N is ni os no).length = true := by rw [hok.la, hok.ll]; exact hok.fl
     obtain ⟨hn1, hn10, hes, hri, hro⟩ := og_ok hok.hg
     refine Run.skip ?_
     refine Run.sr ?_
     refine Run.y (.agg #[.int .i64 (((N : Nat) : Int)), .slice A_ve1 m c_ve1, .slice A_vi1 ni c_vi1, .slice A_vo1 no c_vo1]) rfl (OpY.loadN (cs := [.int .i64 (((N : Nat) : Int)), .slice A_ve1 m c_ve1, .slice A_vi1 ni c_vi1, .slice A_vo1 no c_vo1]) Tagg_26 rfl (Cells.blk (.tail _ (.tail _ (.tail _ (.tail _ (.tail _ (.tail _ (.tail _ (.tail _ (.tail _ (.tail _ (.tail _ (.tail _ (.tail _ (.tail _ (.tail _ (.tail _ (List.Mem.head _))))))))))))))))) ⟨rfl, rfl, rfl, rfl, trivial⟩)) ?_
     refine Run.y (.agg #[.slice A_ua11 ((cfA es m N is ni os no).length) c_ua11, .slice A_ub11 ((cfL es m N is ni os no).length) c_ub11]) rfl (OpY.loadN (cs := [.slice A_ua11 ((cfA es m N is ni os no).length) c_ua11, .slice A_ub11 ((cfL es m N is ni os no).length) c_ub11]) Tagg_29 rfl (Cells.blk (.tail _ (.tail _ (.tail _ (.tail _ (.tail _ (.tail _ (.tail _ (.tail _ (.tail _ (.tail _ (.tail _ (.tail _ (.tail _ (List.Mem.head _)))))))))))))) ⟨rfl, rfl, trivial⟩)) ?_
     refine Run.q (v := .tuple #[.bool true, .bool true]) rfl (OpQ.call (vs := [.agg #[.int .i64 (((N : Nat) : Int)), .slice A_ve1 m c_ve1, .slice A_vi1 ni c_vi1, .slice A_vo1 no c_vo1], .agg #[.slice A_ua11 ((cfA es m N is ni os no).length) c_ua11, .slice A_ub11 ((cfL es m N is ni os no).length) c_ub11]]) (caps := []) Tcall_9 rfl rfl (fun w hs => (by have h := IsCausalFlow_spec (n := N) (by omega) (hs.slOwn (.tail _ (.tail _ (.tail _ (.tail _ (.tail _ (.tail _ (.tail _ (.tail _ (.tail _ (.tail _ (.tail _ (.tail _ (.tail _ (.tail _ (.tail _ (.tail _ (.tail _ (List.Mem.head _))))))))))))))))))) (hs.slOwn (.tail _ (.tail _ (.tail _ (.tail _ (.tail _ (.tail _ (.tail _ (.tail _ (.tail _ (.tail _ (.tail _ (.tail _ (.tail _ (.tail _ (.tail _ (.tail _ (.tail _ (.tail _ (List.Mem.head _)))))))))))))))))))) (hs.slOwn (.tail _ (.tail _ (.tail _ (.tail _ (.tail _ (.tail _ (.tail _ (.tail _ (.tail _ (.tail _ (.tail _ (.tail _ (.tail _ (.tail _ (.tail _ (.tail _ (.tail _ (.tail _ (.tail _ (List.Mem.head _))))))))))))))))))))) ((hs.slOwn (.tail _ (.tail _ (.tail _ (.tail _ (.tail _ (.tail _ (.tail _ (.tail _ (.tail _ (.tail _ (.tail _ (.tail _ (.tail _ (.tail _ (List.Mem.head _))))))))))))))))) ((hs.slOwn (.tail _ (.tail _ (.tail _ (.tail _ (.tail _ (.tail _ (.tail _ (.tail _ (.tail _ (.tail _ (.tail _ (.tail _ (.tail _ (.tail _ (.tail _ (List.Mem.head _)))))))))))))))))); rw [hok.hg, hfl2] at h; exact h))) ?_
     refine Run.p (.tuple #[.bool true, .bool true]) rfl rfl ?_
     refine Run.p (.bool true) rfl rfl ?_
     refine Run.p (.bool true) rfl rfl ?_
     refine Run.p (.bool true) rfl rfl ?_
     refine Run.p (.bool true) rfl rfl ?_
     refine Run.dsr ?_
     refine Run.y (.agg #[.int .i64 (((N : Nat) : Int)), .slice A_ve1 m c_ve1, .slice A_vi1 ni c_vi1, .slice A_vo1 no c_vo1]) rfl (OpY.loadN (cs := [.int .i64 (((N : Nat) : Int)), .slice A_ve1 m c_ve1, .slice A_vi1 ni c_vi1, .slice A_vo1 no c_vo1]) Tagg_26 rfl (Cells.blk (.tail _ (.tail _ (.tail _ (.tail _ (.tail _ (.tail _ (.tail _ (.tail _ (.tail _ (.tail _ (.tail _ (.tail _ (.tail _ (.tail _ (.tail _ (.tail _ (List.Mem.head _))))))))))))))))) ⟨rfl, rfl, rfl, rfl, trivial⟩)) ?_
     refine Run.y (.agg #[.slice A_ua11 ((cfA es m N is ni os no).length) c_ua11, .slice A_ub11 ((cfL es m N is ni os no).length) c_ub11]) rfl (OpY.loadN (cs := [.slice A_ua11 ((cfA es m N is ni os no).length) c_ua11, .slice A_ub11 ((cfL es m N is ni os no).length) c_ub11]) Tagg_29 rfl (Cells.blk (.tail _ (.tail _ (.tail _ (.tail _ (.tail _ (.tail _ (.tail _ (.tail _ (.tail _ (.tail _ (.tail _ (.tail _ (.tail _ (List.Mem.head _)))))))))))))) ⟨rfl, rfl, trivial⟩)) ?_
     refine Run.step rfl (OpStep.call (vs := [.agg #[.int .i64 (((N : Nat) : Int)), .slice A_ve1 m c_ve1, .slice A_vi1 ni c_vi1, .slice A_vo1 no c_vo1], .agg #[.slice A_ua11 ((cfA es m N is ni os no).length) c_ua11, .slice A_ub11 ((cfL es m N is ni os no).length) c_ub11]]) (caps := []) Tcall_12 rfl rfl (fun w hs => SetsOf_spec hok.hg hok.fl (hs.slOwn (.tail _ (.tail _ (.tail _ (.tail _ (.tail _ (.tail _ (.tail _ (.tail _ (.tail _ (.tail _ (.tail _ (.tail _ (.tail _ (.tail _ (.tail _ (.tail _ (.tail _ (List.Mem.head _))))))))))))))))))) (hs.slOwn (.tail _ (.tail _ (.tail _ (.tail _ (.tail _ (.tail _ (.tail _ (.tail _ (.tail _ (.tail _ (.tail _ (.tail _ (.tail _ (.tail _ (.tail _ (.tail _ (.tail _ (.tail _ (List.Mem.head _)))))))))))))))))))) (hs.slOwn (.tail _ (.tail _ (.tail _ (.tail _ (.tail _ (.tail _ (.tail _ (.tail _ (.tail _ (.tail _ (.tail _ (.tail _ (.tail _ (.tail _ (.tail _ (.tail _ (.tail _ (.tail _ (.tail _ (List.Mem.head _))))))))))))))))))))) (Sl.as (hs.slOwn (.tail _ (.tail _ (.tail _ (.tail _ (.tail _ (.tail _ (.tail _ (.tail _ (.tail _ (.tail _ (.tail _ (.tail _ (.tail _ (.tail _ (List.Mem.head _)))))))))))))))) hok.la) (Sl.as (hs.slOwn (.tail _ (.tail _ (.tail _ (.tail _ (.tail _ (.tail _ (.tail _ (.tail _ (.tail _ (.tail _ (.tail _ (.tail _ (.tail _ (.tail _ (.tail _ (List.Mem.head _))))))))))))))))) hok.ll)) ?_)
     rintro _ _ ⟨us1, us2, rfl, rfl⟩
     show Run _ _ (putF _ _ _ (.tuple #[.agg #[us1, us2], .bool true])) [.own us1 3 1 N (ints (setsL (cfA es m N is ni os no) N)), .own us2 3 1 N (ints (cfL es m N is ni os no)), .blk b6 29 [.slice A_ua21 ((cfA es2 m2 N2 is2 ni2 os2 no2).length) c_ua21, .slice A_ub21 ((cfL es2 m2 N2 is2 ni2 os2 no2).length) c_ub21], .own (.slice A_ua21 ((cfA es2 m2 N2 is2 ni2 os2 no2).length) c_ua21) 3 1 ((cfA es2 m2 N2 is2 ni2 os2 no2).length) (ints (cfA es2 m2 N2 is2 ni2 os2 no2)), .own (.slice A_ub21 ((cfL es2 m2 N2 is2 ni2 os2 no2).length) c_ub21) 3 1 ((cfL es2 m2 N2 is2 ni2 os2 no2).length) (ints (cfL es2 m2 N2 is2 ni2 os2 no2)), .blk b5 29 [.slice A_vx21 aa2 c_vx21, .slice A_vy21 bb2 c_vy21], .blk b4 26 [.int .i64 (((N2 : Nat) : Int)), .slice A_ve21 m2 c_ve21, .slice A_vi21 ni2 c_vi21, .slice A_vo21 no2 c_vo21], .own (.slice A_ve21 m2 c_ve21) 80 2 m2 (ints es2), .own (.slice A_vi21 ni2 c_vi21) 3 1 ni2 (ints is2), .own (.slice A_vo21 no2 c_vo21) 3 1 no2 (ints os2), .own (.slice A_vx21 aa2 c_vx21) 3 1 aa2 (ints nx2), .own (.slice A_vy21 bb2 c_vy21) 3 1 bb2 (ints ly2), .blk b3 29 [.slice A_uc11 ((cfA es m N is ni os no).length) c_uc11, .slice A_ud11 ((cfL es m N is ni os no).length) c_ud11], .own (.slice A_uc11 ((cfA es m N is ni os no).length) c_uc11) 3 1 ((cfA es m N is ni os no).length) (ints (cfA es m N is ni os no)), .own (.slice A_ud11 ((cfL es m N is ni os no).length) c_ud11) 3 1 ((cfL es m N is ni os no).length) (ints (cfL es m N is ni os no)), .blk b2 29 [.slice A_ua11 ((cfA es m N is ni os no).length) c_ua11, .slice A_ub11 ((cfL es m N is ni os no).length) c_ub11], .own (.slice A_ua11 ((cfA es m N is ni os no).length) c_ua11) 3 1 ((cfA es m N is ni os no).length) (ints (cfA es m N is ni os no)), .own (.slice A_ub11 ((cfL es m N is ni os no).length) c_ub11) 3 1 ((cfL es m N is ni os no).length) (ints (cfL es m N is ni os no)), .blk b1 26 [.int .i64 (((N : Nat) : Int)), .slice A_ve1 m c_ve1, .slice A_vi1 ni c_vi1, .slice A_vo1 no c_vo1], .own (.slice A_ve1 m c_ve1) 80 2 m (ints es), .own (.slice A_vi1 ni c_vi1) 3 1 ni (ints is), .own (.slice A_vo1 no c_vo1) 3 1 no (ints os)]
     refine Run.p (.tuple #[.agg #[us1, us2], .bool true]) rfl rfl ?_
     refine Run.p (.agg #[us1, us2]) rfl rfl ?_
     refine Run.p (.bool true) rfl rfl ?_
     refine Run.step rfl (OpStep.alloc (zs := [.slice none 0 0, .slice none 0 0]) Tzero_38 fun b7 => ?_)
     refine Run.formOwn (.tail _ (List.Mem.head _)) (fun A_us11 c_us11 hv hcapc_us11 hmaxc_us11 => ?_) (fun _ _ _ => ⟨nofun, nofun, nofun⟩)
     subst hv
     refine Run.formOwn (.tail _ (.tail _ (List.Mem.head _))) (fun A_us21 c_us21 hv hcapc_us21 hmaxc_us21 => ?_) (fun _ _ _ => ⟨nofun, nofun, nofun⟩)
     subst hv
     refine Run.step rfl (OpStep.storeAll (us := [.slice A_us11 N c_us11, .slice A_us21 N c_us21]) Tsize_38 rfl rfl rfl (.here _) rfl ?_)
     refine Run.p (.bool true) rfl rfl ?_
     refine Run.dsr ?_
     refine Run.y (.agg #[.int .i64 (((N : Nat) : Int)), .slice A_ve1 m c_ve1, .slice A_vi1 ni c_vi1, .slice A_vo1 no c_vo1]) rfl (OpY.loadN (cs := [.int .i64 (((N : Nat) : Int)), .slice A_ve1 m c_ve1, .slice A_vi1 ni c_vi1, .slice A_vo1 no c_vo1]) Tagg_26 rfl (Cells.blk (.tail _ (.tail _ (.tail _ (.tail _ (.tail _ (.tail _ (.tail _ (.tail _ (.tail _ (.tail _ (.tail _ (.tail _ (.tail _ (.tail _ (.tail _ (.tail _ (.tail _ (.tail _ (.tail _ (List.Mem.head _)))))))))))))))))))) ⟨rfl, rfl, rfl, rfl, trivial⟩)) ?_
     refine Run.y (.agg #[.slice A_us11 N c_us11, .slice A_us21 N c_us21]) rfl (OpY.loadN (cs := [.slice A_us11 N c_us11, .slice A_us21 N c_us21]) Tagg_38 rfl (Cells.blk (.head _) ⟨rfl, rfl, trivial⟩)) ?_
     refine Run.q (v := .tuple #[.bool true, .bool true]) rfl (OpQ.call (vs := [.agg #[.int .i64 (((N : Nat) : Int)), .slice A_ve1 m c_ve1, .slice A_vi1 ni c_vi1, .slice A_vo1 no c_vo1], .agg #[.slice A_us11 N c_us11, .slice A_us21 N c_us21]]) (caps := []) Tcall_13 rfl rfl (fun w hs => (by have h := IsGFlow_spec (n := N) (by omega) (hs.slOwn (.tail _ (.tail _ (.tail _ (.tail _ (.tail _ (.tail _ (.tail _ (.tail _ (.tail _ (.tail _ (.tail _ (.tail _ (.tail _ (.tail _ (.tail _ (.tail _ (.tail _ (.tail _ (.tail _ (.tail _ (List.Mem.head _)))))))))))))))))))))) (hs.slOwn (.tail _ (.tail _ (.tail _ (.tail _ (.tail _ (.tail _ (.tail _ (.tail _ (.tail _ (.tail _ (.tail _ (.tail _ (.tail _ (.tail _ (.tail _ (.tail _ (.tail _ (.tail _ (.tail _ (.tail _ (.tail _ (List.Mem.head _))))))))))))))))))))))) (hs.slOwn (.tail _ (.tail _ (.tail _ (.tail _ (.tail _ (.tail _ (.tail _ (.tail _ (.tail _ (.tail _ (.tail _ (.tail _ (.tail _ (.tail _ (.tail _ (.tail _ (.tail _ (.tail _ (.tail _ (.tail _ (.tail _ (.tail _ (List.Mem.head _)))))))))))))))))))))))) (hs.slOwn (.tail _ (List.Mem.head _))) (hs.slOwn (.tail _ (.tail _ (List.Mem.head _)))); rw [hok.hg, hok.gf] at h; exact h))) ?_
     refine Run.p (.tuple #[.bool true, .bool true]) rfl rfl ?_
     refine Run.p (.bool true) rfl rfl ?_
     refine Run.p (.bool true) rfl rfl ?_
     refine Run.p (.bool true) rfl rfl ?_
     refine Run.p (.bool true) rfl rfl ?_
     refine Run.dsr ?_
     refine Run.y (.agg #[.int .i64 (((N : Nat) : Int)), .slice A_ve1 m c_ve1, .slice A_vi1 ni c_vi1, .slice A_vo1 no c_vo1]) rfl (OpY.loadN (cs := [.int .i64 (((N : Nat) : Int)), .slice A_ve1 m c_ve1, .slice A_vi1 ni c_vi1, .slice A_vo1 no c_vo1]) Tagg_26 rfl (Cells.blk (.tail _ (.tail _ (.tail _ (.tail _ (.tail _ (.tail _ (.tail _ (.tail _ (.tail _ (.tail _ (.tail _ (.tail _ (.tail _ (.tail _ (.tail _ (.tail _ (.tail _ (.tail _ (.tail _ (List.Mem.head _)))))))))))))))))))) ⟨rfl, rfl, rfl, rfl, trivial⟩)) ?_
     refine Run.step rfl (OpStep.call (vs := [.agg #[.int .i64 (((N : Nat) : Int)), .slice A_ve1 m c_ve1, .slice A_vi1 ni c_vi1, .slice A_vo1 no c_vo1]]) (caps := []) Tcall_14 rfl rfl (fun w hs => (by have h := GFlowOf_spec (n := N) (by omega) (hs.slOwn (.tail _ (.tail _ (.tail _ (.tail _ (.tail _ (.tail _ (.tail _ (.tail _ (.tail _ (.tail _ (.tail _ (.tail _ (.tail _ (.tail _ (.tail _ (.tail _ (.tail _ (.tail _ (.tail _ (.tail _ (List.Mem.head _)))))))))))))))))))))) (hs.slOwn (.tail _ (.tail _ (.tail _ (.tail _ (.tail _ (.tail _ (.tail _ (.tail _ (.tail _ (.tail _ (.tail _ (.tail _ (.tail _ (.tail _ (.tail _ (.tail _ (.tail _ (.tail _ (.tail _ (.tail _ (.tail _ (List.Mem.head _))))))))))))))))))))))) (hs.slOwn (.tail _ (.tail _ (.tail _ (.tail _ (.tail _ (.tail _ (.tail _ (.tail _ (.tail _ (.tail _ (.tail _ (.tail _ (.tail _ (.tail _ (.tail _ (.tail _ (.tail _ (.tail _ (.tail _ (.tail _ (.tail _ (.tail _ (List.Mem.head _)))))))))))))))))))))))); rw [hok.ge] at h; exact h)) ?_)
     rintro _ _ ⟨ug1, ug2, rfl, rfl⟩
     show Run _ _ (putF _ _ _ (.tuple #[.agg #[ug1, ug2], .bool true])) [.own ug1 3 1 ((gfA es m N is ni os no).length) (ints (gfA es m N is ni os no)), .own ug2 3 1 ((gfL es m N is ni os no).length) (ints (gfL es m N is ni os no)), .blk b7 38 [.slice A_us11 N c_us11, .slice A_us21 N c_us21], .own (.slice A_us11 N c_us11) 3 1 N (ints (setsL (cfA es m N is ni os no) N)), .own (.slice A_us21 N c_us21) 3 1 N (ints (cfL es m N is ni os no)), .blk b6 29 [.slice A_ua21 ((cfA es2 m2 N2 is2 ni2 os2 no2).length) c_ua21, .slice A_ub21 ((cfL es2 m2 N2 is2 ni2 os2 no2).length) c_ub21], .own (.slice A_ua21 ((cfA es2 m2 N2 is2 ni2 os2 no2).length) c_ua21) 3 1 ((cfA es2 m2 N2 is2 ni2 os2 no2).length) (ints (cfA es2 m2 N2 is2 ni2 os2 no2)), .own (.slice A_ub21 ((cfL es2 m2 N2 is2 ni2 os2 no2).length) c_ub21) 3 1 ((cfL es2 m2 N2 is2 ni2 os2 no2).length) (ints (cfL es2 m2 N2 is2 ni2 os2 no2)), .blk b5 29 [.slice A_vx21 aa2 c_vx21, .slice A_vy21 bb2 c_vy21], .blk b4 26 [.int .i64 (((N2 : Nat) : Int)), .slice A_ve21 m2 c_ve21, .slice A_vi21 ni2 c_vi21, .slice A_vo21 no2 c_vo21], .own (.slice A_ve21 m2 c_ve21) 80 2 m2 (ints es2), .own (.slice A_vi21 ni2 c_vi21) 3 1 ni2 (ints is2), .own (.slice A_vo21 no2 c_vo21) 3 1 no2 (ints os2), .own (.slice A_vx21 aa2 c_vx21) 3 1 aa2 (ints nx2), .own (.slice A_vy21 bb2 c_vy21) 3 1 bb2 (ints ly2), .blk b3 29 [.slice A_uc11 ((cfA es m N is ni os no).length) c_uc11, .slice A_ud11 ((cfL es m N is ni os no).length) c_ud11], .own (.slice A_uc11 ((cfA es m N is ni os no).length) c_uc11) 3 1 ((cfA es m N is ni os no).length) (ints (cfA es m N is ni os no)), .own (.slice A_ud11 ((cfL es m N is ni os no).length) c_ud11) 3 1 ((cfL es m N is ni os no).length) (ints (cfL es m N is ni os no)), .blk b2 29 [.slice A_ua11 ((cfA es m N is ni os no).length) c_ua11, .slice A_ub11 ((cfL es m N is ni os no).length) c_ub11], .own (.slice A_ua11 ((cfA es m N is ni os no).length) c_ua11) 3 1 ((cfA es m N is ni os no).length) (ints (cfA es m N is ni os no)), .own (.slice A_ub11 ((cfL es m N is ni os no).length) c_ub11) 3 1 ((cfL es m N is ni os no).length) (ints (cfL es m N is ni os no)), .blk b1 26 [.int .i64 (((N : Nat) : Int)), .slice A_ve1 m c_ve1, .slice A_vi1 ni c_vi1, .slice A_vo1 no c_vo1], .own (.slice A_ve1 m c_ve1) 80 2 m (ints es), .own (.slice A_vi1 ni c_vi1) 3 1 ni (ints is), .own (.slice A_vo1 no c_vo1) 3 1 no (ints os)]
     refine Run.p (.tuple #[.agg #[ug1, ug2], .bool true]) rfl rfl ?_
     refine Run.p (.agg #[ug1, ug2]) rfl rfl ?_
     refine Run.p (.bool true) rfl rfl ?_
     refine Run.step rfl (OpStep.alloc (zs := [.slice none 0 0, .slice none 0 0]) Tzero_38 fun b8 => ?_)
     refine Run.formOwn (.tail _ (List.Mem.head _)) (fun A_ug11 c_ug11 hv hcapc_ug11 hmaxc_ug11 => ?_) (fun _ _ _ => ⟨nofun, nofun, nofun⟩)
     subst hv
     refine Run.formOwn (.tail _ (.tail _ (List.Mem.head _))) (fun A_ug21 c_ug21 hv hcapc_ug21 hmaxc_ug21 => ?_) (fun _ _ _ => ⟨nofun, nofun, nofun⟩)
     subst hv
     refine Run.step rfl (OpStep.storeAll (us := [.slice A_ug11 ((gfA es m N is ni os no).length) c_ug11, .slice A_ug21 ((gfL es m N is ni os no).length) c_ug21]) Tsize_38 rfl rfl rfl (.here _) rfl ?_)
     refine Run.p (.bool true) rfl rfl ?_
     refine Run.dsr ?_
     refine Run.y (.agg #[.int .i64 (((N : Nat) : Int)), .slice A_ve1 m c_ve1, .slice A_vi1 ni c_vi1, .slice A_vo1 no c_vo1]) rfl (OpY.loadN (cs := [.int .i64 (((N : Nat) : Int)), .slice A_ve1 m c_ve1, .slice A_vi1 ni c_vi1, .slice A_vo1 no c_vo1]) Tagg_26 rfl (Cells.blk (.tail _ (.tail _ (.tail _ (.tail _ (.tail _ (.tail _ (.tail _ (.tail _ (.tail _ (.tail _ (.tail _ (.tail _ (.tail _ (.tail _ (.tail _ (.tail _ (.tail _ (.tail _ (.tail _ (.tail _ (.tail _ (.tail _ (List.Mem.head _))))))))))))))))))))))) ⟨rfl, rfl, rfl, rfl, trivial⟩)) ?_
     refine Run.y (.agg #[.slice A_ua11 ((cfA es m N is ni os no).length) c_ua11, .slice A_ub11 ((cfL es m N is ni os no).length) c_ub11]) rfl (OpY.loadN (cs := [.slice A_ua11 ((cfA es m N is ni os no).length) c_ua11, .slice A_ub11 ((cfL es m N is ni os no).length) c_ub11]) Tagg_29 rfl (Cells.blk (.tail _ (.tail _ (.tail _ (.tail _ (.tail _ (.tail _ (.tail _ (.tail _ (.tail _ (.tail _ (.tail _ (.tail _ (.tail _ (.tail _ (.tail _ (.tail _ (.tail _ (.tail _ (.tail _ (List.Mem.head _)))))))))))))))))))) ⟨rfl, rfl, trivial⟩)) ?_
     refine Run.step rfl (OpStep.call (vs := [.agg #[.int .i64 (((N : Nat) : Int)), .slice A_ve1 m c_ve1, .slice A_vi1 ni c_vi1, .slice A_vo1 no c_vo1], .agg #[.slice A_ua11 ((cfA es m N is ni os no).length) c_ua11, .slice A_ub11 ((cfL es m N is ni os no).length) c_ub11]]) (caps := []) Tcall_15 rfl rfl (fun w hs => ChainsOf_spec hok.hg hok.fl (hs.slOwn (.tail _ (.tail _ (.tail _ (.tail _ (.tail _ (.tail _ (.tail _ (.tail _ (.tail _ (.tail _ (.tail _ (.tail _ (.tail _ (.tail _ (.tail _ (.tail _ (.tail _ (.tail _ (.tail _ (.tail _ (.tail _ (.tail _ (.tail _ (List.Mem.head _))))))))))))))))))))))))) (hs.slOwn (.tail _ (.tail _ (.tail _ (.tail _ (.tail _ (.tail _ (.tail _ (.tail _ (.tail _ (.tail _ (.tail _ (.tail _ (.tail _ (.tail _ (.tail _ (.tail _ (.tail _ (.tail _ (.tail _ (.tail _ (.tail _ (.tail _ (.tail _ (.tail _ (List.Mem.head _)))))))))))))))))))))))))) (hs.slOwn (.tail _ (.tail _ (.tail _ (.tail _ (.tail _ (.tail _ (.tail _ (.tail _ (.tail _ (.tail _ (.tail _ (.tail _ (.tail _ (.tail _ (.tail _ (.tail _ (.tail _ (.tail _ (.tail _ (.tail _ (.tail _ (.tail _ (.tail _ (.tail _ (.tail _ (List.Mem.head _))))))))))))))))))))))))))) (Sl.as (hs.slOwn (.tail _ (.tail _ (.tail _ (.tail _ (.tail _ (.tail _ (.tail _ (.tail _ (.tail _ (.tail _ (.tail _ (.tail _ (.tail _ (.tail _ (.tail _ (.tail _ (.tail _ (.tail _ (.tail _ (.tail _ (List.Mem.head _)))))))))))))))))))))) hok.la) (Sl.as (hs.slOwn (.tail _ (.tail _ (.tail _ (.tail _ (.tail _ (.tail _ (.tail _ (.tail _ (.tail _ (.tail _ (.tail _ (.tail _ (.tail _ (.tail _ (.tail _ (.tail _ (.tail _ (.tail _ (.tail _ (.tail _ (.tail _ (List.Mem.head _))))))))))))))))))))))) hok.ll) hok.nx) ?_)
     rintro _ _ ⟨vq, ps, hps, rfl, rfl⟩
     show Run _ _ (putF _ _ _ (.tuple #[vq, .bool true])) [.own vq 24 1 (ps.length) (oc ps), .grp 3 1 (gl ps), .blk b8 38 [.slice A_ug11 ((gfA es m N is ni os no).length) c_ug11, .slice A_ug21 ((gfL es m N is ni os no).length) c_ug21], .own (.slice A_ug11 ((gfA es m N is ni os no).length) c_ug11) 3 1 ((gfA es m N is ni os no).length) (ints (gfA es m N is ni os no)), .own (.slice A_ug21 ((gfL es m N is ni os no).length) c_ug21) 3 1 ((gfL es m N is ni os no).length) (ints (gfL es m N is ni os no)), .blk b7 38 [.slice A_us11 N c_us11, .slice A_us21 N c_us21], .own (.slice A_us11 N c_us11) 3 1 N (ints (setsL (cfA es m N is ni os no) N)), .own (.slice A_us21 N c_us21) 3 1 N (ints (cfL es m N is ni os no)), .blk b6 29 [.slice A_ua21 ((cfA es2 m2 N2 is2 ni2 os2 no2).length) c_ua21, .slice A_ub21 ((cfL es2 m2 N2 is2 ni2 os2 no2).length) c_ub21], .own (.slice A_ua21 ((cfA es2 m2 N2 is2 ni2 os2 no2).length) c_ua21) 3 1 ((cfA es2 m2 N2 is2 ni2 os2 no2).length) (ints (cfA es2 m2 N2 is2 ni2 os2 no2)), .own (.slice A_ub21 ((cfL es2 m2 N2 is2 ni2 os2 no2).length) c_ub21) 3 1 ((cfL es2 m2 N2 is2 ni2 os2 no2).length) (ints (cfL es2 m2 N2 is2 ni2 os2 no2)), .blk b5 29 [.slice A_vx21 aa2 c_vx21, .slice A_vy21 bb2 c_vy21], .blk b4 26 [.int .i64 (((N2 : Nat) : Int)), .slice A_ve21 m2 c_ve21, .slice A_vi21 ni2 c_vi21, .slice A_vo21 no2 c_vo21], .own (.slice A_ve21 m2 c_ve21) 80 2 m2 (ints es2), .own (.slice A_vi21 ni2 c_vi21) 3 1 ni2 (ints is2), .own (.slice A_vo21 no2 c_vo21) 3 1 no2 (ints os2), .own (.slice A_vx21 aa2 c_vx21) 3 1 aa2 (ints nx2), .own (.slice A_vy21 bb2 c_vy21) 3 1 bb2 (ints ly2), .blk b3 29 [.slice A_uc11 ((cfA es m N is ni os no).length) c_uc11, .slice A_ud11 ((cfL es m N is ni os no).length) c_ud11], .own (.slice A_uc11 ((cfA es m N is ni os no).length) c_uc11) 3 1 ((cfA es m N is ni os no).length) (ints (cfA es m N is ni os no)), .own (.slice A_ud11 ((cfL es m N is ni os no).length) c_ud11) 3 1 ((cfL es m N is ni os no).length) (ints (cfL es m N is ni os no)), .blk b2 29 [.slice A_ua11 ((cfA es m N is ni os no).length) c_ua11, .slice A_ub11 ((cfL es m N is ni os no).length) c_ub11], .own (.slice A_ua11 ((cfA es m N is ni os no).length) c_ua11) 3 1 ((cfA es m N is ni os no).length) (ints (cfA es m N is ni os no)), .own (.slice A_ub11 ((cfL es m N is ni os no).length) c_ub11) 3 1 ((cfL es m N is ni os no).length) (ints (cfL es m N is ni os no)), .blk b1 26 [.int .i64 (((N : Nat) : Int)), .slice A_ve1 m c_ve1, .slice A_vi1 ni c_vi1, .slice A_vo1 no c_vo1], .own (.slice A_ve1 m c_ve1) 80 2 m (ints es), .own (.slice A_vi1 ni c_vi1) 3 1 ni (ints is), .own (.slice A_vo1 no c_vo1) 3 1 no (ints os)]
     refine Run.p (.tuple #[vq, .bool true]) rfl rfl ?_
     refine Run.p (vq) rfl rfl ?_
     refine Run.p (.bool true) rfl rfl ?_
     refine Run.p (vq) rfl rfl ?_
     refine Run.p (.bool true) rfl rfl ?_
     refine Run.done ?_
     have hpl : ps.length = no := by
      have h := congrArg List.length hps
      rw [List.length_map, hok.ln] at h; exact h
     have hrl := ris_le hro
     have hch : ∀ k, k < ps.length → 0 < (lx ps k).length ∧ (lx ps k).length ≤ 102 ∧ ∀ j, j < (lx ps k).length → 0 ≤ ix (lx ps k) j ∧ ix (lx ps k) j < N := fun k hk => chain_at hok.nx (by rw [← hps]; exact List.mem_map.2 ⟨_, px_eq hk, rfl⟩)
     have hcl : ∀ k c, c ∈ (ps.map (·.2)).take k → c.length ≤ 102 := fun k c hc => (chain_at hok.nx (by rw [← hps]; exact List.mem_of_mem_take hc)).2.1
     refine Run.sr ?_
     refine Run.y (.pointer (some ⟨b1, 0, none⟩)) rfl (OpY.fieldAddr Tfo_26_0 rfl rfl) ?_
     refine Run.y (.int .i64 (((N : Nat) : Int))) rfl (OpY.load1 Tone_3 rfl (Cells.blk (.tail _ (.tail _ (.tail _ (.tail _ (.tail _ (.tail _ (.tail _ (.tail _ (.tail _ (.tail _ (.tail _ (.tail _ (.tail _ (.tail _ (.tail _ (.tail _ (.tail _ (.tail _ (.tail _ (.tail _ (.tail _ (.tail _ (.tail _ (.tail _ (List.Mem.head _))))))))))))))))))))))))) ⟨rfl, trivial⟩)) ?_
     refine Run.step rfl (OpStep.makeSlice (n := N) Tsl_24 rfl (by decide) (by first | rfl | omega) (by first | rfl | omega) (by omega) (by simp only [maxLen]; omega) fun b9 => ?_)
     refine Run.p (.slice (some ⟨b9, 0, none⟩) N N) rfl rfl ?_
     refine Run.done ?_
     refine Run.seq ?_
     refine Run.sr ?_
     refine Run.p (vq) rfl rfl ?_
     refine Run.formOwn (.tail _ (List.Mem.head _)) (fun A_vq1 c_vq1 hv hcapc_vq1 hmaxc_vq1 => ?_) (fun _ _ _ => ⟨nofun, nofun, nofun⟩)
     subst hv
     refine Run.y (.int .i64 (((ps.length : Nat) : Int))) rfl (OpY.len Tsl_43 rfl) ?_
     refine Run.p (.int .i64 0) rfl rfl ?_
     refine Run.done ?_
     refine Run.block ?_
     refine Run.loop (ι := Nat) [4, 30, 32, 143, 144, 145, 146, 147, 148, 149, 150, 151, 152, 153, 154, 155, 156, 157, 158, 159, 160, 161, 162, 163, 164, 165, 166, 167, 168] (fun k => [(143, .int .i64 (((k : Nat) : Int)))]) (fun k => [.own (.slice (some ⟨b9, 0, none⟩) N N) 3 1 N (ints (metL ((ps.map (·.2)).take k) [] N)), .own (.slice A_vq1 (ps.length) c_vq1) 24 1 (ps.length) (oc ps), .grp 3 1 (gl ps), .blk b8 38 [.slice A_ug11 ((gfA es m N is ni os no).length) c_ug11, .slice A_ug21 ((gfL es m N is ni os no).length) c_ug21], .own (.slice A_ug11 ((gfA es m N is ni os no).length) c_ug11) 3 1 ((gfA es m N is ni os no).length) (ints (gfA es m N is ni os no)), .own (.slice A_ug21 ((gfL es m N is ni os no).length) c_ug21) 3 1 ((gfL es m N is ni os no).length) (ints (gfL es m N is ni os no)), .blk b7 38 [.slice A_us11 N c_us11, .slice A_us21 N c_us21], .own (.slice A_us11 N c_us11) 3 1 N (ints (setsL (cfA es m N is ni os no) N)), .own (.slice A_us21 N c_us21) 3 1 N (ints (cfL es m N is ni os no)), .blk b6 29 [.slice A_ua21 ((cfA es2 m2 N2 is2 ni2 os2 no2).length) c_ua21, .slice A_ub21 ((cfL es2 m2 N2 is2 ni2 os2 no2).length) c_ub21], .own (.slice A_ua21 ((cfA es2 m2 N2 is2 ni2 os2 no2).length) c_ua21) 3 1 ((cfA es2 m2 N2 is2 ni2 os2 no2).length) (ints (cfA es2 m2 N2 is2 ni2 os2 no2)), .own (.slice A_ub21 ((cfL es2 m2 N2 is2 ni2 os2 no2).length) c_ub21) 3 1 ((cfL es2 m2 N2 is2 ni2 os2 no2).length) (ints (cfL es2 m2 N2 is2 ni2 os2 no2)), .blk b5 29 [.slice A_vx21 aa2 c_vx21, .slice A_vy21 bb2 c_vy21], .blk b4 26 [.int .i64 (((N2 : Nat) : Int)), .slice A_ve21 m2 c_ve21, .slice A_vi21 ni2 c_vi21, .slice A_vo21 no2 c_vo21], .own (.slice A_ve21 m2 c_ve21) 80 2 m2 (ints es2), .own (.slice A_vi21 ni2 c_vi21) 3 1 ni2 (ints is2), .own (.slice A_vo21 no2 c_vo21) 3 1 no2 (ints os2), .own (.slice A_vx21 aa2 c_vx21) 3 1 aa2 (ints nx2), .own (.slice A_vy21 bb2 c_vy21) 3 1 bb2 (ints ly2), .blk b3 29 [.slice A_uc11 ((cfA es m N is ni os no).length) c_uc11, .slice A_ud11 ((cfL es m N is ni os no).length) c_ud11], .own (.slice A_uc11 ((cfA es m N is ni os no).length) c_uc11) 3 1 ((cfA es m N is ni os no).length) (ints (cfA es m N is ni os no)), .own (.slice A_ud11 ((cfL es m N is ni os no).length) c_ud11) 3 1 ((cfL es m N is ni os no).length) (ints (cfL es m N is ni os no)), .blk b2 29 [.slice A_ua11 ((cfA es m N is ni os no).length) c_ua11, .slice A_ub11 ((cfL es m N is ni os no).length) c_ub11], .own (.slice A_ua11 ((cfA es m N is ni os no).length) c_ua11) 3 1 ((cfA es m N is ni os no).length) (ints (cfA es m N is ni os no)), .own (.slice A_ub11 ((cfL es m N is ni os no).length) c_ub11) 3 1 ((cfL es m N is ni os no).length) (ints (cfL es m N is ni os no)), .blk b1 26 [.int .i64 (((N : Nat) : Int)), .slice A_ve1 m c_ve1, .slice A_vi1 ni c_vi1, .slice A_vo1 no c_vo1], .own (.slice A_ve1 m c_ve1) 80 2 m (ints es), .own (.slice A_vi1 ni c_vi1) 3 1 ni (ints is), .own (.slice A_vo1 no c_vo1) 3 1 no (ints os)]) (fun k => k ≤ ps.length) (fun k => ps.length - k) 0 ?_ ?_ ?_ ?_
     ·exact Nat.zero_le _
     ·exact ⟨rfl, trivial⟩
     ·exact ((Weak.refl _).trans (Some'.weak (.takeEq (by first | (rw [hend]) | (rw [List.take_zero, metL_zero]; simp [ints]; done) | rfl) (.take (.take (.take (.take (.take (.take (.take (.take (.take (.take (.take (.take (.take (.take (.take (.take (.take (.take (.take (.take (.take (.take (.take (.take (.take (.take (.take (.take (.nil _))))))))))))))))))))))))))))))))
     ·rintro k fr hinv
      show Run _ _ (over _ _ [(143, .int .i64 (((k : Nat) : Int)))] fr) [.own (.slice (some ⟨b9, 0, none⟩) N N) 3 1 N (ints (metL ((ps.map (·.2)).take k) [] N)), .own (.slice A_vq1 (ps.length) c_vq1) 24 1 (ps.length) (oc ps), .grp 3 1 (gl ps), .blk b8 38 [.slice A_ug11 ((gfA es m N is ni os no).length) c_ug11, .slice A_ug21 ((gfL es m N is ni os no).length) c_ug21], .own (.slice A_ug11 ((gfA es m N is ni os no).length) c_ug11) 3 1 ((gfA es m N is ni os no).length) (ints (gfA es m N is ni os no)), .own (.slice A_ug21 ((gfL es m N is ni os no).length) c_ug21) 3 1 ((gfL es m N is ni os no).length) (ints (gfL es m N is ni os no)), .blk b7 38 [.slice A_us11 N c_us11, .slice A_us21 N c_us21], .own (.slice A_us11 N c_us11) 3 1 N (ints (setsL (cfA es m N is ni os no) N)), .own (.slice A_us21 N c_us21) 3 1 N (ints (cfL es m N is ni os no)), .blk b6 29 [.slice A_ua21 ((cfA es2 m2 N2 is2 ni2 os2 no2).length) c_ua21, .slice A_ub21 ((cfL es2 m2 N2 is2 ni2 os2 no2).length) c_ub21], .own (.slice A_ua21 ((cfA es2 m2 N2 is2 ni2 os2 no2).length) c_ua21) 3 1 ((cfA es2 m2 N2 is2 ni2 os2 no2).length) (ints (cfA es2 m2 N2 is2 ni2 os2 no2)), .own (.slice A_ub21 ((cfL es2 m2 N2 is2 ni2 os2 no2).length) c_ub21) 3 1 ((cfL es2 m2 N2 is2 ni2 os2 no2).length) (ints (cfL es2 m2 N2 is2 ni2 os2 no2)), .blk b5 29 [.slice A_vx21 aa2 c_vx21, .slice A_vy21 bb2 c_vy21], .blk b4 26 [.int .i64 (((N2 : Nat) : Int)), .slice A_ve21 m2 c_ve21, .slice A_vi21 ni2 c_vi21, .slice A_vo21 no2 c_vo21], .own (.slice A_ve21 m2 c_ve21) 80 2 m2 (ints es2), .own (.slice A_vi21 ni2 c_vi21) 3 1 ni2 (ints is2), .own (.slice A_vo21 no2 c_vo21) 3 1 no2 (ints os2), .own (.slice A_vx21 aa2 c_vx21) 3 1 aa2 (ints nx2), .own (.slice A_vy21 bb2 c_vy21) 3 1 bb2 (ints ly2), .blk b3 29 [.slice A_uc11 ((cfA es m N is ni os no).length) c_uc11, .slice A_ud11 ((cfL es m N is ni os no).length) c_ud11], .own (.slice A_uc11 ((cfA es m N is ni os no).length) c_uc11) 3 1 ((cfA es m N is ni os no).length) (ints (cfA es m N is ni os no)), .own (.slice A_ud11 ((cfL es m N is ni os no).length) c_ud11) 3 1 ((cfL es m N is ni os no).length) (ints (cfL es m N is ni os no)), .blk b2 29 [.slice A_ua11 ((cfA es m N is ni os no).length) c_ua11, .slice A_ub11 ((cfL es m N is ni os no).length) c_ub11], .own (.slice A_ua11 ((cfA es m N is ni os no).length) c_ua11) 3 1 ((cfA es m N is ni os no).length) (ints (cfA es m N is ni os no)), .own (.slice A_ub11 ((cfL es m N is ni os no).length) c_ub11) 3 1 ((cfL es m N is ni os no).length) (ints (cfL es m N is ni os no)), .blk b1 26 [.int .i64 (((N : Nat) : Int)), .slice A_ve1 m c_ve1, .slice A_vi1 ni c_vi1, .slice A_vo1 no c_vo1], .own (.slice A_ve1 m c_ve1) 80 2 m (ints es), .own (.slice A_vi1 ni c_vi1) 3 1 ni (ints is), .own (.slice A_vo1 no c_vo1) 3 1 no (ints os)]
      try dsimp only at hinv
      refine Run.sr ?_
      refine Run.p (.bool (decide ((((k : Nat) : Int)) < (((ps.length : Nat) : Int))))) rfl rfl ?_
      refine Run.done ?_
      refine Run.seq ?_
      refine Run.cond (b := decide ((((k : Nat) : Int)) < (((ps.length : Nat) : Int)))) rfl (fun h144 => ?_) (fun h144 => ?_)
      ·have p144 := h144; try simp only [bs] at p144
       have hkp : k < ps.length := by omega
       obtain ⟨hc0, hc102, hcr⟩ := hch k hkp
       refine Run.openOwn (.tail _ (List.Mem.head _)) (by omega) (fun gq cgq hvgq hcapgq _ => ?_) (fun _ _ _ => ⟨nofun, nofun, nofun⟩)
       injection hvgq with hAgq _ hcgq; subst hAgq; subst hcgq
       refine Run.formGrp (.tail _ (.tail _ (List.Mem.head _))) (i := k) (by omega) (by omega) (fun gc cgc hvgc hcapgc _ => ?_) (fun _ _ _ => ⟨nofun, nofun, nofun⟩)
       refine Run.skip ?_
       refine Run.seq ?_
       refine Run.block ?_
       refine Run.sr ?_
       refine Run.y (.pointer (some ⟨gq, k, none⟩)) rfl (OpY.index (kk := k) Tsl_43 rfl rfl (by omega) (by omega) (by first | rfl | omega)) ?_
       refine Run.y (.slice (some ⟨gc, 0, none⟩) ((lx ps k).length) cgc) rfl (OpY.load1 Tone_24 rfl (hvgc ▸ Cells.own0 (.tail _ (List.Mem.head _)) (preO (by omega)))) ?_
       refine Run.p (.slice (some ⟨gc, 0, none⟩) ((lx ps k).length) cgc) rfl rfl ?_
       refine Run.dsr ?_
       refine Run.p (.slice (some ⟨gc, 0, none⟩) ((lx ps k).length) cgc) rfl rfl ?_
       refine Run.y (.int .i64 ((((lx ps k).length : Nat) : Int))) rfl (OpY.len Tsl_24 rfl) ?_
       refine Run.p (.int .i64 0) rfl rfl ?_
       refine Run.done ?_
       refine Run.block ?_
       refine Run.loop (ι := Nat) [4, 32, 149, 150, 151, 152, 153, 154, 155, 156, 157, 158, 159, 160, 161, 162, 163, 164, 165, 166, 167] (fun j => [(149, .int .i64 (((j : Nat) : Int)))]) (fun j => [.own (.slice (some ⟨b9, 0, none⟩) N N) 3 1 N (ints (metL ((ps.map (·.2)).take k) ((lx ps k).take j) N)), .own (.slice (some ⟨gq, 0, none⟩) (ps.length) c_vq1) 24 1 (ps.length) (oc ps), .grp 3 1 (gl ps), .blk b8 38 [.slice A_ug11 ((gfA es m N is ni os no).length) c_ug11, .slice A_ug21 ((gfL es m N is ni os no).length) c_ug21], .own (.slice A_ug11 ((gfA es m N is ni os no).length) c_ug11) 3 1 ((gfA es m N is ni os no).length) (ints (gfA es m N is ni os no)), .own (.slice A_ug21 ((gfL es m N is ni os no).length) c_ug21) 3 1 ((gfL es m N is ni os no).length) (ints (gfL es m N is ni os no)), .blk b7 38 [.slice A_us11 N c_us11, .slice A_us21 N c_us21], .own (.slice A_us11 N c_us11) 3 1 N (ints (setsL (cfA es m N is ni os no) N)), .own (.slice A_us21 N c_us21) 3 1 N (ints (cfL es m N is ni os no)), .blk b6 29 [.slice A_ua21 ((cfA es2 m2 N2 is2 ni2 os2 no2).length) c_ua21, .slice A_ub21 ((cfL es2 m2 N2 is2 ni2 os2 no2).length) c_ub21], .own (.slice A_ua21 ((cfA es2 m2 N2 is2 ni2 os2 no2).length) c_ua21) 3 1 ((cfA es2 m2 N2 is2 ni2 os2 no2).length) (ints (cfA es2 m2 N2 is2 ni2 os2 no2)), .own (.slice A_ub21 ((cfL es2 m2 N2 is2 ni2 os2 no2).length) c_ub21) 3 1 ((cfL es2 m2 N2 is2 ni2 os2 no2).length) (ints (cfL es2 m2 N2 is2 ni2 os2 no2)), .blk b5 29 [.slice A_vx21 aa2 c_vx21, .slice A_vy21 bb2 c_vy21], .blk b4 26 [.int .i64 (((N2 : Nat) : Int)), .slice A_ve21 m2 c_ve21, .slice A_vi21 ni2 c_vi21, .slice A_vo21 no2 c_vo21], .own (.slice A_ve21 m2 c_ve21) 80 2 m2 (ints es2), .own (.slice A_vi21 ni2 c_vi21) 3 1 ni2 (ints is2), .own (.slice A_vo21 no2 c_vo21) 3 1 no2 (ints os2), .own (.slice A_vx21 aa2 c_vx21) 3 1 aa2 (ints nx2), .own (.slice A_vy21 bb2 c_vy21) 3 1 bb2 (ints ly2), .blk b3 29 [.slice A_uc11 ((cfA es m N is ni os no).length) c_uc11, .slice A_ud11 ((cfL es m N is ni os no).length) c_ud11], .own (.slice A_uc11 ((cfA es m N is ni os no).length) c_uc11) 3 1 ((cfA es m N is ni os no).length) (ints (cfA es m N is ni os no)), .own (.slice A_ud11 ((cfL es m N is ni os no).length) c_ud11) 3 1 ((cfL es m N is ni os no).length) (ints (cfL es m N is ni os no)), .blk b2 29 [.slice A_ua11 ((cfA es m N is ni os no).length) c_ua11, .slice A_ub11 ((cfL es m N is ni os no).length) c_ub11], .own (.slice A_ua11 ((cfA es m N is ni os no).length) c_ua11) 3 1 ((cfA es m N is ni os no).length) (ints (cfA es m N is ni os no)), .own (.slice A_ub11 ((cfL es m N is ni os no).length) c_ub11) 3 1 ((cfL es m N is ni os no).length) (ints (cfL es m N is ni os no)), .blk b1 26 [.int .i64 (((N : Nat) : Int)), .slice A_ve1 m c_ve1, .slice A_vi1 ni c_vi1, .slice A_vo1 no c_vo1], .own (.slice A_ve1 m c_ve1) 80 2 m (ints es), .own (.slice A_vi1 ni c_vi1) 3 1 ni (ints is), .own (.slice A_vo1 no c_vo1) 3 1 no (ints os)]) (fun j => j ≤ (lx ps k).length) (fun j => (lx ps k).length - j) 0 ?_ ?_ ?_ ?_
       ·exact Nat.zero_le _
       ·exact ⟨rfl, trivial⟩
       ·exact ((Weak.refl _).trans (Some'.weak (.takeEq (by first | (rw [← hput]) | (rw [List.take_zero]) | rfl) (.take (.take (.take (.take (.take (.take (.take (.take (.take (.take (.take (.take (.take (.take (.take (.take (.take (.take (.take (.take (.take (.take (.take (.take (.take (.take (.take (.take (.nil _))))))))))))))))))))))))))))))))
       ·rintro j fr hinv
        show Run _ _ (over _ _ [(149, .int .i64 (((j : Nat) : Int)))] fr) [.own (.slice (some ⟨b9, 0, none⟩) N N) 3 1 N (ints (metL ((ps.map (·.2)).take k) ((lx ps k).take j) N)), .own (.slice (some ⟨gq, 0, none⟩) (ps.length) c_vq1) 24 1 (ps.length) (oc ps), .grp 3 1 (gl ps), .blk b8 38 [.slice A_ug11 ((gfA es m N is ni os no).length) c_ug11, .slice A_ug21 ((gfL es m N is ni os no).length) c_ug21], .own (.slice A_ug11 ((gfA es m N is ni os no).length) c_ug11) 3 1 ((gfA es m N is ni os no).length) (ints (gfA es m N is ni os no)), .own (.slice A_ug21 ((gfL es m N is ni os no).length) c_ug21) 3 1 ((gfL es m N is ni os no).length) (ints (gfL es m N is ni os no)), .blk b7 38 [.slice A_us11 N c_us11, .slice A_us21 N c_us21], .own (.slice A_us11 N c_us11) 3 1 N (ints (setsL (cfA es m N is ni os no) N)), .own (.slice A_us21 N c_us21) 3 1 N (ints (cfL es m N is ni os no)), .blk b6 29 [.slice A_ua21 ((cfA es2 m2 N2 is2 ni2 os2 no2).length) c_ua21, .slice A_ub21 ((cfL es2 m2 N2 is2 ni2 os2 no2).length) c_ub21], .own (.slice A_ua21 ((cfA es2 m2 N2 is2 ni2 os2 no2).length) c_ua21) 3 1 ((cfA es2 m2 N2 is2 ni2 os2 no2).length) (ints (cfA es2 m2 N2 is2 ni2 os2 no2)), .own (.slice A_ub21 ((cfL es2 m2 N2 is2 ni2 os2 no2).length) c_ub21) 3 1 ((cfL es2 m2 N2 is2 ni2 os2 no2).length) (ints (cfL es2 m2 N2 is2 ni2 os2 no2)), .blk b5 29 [.slice A_vx21 aa2 c_vx21, .slice A_vy21 bb2 c_vy21], .blk b4 26 [.int .i64 (((N2 : Nat) : Int)), .slice A_ve21 m2 c_ve21, .slice A_vi21 ni2 c_vi21, .slice A_vo21 no2 c_vo21], .own (.slice A_ve21 m2 c_ve21) 80 2 m2 (ints es2), .own (.slice A_vi21 ni2 c_vi21) 3 1 ni2 (ints is2), .own (.slice A_vo21 no2 c_vo21) 3 1 no2 (ints os2), .own (.slice A_vx21 aa2 c_vx21) 3 1 aa2 (ints nx2), .own (.slice A_vy21 bb2 c_vy21) 3 1 bb2 (ints ly2), .blk b3 29 [.slice A_uc11 ((cfA es m N is ni os no).length) c_uc11, .slice A_ud11 ((cfL es m N is ni os no).length) c_ud11], .own (.slice A_uc11 ((cfA es m N is ni os no).length) c_uc11) 3 1 ((cfA es m N is ni os no).length) (ints (cfA es m N is ni os no)), .own (.slice A_ud11 ((cfL es m N is ni os no).length) c_ud11) 3 1 ((cfL es m N is ni os no).length) (ints (cfL es m N is ni os no)), .blk b2 29 [.slice A_ua11 ((cfA es m N is ni os no).length) c_ua11, .slice A_ub11 ((cfL es m N is ni os no).length) c_ub11], .own (.slice A_ua11 ((cfA es m N is ni os no).length) c_ua11) 3 1 ((cfA es m N is ni os no).length) (ints (cfA es m N is ni os no)), .own (.slice A_ub11 ((cfL es m N is ni os no).length) c_ub11) 3 1 ((cfL es m N is ni os no).length) (ints (cfL es m N is ni os no)), .blk b1 26 [.int .i64 (((N : Nat) : Int)), .slice A_ve1 m c_ve1, .slice A_vi1 ni c_vi1, .slice A_vo1 no c_vo1], .own (.slice A_ve1 m c_ve1) 80 2 m (ints es), .own (.slice A_vi1 ni c_vi1) 3 1 ni (ints is), .own (.slice A_vo1 no c_vo1) 3 1 no (ints os)]
        try dsimp only at hinv
        refine Run.sr ?_
        refine Run.p (.bool (decide ((((j : Nat) : Int)) < ((((lx ps k).length : Nat) : Int))))) rfl rfl ?_
        refine Run.done ?_
        refine Run.seq ?_
        refine Run.cond (b := decide ((((j : Nat) : Int)) < ((((lx ps k).length : Nat) : Int)))) rfl (fun h150 => ?_) (fun h150 => ?_)
        ·have p150 := h150; try simp only [bs] at p150
         have hjl : j < (lx ps k).length := by omega
         have hrj := hcr j hjl
         obtain ⟨uu, huu⟩ : ∃ u : Nat, ix (lx ps k) j = (u : Int) := ⟨(ix (lx ps k) j).toNat, by omega⟩
         have huN : uu < N := by omega
         have hcn := cntF_le (uu : Int) ((ps.map (·.2)).take k) (hcl k)
         have hct : ((ps.map (·.2)).take k).length ≤ no := by rw [List.length_take, List.length_map, hpl]; exact Nat.min_le_right _ _
         have hcw := count_le_len (uu : Int) ((lx ps k).take j)
         have hcl2 : ((lx ps k).take j).length ≤ 102 := by rw [List.length_take]; omega
         have hval := ix_metL (cs := ((ps.map (·.2)).take k)) (c := ((lx ps k).take j)) huN
         have hput := metL_put (cs := ((ps.map (·.2)).take k)) (c := ((lx ps k).take j)) huN
         rw [← huu, ← take_ix hjl] at hput
         refine Run.skip ?_
         refine Run.seq ?_
         refine Run.block ?_
         refine Run.sr ?_
         refine Run.y (.pointer (some ⟨gc, j, none⟩)) rfl (OpY.index (kk := j) Tsl_24 rfl rfl (by omega) (by omega) (by first | rfl | omega)) ?_
         refine Run.y (.int .i64 (ix (lx ps k) j)) rfl (OpY.load1 Tone_3 rfl (Cells.grp (.tail _ (.tail _ (List.Mem.head _))) (i := k) (by omega) (by omega) hvgc (pre1 (by omega)))) ?_
         refine Run.p (.int .i64 (ix (lx ps k) j)) rfl rfl ?_
         refine Run.done ?_
         refine Run.seq ?_
         refine Run.sr ?_
         refine Run.p (.int .i64 (ix (lx ps k) j)) rfl rfl ?_
         refine Run.p (.bool (decide ((ix (lx ps k) j) < 0))) rfl rfl ?_
         rcases Bool.eq_false_or_eq_true (decide ((ix (lx ps k) j) < 0)) with h155 | h155
         ·refine Run.q (v := .bool true) rfl (OpQ.y (OpY.moveB rfl h155)) ?_
          have p155 := h155; try simp only [bs] at p155
          refine Run.pass rfl ?_
          refine Run.pass rfl ?_
          refine Run.pass rfl ?_
          refine Run.pass rfl ?_
          refine Run.p (.bool true) rfl rfl ?_
          refine Run.done ?_
          refine Run.cond (b := true) rfl (fun _ => ?_) (fun h => nomatch h)
          refine Run.sr ?_
          refine Run.p (.bool false) rfl rfl ?_
          refine Run.done ?_
          refine Run.ret ?_
          refine ⟨.bool false, [], Out.one rfl rfl, (Some'.weak (.nil _)), ?_⟩
          show _ = _; simp; omega
         ·refine Run.q (v := .bool false) rfl (OpQ.y (OpY.moveB rfl h155)) ?_
          have p155 := h155; try simp only [bs] at p155
          refine Run.p (.int .i64 (ix (lx ps k) j)) rfl rfl ?_
          refine Run.p (.slice (some ⟨b9, 0, none⟩) N N) rfl rfl ?_
          refine Run.y (.int .i64 (((N : Nat) : Int))) rfl (OpY.len Tsl_24 rfl) ?_
          refine Run.p (.bool (decide ((ix (lx ps k) j) ≥ (((N : Nat) : Int))))) rfl rfl ?_
          refine Run.p (.bool (decide ((ix (lx ps k) j) ≥ (((N : Nat) : Int))))) rfl rfl ?_
          refine Run.done ?_
          refine Run.cond (b := decide ((ix (lx ps k) j) ≥ (((N : Nat) : Int)))) rfl (fun h160 => ?_) (fun h160 => ?_)
          ·exact absurd h160 (by simp; omega) --DONE
          ·have p160 := h160; try simp only [bs] at p160
           refine Run.skip ?_
           refine Run.region ?_
           refine Run.p (.slice (some ⟨b9, 0, none⟩) N N) rfl rfl ?_
           refine Run.p (.int .i64 (ix (lx ps k) j)) rfl rfl ?_
           refine Run.y (.pointer (some ⟨b9, uu, none⟩)) rfl (OpY.index (kk := uu) Tsl_24 rfl rfl (by omega) (by omega) (by first | rfl | omega)) ?_
           refine Run.y (.int .i64 (ix (metL ((ps.map (·.2)).take k) ((lx ps k).take j) N) (uu))) rfl (OpY.load1 Tone_3 rfl (Cells.own0 (.head _) (pre1 (by first | omega | (rw [metL_length]; omega) | (simp; omega))))) ?_
           refine Run.y (.int .i64 (ix (metL ((ps.map (·.2)).take k) ((lx ps k).take j) N) uu + 1)) rfl (OpY.add rfl rfl (by omega) (by omega) (by omega)) ?_
           refine Run.y (.pointer (some ⟨b9, uu, none⟩)) rfl (OpY.index (kk := uu) Tsl_24 rfl rfl (by omega) (by omega) (by first | rfl | omega)) ?_
           refine Run.step rfl (OpStep.storeOwnInt (o := uu) (a := ix (metL ((ps.map (·.2)).take k) ((lx ps k).take j) N) uu + 1) Tsize_3 rfl rfl (.here _) (by first | omega | (rw [metL_length]; omega) | (simp; omega)) ?_)
           refine Run.done ?_
           refine Run.blockEnd ?_
           refine Run.region ?_
           refine Run.y (.int .i64 (((j + 1 : Nat) : Int))) rfl (OpY.add rfl rfl (by omega) (by omega) (by omega)) ?_
           refine Run.p (.int .i64 (((j + 1 : Nat) : Int))) rfl rfl ?_
           refine Run.done ?_
           refine Run.goal ⟨(by repeat (first | exact Same.refl _ _ | refine Same.put rfl ?_ | refine Same.over rfl rfl ?_)), j + 1, ?_, ?_, ?_, ?_⟩
           ·exact hjl
           ·show (lx ps k).length - (j + 1) < (lx ps k).length - j; omega
           ·exact ⟨(by first | rfl | (congr 1; omega) | simp), trivial⟩
           ·exact ((Weak.refl _).trans (Some'.weak (.takeEq (by first | (rw [← hput]) | (rw [List.take_zero]) | rfl) (.takeEq (by first | (rw [← hput]) | (rw [List.take_zero]) | rfl) (.takeEq (by first | (rw [← hput]) | (rw [List.take_zero]) | rfl) (.take (.takeEq (by first | (rw [← hput]) | (rw [List.take_zero]) | rfl) (.takeEq (by first | (rw [← hput]) | (rw [List.take_zero]) | rfl) (.take (.takeEq (by first | (rw [← hput]) | (rw [List.take_zero]) | rfl) (.takeEq (by first | (rw [← hput]) | (rw [List.take_zero]) | rfl) (.take (.takeEq (by first | (rw [← hput]) | (rw [List.take_zero]) | rfl) (.takeEq (by first | (rw [← hput]) | (rw [List.take_zero]) | rfl) (.take (.take (.takeEq (by first | (rw [← hput]) | (rw [List.take_zero]) | rfl) (.takeEq (by first | (rw [← hput]) | (rw [List.take_zero]) | rfl) (.takeEq (by first | (rw [← hput]) | (rw [List.take_zero]) | rfl) (.takeEq (by first | (rw [← hput]) | (rw [List.take_zero]) | rfl) (.takeEq (by first | (rw [← hput]) | (rw [List.take_zero]) | rfl) (.take (.takeEq (by first | (rw [← hput]) | (rw [List.take_zero]) | rfl) (.takeEq (by first | (rw [← hput]) | (rw [List.take_zero]) | rfl) (.take (.takeEq (by first | (rw [← hput]) | (rw [List.take_zero]) | rfl) (.takeEq (by first | (rw [← hput]) | (rw [List.take_zero]) | rfl) (.take (.takeEq (by first | (rw [← hput]) | (rw [List.take_zero]) | rfl) (.takeEq (by first | (rw [← hput]) | (rw [List.take_zero]) | rfl) (.takeEq (by first | (rw [← hput]) | (rw [List.take_zero]) | rfl) (.nil _))))))))))))))))))))))))))))))))
        ·have p150 := h150; try simp only [bs] at p150
         have hjl : j = (lx ps k).length := by omega
         have hend : metL ((ps.map (·.2)).take k) ((lx ps k).take j) N = metL ((ps.map (·.2)).take (k + 1)) [] N := by rw [take_lx hkp, metL_next, hjl, List.take_length]
         refine Run.exit rfl ?_
         refine Run.blockEnd ?_
         refine Run.region ?_
         refine Run.y (.int .i64 (((k + 1 : Nat) : Int))) rfl (OpY.add rfl rfl (by omega) (by omega) (by omega)) ?_
         refine Run.p (.int .i64 (((k + 1 : Nat) : Int))) rfl rfl ?_
         refine Run.done ?_
         refine Run.goal ⟨(by repeat (first | exact Same.refl _ _ | refine Same.put rfl ?_ | refine Same.over rfl rfl ?_)), k + 1, ?_, ?_, ?_, ?_⟩
         ·exact hkp
         ·show ps.length - (k + 1) < ps.length - k; omega
         ·exact ⟨(by first | rfl | (congr 1; omega) | simp), trivial⟩
         ·exact ((Weak.refl _).trans (Some'.weak (.takeEq (by first | (rw [hend]) | (rw [List.take_zero, metL_zero]; simp [ints]; done) | rfl) (.takeEq (by first | (rw [hend]) | (rw [List.take_zero, metL_zero]; simp [ints]; done) | rfl) (.takeEq (by first | (rw [hend]) | (rw [List.take_zero, metL_zero]; simp [ints]; done) | rfl) (.take (.takeEq (by first | (rw [hend]) | (rw [List.take_zero, metL_zero]; simp [ints]; done) | rfl) (.takeEq (by first | (rw [hend]) | (rw [List.take_zero, metL_zero]; simp [ints]; done) | rfl) (.take (.takeEq (by first | (rw [hend]) | (rw [List.take_zero, metL_zero]; simp [ints]; done) | rfl) (.takeEq (by first | (rw [hend]) | (rw [List.take_zero, metL_zero]; simp [ints]; done) | rfl) (.take (.takeEq (by first | (rw [hend]) | (rw [List.take_zero, metL_zero]; simp [ints]; done) | rfl) (.takeEq (by first | (rw [hend]) | (rw [List.take_zero, metL_zero]; simp [ints]; done) | rfl) (.take (.take (.takeEq (by first | (rw [hend]) | (rw [List.take_zero, metL_zero]; simp [ints]; done) | rfl) (.takeEq (by first | (rw [hend]) | (rw [List.take_zero, metL_zero]; simp [ints]; done) | rfl) (.takeEq (by first | (rw [hend]) | (rw [List.take_zero, metL_zero]; simp [ints]; done) | rfl) (.takeEq (by first | (rw [hend]) | (rw [List.take_zero, metL_zero]; simp [ints]; done) | rfl) (.takeEq (by first | (rw [hend]) | (rw [List.take_zero, metL_zero]; simp [ints]; done) | rfl) (.take (.takeEq (by first | (rw [hend]) | (rw [List.take_zero, metL_zero]; simp [ints]; done) | rfl) (.takeEq (by first | (rw [hend]) | (rw [List.take_zero, metL_zero]; simp [ints]; done) | rfl) (.take (.takeEq (by first | (rw [hend]) | (rw [List.take_zero, metL_zero]; simp [ints]; done) | rfl) (.takeEq (by first | (rw [hend]) | (rw [List.take_zero, metL_zero]; simp [ints]; done) | rfl) (.take (.takeEq (by first | (rw [hend]) | (rw [List.take_zero, metL_zero]; simp [ints]; done) | rfl) (.takeEq (by first | (rw [hend]) | (rw [List.take_zero, metL_zero]; simp [ints]; done) | rfl) (.takeEq (by first | (rw [hend]) | (rw [List.take_zero, metL_zero]; simp [ints]; done) | rfl) (.nil _))))))))))))))))))))))))))))))))
      ·have p144 := h144; try simp only [bs] at p144
       have hkp : k = ps.length := by omega
       have hall : (ps.map (·.2)).take k = chN (cfA es m N is ni os no) N N := by rw [hkp, ← hps]; exact List.take_of_length_le (by simp)
       refine Run.exit rfl ?_
       refine Run.seq ?_
       refine Run.sr ?_
       refine Run.p (.slice (some ⟨b9, 0, none⟩) N N) rfl rfl ?_
       refine Run.y (.int .i64 (((N : Nat) : Int))) rfl (OpY.len Tsl_24 rfl) ?_
       refine Run.p (.int .i64 0) rfl rfl ?_
       refine Run.done ?_
       refine Run.block ?_
       refine Run.loop (ι := Nat) [4, 34, 171, 172, 173, 174, 175, 176, 177] (fun i => [(171, .int .i64 (((i : Nat) : Int)))]) (fun i => [.own (.slice (some ⟨b9, 0, none⟩) N N) 3 1 N (ints (metL ((ps.map (·.2)).take k) [] N)), .own (.slice A_vq1 (ps.length) c_vq1) 24 1 (ps.length) (oc ps), .grp 3 1 (gl ps), .blk b8 38 [.slice A_ug11 ((gfA es m N is ni os no).length) c_ug11, .slice A_ug21 ((gfL es m N is ni os no).length) c_ug21], .own (.slice A_ug11 ((gfA es m N is ni os no).length) c_ug11) 3 1 ((gfA es m N is ni os no).length) (ints (gfA es m N is ni os no)), .own (.slice A_ug21 ((gfL es m N is ni os no).length) c_ug21) 3 1 ((gfL es m N is ni os no).length) (ints (gfL es m N is ni os no)), .blk b7 38 [.slice A_us11 N c_us11, .slice A_us21 N c_us21], .own (.slice A_us11 N c_us11) 3 1 N (ints (setsL (cfA es m N is ni os no) N)), .own (.slice A_us21 N c_us21) 3 1 N (ints (cfL es m N is ni os no)), .blk b6 29 [.slice A_ua21 ((cfA es2 m2 N2 is2 ni2 os2 no2).length) c_ua21, .slice A_ub21 ((cfL es2 m2 N2 is2 ni2 os2 no2).length) c_ub21], .own (.slice A_ua21 ((cfA es2 m2 N2 is2 ni2 os2 no2).length) c_ua21) 3 1 ((cfA es2 m2 N2 is2 ni2 os2 no2).length) (ints (cfA es2 m2 N2 is2 ni2 os2 no2)), .own (.slice A_ub21 ((cfL es2 m2 N2 is2 ni2 os2 no2).length) c_ub21) 3 1 ((cfL es2 m2 N2 is2 ni2 os2 no2).length) (ints (cfL es2 m2 N2 is2 ni2 os2 no2)), .blk b5 29 [.slice A_vx21 aa2 c_vx21, .slice A_vy21 bb2 c_vy21], .blk b4 26 [.int .i64 (((N2 : Nat) : Int)), .slice A_ve21 m2 c_ve21, .slice A_vi21 ni2 c_vi21, .slice A_vo21 no2 c_vo21], .own (.slice A_ve21 m2 c_ve21) 80 2 m2 (ints es2), .own (.slice A_vi21 ni2 c_vi21) 3 1 ni2 (ints is2), .own (.slice A_vo21 no2 c_vo21) 3 1 no2 (ints os2), .own (.slice A_vx21 aa2 c_vx21) 3 1 aa2 (ints nx2), .own (.slice A_vy21 bb2 c_vy21) 3 1 bb2 (ints ly2), .blk b3 29 [.slice A_uc11 ((cfA es m N is ni os no).length) c_uc11, .slice A_ud11 ((cfL es m N is ni os no).length) c_ud11], .own (.slice A_uc11 ((cfA es m N is ni os no).length) c_uc11) 3 1 ((cfA es m N is ni os no).length) (ints (cfA es m N is ni os no)), .own (.slice A_ud11 ((cfL es m N is ni os no).length) c_ud11) 3 1 ((cfL es m N is ni os no).length) (ints (cfL es m N is ni os no)), .blk b2 29 [.slice A_ua11 ((cfA es m N is ni os no).length) c_ua11, .slice A_ub11 ((cfL es m N is ni os no).length) c_ub11], .own (.slice A_ua11 ((cfA es m N is ni os no).length) c_ua11) 3 1 ((cfA es m N is ni os no).length) (ints (cfA es m N is ni os no)), .own (.slice A_ub11 ((cfL es m N is ni os no).length) c_ub11) 3 1 ((cfL es m N is ni os no).length) (ints (cfL es m N is ni os no)), .blk b1 26 [.int .i64 (((N : Nat) : Int)), .slice A_ve1 m c_ve1, .slice A_vi1 ni c_vi1, .slice A_vo1 no c_vo1], .own (.slice A_ve1 m c_ve1) 80 2 m (ints es), .own (.slice A_vi1 ni c_vi1) 3 1 ni (ints is), .own (.slice A_vo1 no c_vo1) 3 1 no (ints os)]) (fun i => i ≤ N) (fun i => N - i) 0 ?_ ?_ ?_ ?_
       ·exact Nat.zero_le _
       ·exact ⟨rfl, trivial⟩
       ·exact (Some'.weak (.take (.take (.take (.take (.take (.take (.take (.take (.take (.take (.take (.take (.take (.take (.take (.take (.take (.take (.take (.take (.take (.take (.take (.take (.take (.take (.take (.take (.take (.nil _)))))))))))))))))))))))))))))))
       ·rintro i fr hinv
        show Run _ _ (over _ _ [(171, .int .i64 (((i : Nat) : Int)))] fr) [.own (.slice (some ⟨b9, 0, none⟩) N N) 3 1 N (ints (metL ((ps.map (·.2)).take k) [] N)), .own (.slice A_vq1 (ps.length) c_vq1) 24 1 (ps.length) (oc ps), .grp 3 1 (gl ps), .blk b8 38 [.slice A_ug11 ((gfA es m N is ni os no).length) c_ug11, .slice A_ug21 ((gfL es m N is ni os no).length) c_ug21], .own (.slice A_ug11 ((gfA es m N is ni os no).length) c_ug11) 3 1 ((gfA es m N is ni os no).length) (ints (gfA es m N is ni os no)), .own (.slice A_ug21 ((gfL es m N is ni os no).length) c_ug21) 3 1 ((gfL es m N is ni os no).length) (ints (gfL es m N is ni os no)), .blk b7 38 [.slice A_us11 N c_us11, .slice A_us21 N c_us21], .own (.slice A_us11 N c_us11) 3 1 N (ints (setsL (cfA es m N is ni os no) N)), .own (.slice A_us21 N c_us21) 3 1 N (ints (cfL es m N is ni os no)), .blk b6 29 [.slice A_ua21 ((cfA es2 m2 N2 is2 ni2 os2 no2).length) c_ua21, .slice A_ub21 ((cfL es2 m2 N2 is2 ni2 os2 no2).length) c_ub21], .own (.slice A_ua21 ((cfA es2 m2 N2 is2 ni2 os2 no2).length) c_ua21) 3 1 ((cfA es2 m2 N2 is2 ni2 os2 no2).length) (ints (cfA es2 m2 N2 is2 ni2 os2 no2)), .own (.slice A_ub21 ((cfL es2 m2 N2 is2 ni2 os2 no2).length) c_ub21) 3 1 ((cfL es2 m2 N2 is2 ni2 os2 no2).length) (ints (cfL es2 m2 N2 is2 ni2 os2 no2)), .blk b5 29 [.slice A_vx21 aa2 c_vx21, .slice A_vy21 bb2 c_vy21], .blk b4 26 [.int .i64 (((N2 : Nat) : Int)), .slice A_ve21 m2 c_ve21, .slice A_vi21 ni2 c_vi21, .slice A_vo21 no2 c_vo21], .own (.slice A_ve21 m2 c_ve21) 80 2 m2 (ints es2), .own (.slice A_vi21 ni2 c_vi21) 3 1 ni2 (ints is2), .own (.slice A_vo21 no2 c_vo21) 3 1 no2 (ints os2), .own (.slice A_vx21 aa2 c_vx21) 3 1 aa2 (ints nx2), .own (.slice A_vy21 bb2 c_vy21) 3 1 bb2 (ints ly2), .blk b3 29 [.slice A_uc11 ((cfA es m N is ni os no).length) c_uc11, .slice A_ud11 ((cfL es m N is ni os no).length) c_ud11], .own (.slice A_uc11 ((cfA es m N is ni os no).length) c_uc11) 3 1 ((cfA es m N is ni os no).length) (ints (cfA es m N is ni os no)), .own (.slice A_ud11 ((cfL es m N is ni os no).length) c_ud11) 3 1 ((cfL es m N is ni os no).length) (ints (cfL es m N is ni os no)), .blk b2 29 [.slice A_ua11 ((cfA es m N is ni os no).length) c_ua11, .slice A_ub11 ((cfL es m N is ni os no).length) c_ub11], .own (.slice A_ua11 ((cfA es m N is ni os no).length) c_ua11) 3 1 ((cfA es m N is ni os no).length) (ints (cfA es m N is ni os no)), .own (.slice A_ub11 ((cfL es m N is ni os no).length) c_ub11) 3 1 ((cfL es m N is ni os no).length) (ints (cfL es m N is ni os no)), .blk b1 26 [.int .i64 (((N : Nat) : Int)), .slice A_ve1 m c_ve1, .slice A_vi1 ni c_vi1, .slice A_vo1 no c_vo1], .own (.slice A_ve1 m c_ve1) 80 2 m (ints es), .own (.slice A_vi1 ni c_vi1) 3 1 ni (ints is), .own (.slice A_vo1 no c_vo1) 3 1 no (ints os)]
        try dsimp only at hinv
        refine Run.sr ?_
        refine Run.p (.bool (decide ((((i : Nat) : Int)) < (((N : Nat) : Int))))) rfl rfl ?_
        refine Run.done ?_
        refine Run.seq ?_
        refine Run.cond (b := decide ((((i : Nat) : Int)) < (((N : Nat) : Int)))) rfl (fun h172 => ?_) (fun h172 => ?_)
        ·have p172 := h172; try simp only [bs] at p172
         have hiN : i < N := by omega
         have hone : ix (metL ((ps.map (·.2)).take k) [] N) i = 1 := by rw [ix_metL hiN, hall, ch_once hok.nx i hiN]; simp
         refine Run.skip ?_
         refine Run.seq ?_
         refine Run.block ?_
         refine Run.sr ?_
         refine Run.y (.pointer (some ⟨b9, i, none⟩)) rfl (OpY.index (kk := i) Tsl_24 rfl rfl (by omega) (by omega) (by first | rfl | omega)) ?_
         refine Run.y (.int .i64 (ix (metL ((ps.map (·.2)).take k) [] N) (i))) rfl (OpY.load1 Tone_3 rfl (Cells.own0 (.head _) (pre1 (by first | omega | (rw [metL_length]; omega) | (simp; omega))))) ?_
         refine Run.p (.int .i64 (ix (metL ((ps.map (·.2)).take k) [] N) (i))) rfl rfl ?_
         refine Run.dsr ?_
         refine Run.p (.int .i64 (ix (metL ((ps.map (·.2)).take k) [] N) (i))) rfl rfl ?_
         refine Run.p (.bool ((ix (metL ((ps.map (·.2)).take k) [] N) (i)) != 1)) rfl rfl ?_
         refine Run.done ?_
         refine Run.cond (b := (ix (metL ((ps.map (·.2)).take k) [] N) (i)) != 1) rfl (fun h176 => ?_) (fun h176 => ?_)
         ·exact absurd h176 (by first | (rw [hone]; decide) | (simp; omega)) --DONE
         ·have p176 := h176; try simp only [bs] at p176
          refine Run.skip ?_
          refine Run.blockEnd ?_
          refine Run.region ?_
          refine Run.y (.int .i64 (((i + 1 : Nat) : Int))) rfl (OpY.add rfl rfl (by omega) (by omega) (by omega)) ?_
          refine Run.p (.int .i64 (((i + 1 : Nat) : Int))) rfl rfl ?_
          refine Run.done ?_
          refine Run.goal ⟨(by repeat (first | exact Same.refl _ _ | refine Same.put rfl ?_ | refine Same.over rfl rfl ?_)), i + 1, ?_, ?_, ?_, ?_⟩
          ·exact hiN
          ·omega
          ·exact ⟨(by first | rfl | (congr 1; omega) | simp), trivial⟩
          ·exact (Some'.weak (.takeEq (by first | rfl | simp) (.takeEq (by first | rfl | simp) (.takeEq (by first | rfl | simp) (.take (.takeEq (by first | rfl | simp) (.takeEq (by first | rfl | simp) (.take (.takeEq (by first | rfl | simp) (.takeEq (by first | rfl | simp) (.take (.takeEq (by first | rfl | simp) (.takeEq (by first | rfl | simp) (.take (.take (.takeEq (by first | rfl | simp) (.takeEq (by first | rfl | simp) (.takeEq (by first | rfl | simp) (.takeEq (by first | rfl | simp) (.takeEq (by first | rfl | simp) (.take (.takeEq (by first | rfl | simp) (.takeEq (by first | rfl | simp) (.take (.takeEq (by first | rfl | simp) (.takeEq (by first | rfl | simp) (.take (.takeEq (by first | rfl | simp) (.takeEq (by first | rfl | simp) (.takeEq (by first | rfl | simp) (.nil _)))))))))))))))))))))))))))))))
        ·have p172 := h172; try simp only [bs] at p172
         refine Run.exit rfl ?_
         refine Run.sr ?_
         refine Run.p (.bool true) rfl rfl ?_
         refine Run.p (.bool true) rfl rfl ?_
         refine Run.p (.bool true) rfl rfl ?_
         refine Run.p (.bool true) rfl rfl ?_
         refine Run.p (.bool true) rfl rfl ?_
         refine Run.p (.bool true) rfl rfl ?_
         refine Run.p (.bool true) rfl rfl ?_
         refine Run.p (.bool true) rfl rfl ?_
         refine Run.p (.bool true) rfl rfl ?_
         refine Run.p (.bool true) rfl rfl ?_
         refine Run.p (.bool true) rfl rfl ?_
         refine Run.p (.bool true) rfl rfl ?_
         refine Run.p (.bool true) rfl rfl ?_
         refine Run.p (.bool true) rfl rfl ?_
         refine Run.p (.bool true) rfl rfl ?_
         refine Run.p (.bool true) rfl rfl ?_
         refine Run.p (.bool true) rfl rfl ?_
         refine Run.p (.bool true) rfl rfl ?_
         refine Run.p (.bool true) rfl rfl ?_
         refine Run.p (.bool true) rfl rfl ?_
         refine Run.p (.slice A_vq1 (ps.length) c_vq1) rfl rfl ?_
         refine Run.y (.int .i64 (((ps.length : Nat) : Int))) rfl (OpY.len Tsl_43 rfl) ?_
         refine Run.y (.pointer (some ⟨b1, 3, none⟩)) rfl (OpY.fieldAddr Tfo_26_3 rfl rfl) ?_
         refine Run.y (.slice A_vo1 no c_vo1) rfl (OpY.load1 Tone_24 rfl (Cells.blk (.tail _ (.tail _ (.tail _ (.tail _ (.tail _ (.tail _ (.tail _ (.tail _ (.tail _ (.tail _ (.tail _ (.tail _ (.tail _ (.tail _ (.tail _ (.tail _ (.tail _ (.tail _ (.tail _ (.tail _ (.tail _ (.tail _ (.tail _ (.tail _ (.tail _ (List.Mem.head _)))))))))))))))))))))))))) ⟨rfl, trivial⟩)) ?_
         refine Run.y (.int .i64 (((no : Nat) : Int))) rfl (OpY.len Tsl_24 rfl) ?_
         refine Run.p (.bool ((((ps.length : Nat) : Int)) == (((no : Nat) : Int)))) rfl rfl ?_
         refine Run.p (.bool ((((ps.length : Nat) : Int)) == (((no : Nat) : Int)))) rfl rfl ?_
         refine Run.p (.bool ((((ps.length : Nat) : Int)) == (((no : Nat) : Int)))) rfl rfl ?_
         refine Run.done ?_
         refine Run.ret ?_
         refine ⟨.bool ((((ps.length : Nat) : Int)) == (((no : Nat) : Int))), [], Out.one rfl rfl, (Some'.weak (.nil _)), ?_⟩
         show _ = _; simp; omega
  ·have p99 := h99; try simp only [bs] at p99
   refine Run.skip ?_
   refine Run.seq ?_
   refine Run.sr ?_
   refine Run.p (.bool ((cfO es m N is ni os no).isSome)) rfl rfl ?_
   refine Run.p (.bool (!((cfO es m N is ni os no).isSome))) rfl rfl ?_
   refine Run.done ?_
   refine Run.cond (b := !((cfO es m N is ni os no).isSome)) rfl (fun h108 => ?_) (fun h108 => ?_)
   ·have p108 := h108; try simp only [bs] at p108
    refine Run.sr ?_
    refine Run.p (.bool true) rfl rfl ?_
    refine Run.done ?_
    refine Run.ret ?_
    refine ⟨.bool true, [], Out.one rfl rfl, (Some'.weak (.nil _)), ?_⟩
    rfl
   ·have p108 := h108; try simp only [bs] at p108
    have hyes : (cfO es m N is ni os no).isSome = true := by simpa using p108
    have hok := cf_ok hyes
    have hfl2 : flB es m N is ni os no (cfA es m N is ni os no) (cfA es m N is ni os no).length (cfL es m N is ni os no) (cfL es m N is ni os no).length = true := by rw [hok.la, hok.ll]; exact hok.fl
    obtain ⟨hn1, hn10, hes, hri, hro⟩ := og_ok hok.hg
    refine Run.skip ?_
    refine Run.sr ?_
    refine Run.y (.agg #[.int .i64 (((N : Nat) : Int)), .slice A_ve1 m c_ve1, .slice A_vi1 ni c_vi1, .slice A_vo1 no c_vo1]) rfl (OpY.loadN (cs := [.int .i64 (((N : Nat) : Int)), .slice A_ve1 m c_ve1, .slice A_vi1 ni c_vi1, .slice A_vo1 no c_vo1]) Tagg_26 rfl (Cells.blk (.tail _ (.tail _ (.tail _ (.tail _ (.tail _ (.tail _ (.tail _ (.tail _ (.tail _ (.tail _ (.tail _ (.tail _ (.tail _ (List.Mem.head _)))))))))))))) ⟨rfl, rfl, rfl, rfl, trivial⟩)) ?_
    refine Run.y (.agg #[.slice A_ua11 ((cfA es m N is ni os no).length) c_ua11, .slice A_ub11 ((cfL es m N is ni os no).length) c_ub11]) rfl (OpY.loadN (cs := [.slice A_ua11 ((cfA es m N is ni os no).length) c_ua11, .slice A_ub11 ((cfL es m N is ni os no).length) c_ub11]) Tagg_29 rfl (Cells.blk (.tail _ (.tail _ (.tail _ (.tail _ (.tail _ (.tail _ (.tail _ (.tail _ (.tail _ (.tail _ (List.Mem.head _))))))))))) ⟨rfl, rfl, trivial⟩)) ?_
    refine Run.q (v := .tuple #[.bool true, .bool true]) rfl (OpQ.call (vs := [.agg #[.int .i64 (((N : Nat) : Int)), .slice A_ve1 m c_ve1, .slice A_vi1 ni c_vi1, .slice A_vo1 no c_vo1], .agg #[.slice A_ua11 ((cfA es m N is ni os no).length) c_ua11, .slice A_ub11 ((cfL es m N is ni os no).length) c_ub11]]) (caps := []) Tcall_9 rfl rfl (fun w hs => (by have h := IsCausalFlow_spec (n := N) (by omega) (hs.slOwn (.tail _ (.tail _ (.tail _ (.tail _ (.tail _ (.tail _ (.tail _ (.tail _ (.tail _ (.tail _ (.tail _ (.tail _ (.tail _ (.tail _ (List.Mem.head _)))))))))))))))) (hs.slOwn (.tail _ (.tail _ (.tail _ (.tail _ (.tail _ (.tail _ (.tail _ (.tail _ (.tail _ (.tail _ (.tail _ (.tail _ (.tail _ (.tail _ (.tail _ (List.Mem.head _))))))))))))))))) (hs.slOwn (.tail _ (.tail _ (.tail _ (.tail _ (.tail _ (.tail _ (.tail _ (.tail _ (.tail _ (.tail _ (.tail _ (.tail _ (.tail _ (.tail _ (.tail _ (.tail _ (List.Mem.head _)))))))))))))))))) ((hs.slOwn (.tail _ (.tail _ (.tail _ (.tail _ (.tail _ (.tail _ (.tail _ (.tail _ (.tail _ (.tail _ (.tail _ (List.Mem.head _)))))))))))))) ((hs.slOwn (.tail _ (.tail _ (.tail _ (.tail _ (.tail _ (.tail _ (.tail _ (.tail _ (.tail _ (.tail _ (.tail _ (.tail _ (List.Mem.head _))))))))))))))); rw [hok.hg, hfl2] at h; exact h))) ?_
    refine Run.p (.tuple #[.bool true, .bool true]) rfl rfl ?_
    refine Run.p (.bool true) rfl rfl ?_
    refine Run.p (.bool true) rfl rfl ?_
    refine Run.p (.bool true) rfl rfl ?_
    refine Run.p (.bool true) rfl rfl ?_
    refine Run.dsr ?_
    refine Run.y (.agg #[.int .i64 (((N : Nat) : Int)), .slice A_ve1 m c_ve1, .slice A_vi1 ni c_vi1, .slice A_vo1 no c_vo1]) rfl (OpY.loadN (cs := [.int .i64 (((N : Nat) : Int)), .slice A_ve1 m c_ve1, .slice A_vi1 ni c_vi1, .slice A_vo1 no c_vo1]) Tagg_26 rfl (Cells.blk (.tail _ (.tail _ (.tail _ (.tail _ (.tail _ (.tail _ (.tail _ (.tail _ (.tail _ (.tail _ (.tail _ (.tail _ (.tail _ (List.Mem.head _)))))))))))))) ⟨rfl, rfl, rfl, rfl, trivial⟩)) ?_
    refine Run.y (.agg #[.slice A_ua11 ((cfA es m N is ni os no).length) c_ua11, .slice A_ub11 ((cfL es m N is ni os no).length) c_ub11]) rfl (OpY.loadN (cs := [.slice A_ua11 ((cfA es m N is ni os no).length) c_ua11, .slice A_ub11 ((cfL es m N is ni os no).length) c_ub11]) Tagg_29 rfl (Cells.blk (.tail _ (.tail _ (.tail _ (.tail _ (.tail _ (.tail _ (.tail _ (.tail _ (.tail _ (.tail _ (List.Mem.head _))))))))))) ⟨rfl, rfl, trivial⟩)) ?_
    refine Run.step rfl (OpStep.call (vs := [.agg #[.int .i64 (((N : Nat) : Int)), .slice A_ve1 m c_ve1, .slice A_vi1 ni c_vi1, .slice A_vo1 no c_vo1], .agg #[.slice A_ua11 ((cfA es m N is ni os no).length) c_ua11, .slice A_ub11 ((cfL es m N is ni os no).length) c_ub11]]) (caps := []) Tcall_12 rfl rfl (fun w hs => SetsOf_spec hok.hg hok.fl (hs.slOwn (.tail _ (.tail _ (.tail _ (.tail _ (.tail _ (.tail _ (.tail _ (.tail _ (.tail _ (.tail _ (.tail _ (.tail _ (.tail _ (.tail _ (List.Mem.head _)))))))))))))))) (hs.slOwn (.tail _ (.tail _ (.tail _ (.tail _ (.tail _ (.tail _ (.tail _ (.tail _ (.tail _ (.tail _ (.tail _ (.tail _ (.tail _ (.tail _ (.tail _ (List.Mem.head _))))))))))))))))) (hs.slOwn (.tail _ (.tail _ (.tail _ (.tail _ (.tail _ (.tail _ (.tail _ (.tail _ (.tail _ (.tail _ (.tail _ (.tail _ (.tail _ (.tail _ (.tail _ (.tail _ (List.Mem.head _)))))))))))))))))) (Sl.as (hs.slOwn (.tail _ (.tail _ (.tail _ (.tail _ (.tail _ (.tail _ (.tail _ (.tail _ (.tail _ (.tail _ (.tail _ (List.Mem.head _))))))))))))) hok.la) (Sl.as (hs.slOwn (.tail _ (.tail _ (.tail _ (.tail _ (.tail _ (.tail _ (.tail _ (.tail _ (.tail _ (.tail _ (.tail _ (.tail _ (List.Mem.head _)))))))))))))) hok.ll)) ?_)
    rintro _ _ ⟨us1, us2, rfl, rfl⟩
    show Run _ _ (putF _ _ _ (.tuple #[.agg #[us1, us2], .bool true])) [.own us1 3 1 N (ints (setsL (cfA es m N is ni os no) N)), .own us2 3 1 N (ints (cfL es m N is ni os no)), .blk b5 29 [.slice A_vx21 aa2 c_vx21, .slice A_vy21 bb2 c_vy21], .blk b4 26 [.int .i64 (((N2 : Nat) : Int)), .slice A_ve21 m2 c_ve21, .slice A_vi21 ni2 c_vi21, .slice A_vo21 no2 c_vo21], .own (.slice A_ve21 m2 c_ve21) 80 2 m2 (ints es2), .own (.slice A_vi21 ni2 c_vi21) 3 1 ni2 (ints is2), .own (.slice A_vo21 no2 c_vo21) 3 1 no2 (ints os2), .own (.slice A_vx21 aa2 c_vx21) 3 1 aa2 (ints nx2), .own (.slice A_vy21 bb2 c_vy21) 3 1 bb2 (ints ly2), .blk b3 29 [.slice A_uc11 ((cfA es m N is ni os no).length) c_uc11, .slice A_ud11 ((cfL es m N is ni os no).length) c_ud11], .own (.slice A_uc11 ((cfA es m N is ni os no).length) c_uc11) 3 1 ((cfA es m N is ni os no).length) (ints (cfA es m N is ni os no)), .own (.slice A_ud11 ((cfL es m N is ni os no).length) c_ud11) 3 1 ((cfL es m N is ni os no).length) (ints (cfL es m N is ni os no)), .blk b2 29 [.slice A_ua11 ((cfA es m N is ni os no).length) c_ua11, .slice A_ub11 ((cfL es m N is ni os no).length) c_ub11], .own (.slice A_ua11 ((cfA es m N is ni os no).length) c_ua11) 3 1 ((cfA es m N is ni os no).length) (ints (cfA es m N is ni os no)), .own (.slice A_ub11 ((cfL es m N is ni os no).length) c_ub11) 3 1 ((cfL es m N is ni os no).length) (ints (cfL es m N is ni os no)), .blk b1 26 [.int .i64 (((N : Nat) : Int)), .slice A_ve1 m c_ve1, .slice A_vi1 ni c_vi1, .slice A_vo1 no c_vo1], .own (.slice A_ve1 m c_ve1) 80 2 m (ints es), .own (.slice A_vi1 ni c_vi1) 3 1 ni (ints is), .own (.slice A_vo1 no c_vo1) 3 1 no (ints os)]
    refine Run.p (.tuple #[.agg #[us1, us2], .bool true]) rfl rfl ?_
    refine Run.p (.agg #[us1, us2]) rfl rfl ?_
    refine Run.p (.bool true) rfl rfl ?_
    refine Run.step rfl (OpStep.alloc (zs := [.slice none 0 0, .slice none 0 0]) Tzero_38 fun b10 => ?_)
    refine Run.formOwn (.tail _ (List.Mem.head _)) (fun A_us12 c_us12 hv hcapc_us12 hmaxc_us12 => ?_) (fun _ _ _ => ⟨nofun, nofun, nofun⟩)
    subst hv
    refine Run.formOwn (.tail _ (.tail _ (List.Mem.head _))) (fun A_us22 c_us22 hv hcapc_us22 hmaxc_us22 => ?_) (fun _ _ _ => ⟨nofun, nofun, nofun⟩)
    subst hv
    refine Run.step rfl (OpStep.storeAll (us := [.slice A_us12 N c_us12, .slice A_us22 N c_us22]) Tsize_38 rfl rfl rfl (.here _) rfl ?_)
    refine Run.p (.bool true) rfl rfl ?_
    refine Run.dsr ?_
    refine Run.y (.agg #[.int .i64 (((N : Nat) : Int)), .slice A_ve1 m c_ve1, .slice A_vi1 ni c_vi1, .slice A_vo1 no c_vo1]) rfl (OpY.loadN (cs := [.int .i64 (((N : Nat) : Int)), .slice A_ve1 m c_ve1, .slice A_vi1 ni c_vi1, .slice A_vo1 no c_vo1]) Tagg_26 rfl (Cells.blk (.tail _ (.tail _ (.tail _ (.tail _ (.tail _ (.tail _ (.tail _ (.tail _ (.tail _ (.tail _ (.tail _ (.tail _ (.tail _ (.tail _ (.tail _ (.tail _ (List.Mem.head _))))))))))))))))) ⟨rfl, rfl, rfl, rfl, trivial⟩)) ?_
    refine Run.y (.agg #[.slice A_us12 N c_us12, .slice A_us22 N c_us22]) rfl (OpY.loadN (cs := [.slice A_us12 N c_us12, .slice A_us22 N c_us22]) Tagg_38 rfl (Cells.blk (.head _) ⟨rfl, rfl, trivial⟩)) ?_
    refine Run.q (v := .tuple #[.bool true, .bool true]) rfl (OpQ.call (vs := [.agg #[.int .i64 (((N : Nat) : Int)), .slice A_ve1 m c_ve1, .slice A_vi1 ni c_vi1, .slice A_vo1 no c_vo1], .agg #[.slice A_us12 N c_us12, .slice A_us22 N c_us22]]) (caps := []) Tcall_13 rfl rfl (fun w hs => (by have h := IsGFlow_spec (n := N) (by omega) (hs.slOwn (.tail _ (.tail _ (.tail _ (.tail _ (.tail _ (.tail _ (.tail _ (.tail _ (.tail _ (.tail _ (.tail _ (.tail _ (.tail _ (.tail _ (.tail _ (.tail _ (.tail _ (List.Mem.head _))))))))))))))))))) (hs.slOwn (.tail _ (.tail _ (.tail _ (.tail _ (.tail _ (.tail _ (.tail _ (.tail _ (.tail _ (.tail _ (.tail _ (.tail _ (.tail _ (.tail _ (.tail _ (.tail _ (.tail _ (.tail _ (List.Mem.head _)))))))))))))))))))) (hs.slOwn (.tail _ (.tail _ (.tail _ (.tail _ (.tail _ (.tail _ (.tail _ (.tail _ (.tail _ (.tail _ (.tail _ (.tail _ (.tail _ (.tail _ (.tail _ (.tail _ (.tail _ (.tail _ (.tail _ (List.Mem.head _))))))))))))))))))))) (hs.slOwn (.tail _ (List.Mem.head _))) (hs.slOwn (.tail _ (.tail _ (List.Mem.head _)))); rw [hok.hg, hok.gf] at h; exact h))) ?_
    refine Run.p (.tuple #[.bool true, .bool true]) rfl rfl ?_
    refine Run.p (.bool true) rfl rfl ?_
    refine Run.p (.bool true) rfl rfl ?_
    refine Run.p (.bool true) rfl rfl ?_
    refine Run.p (.bool true) rfl rfl ?_
    refine Run.dsr ?_
    refine Run.y (.agg #[.int .i64 (((N : Nat) : Int)), .slice A_ve1 m c_ve1, .slice A_vi1 ni c_vi1, .slice A_vo1 no c_vo1]) rfl (OpY.loadN (cs := [.int .i64 (((N : Nat) : Int)), .slice A_ve1 m c_ve1, .slice A_vi1 ni c_vi1, .slice A_vo1 no c_vo1]) Tagg_26 rfl (Cells.blk (.tail _ (.tail _ (.tail _ (.tail _ (.tail _ (.tail _ (.tail _ (.tail _ (.tail _ (.tail _ (.tail _ (.tail _ (.tail _ (.tail _ (.tail _ (.tail _ (List.Mem.head _))))))))))))))))) ⟨rfl, rfl, rfl, rfl, trivial⟩)) ?_
    refine Run.step rfl (OpStep.call (vs := [.agg #[.int .i64 (((N : Nat) : Int)), .slice A_ve1 m c_ve1, .slice A_vi1 ni c_vi1, .slice A_vo1 no c_vo1]]) (caps := []) Tcall_14 rfl rfl (fun w hs => (by have h := GFlowOf_spec (n := N) (by omega) (hs.slOwn (.tail _ (.tail _ (.tail _ (.tail _ (.tail _ (.tail _ (.tail _ (.tail _ (.tail _ (.tail _ (.tail _ (.tail _ (.tail _ (.tail _ (.tail _ (.tail _ (.tail _ (List.Mem.head _))))))))))))))))))) (hs.slOwn (.tail _ (.tail _ (.tail _ (.tail _ (.tail _ (.tail _ (.tail _ (.tail _ (.tail _ (.tail _ (.tail _ (.tail _ (.tail _ (.tail _ (.tail _ (.tail _ (.tail _ (.tail _ (List.Mem.head _)))))))))))))))))))) (hs.slOwn (.tail _ (.tail _ (.tail _ (.tail _ (.tail _ (.tail _ (.tail _ (.tail _ (.tail _ (.tail _ (.tail _ (.tail _ (.tail _ (.tail _ (.tail _ (.tail _ (.tail _ (.tail _ (.tail _ (List.Mem.head _))))))))))))))))))))); rw [hok.ge] at h; exact h)) ?_)
    rintro _ _ ⟨ug1, ug2, rfl, rfl⟩
    show Run _ _ (putF _ _ _ (.tuple #[.agg #[ug1, ug2], .bool true])) [.own ug1 3 1 ((gfA es m N is ni os no).length) (ints (gfA es m N is ni os no)), .own ug2 3 1 ((gfL es m N is ni os no).length) (ints (gfL es m N is ni os no)), .blk b10 38 [.slice A_us12 N c_us12, .slice A_us22 N c_us22], .own (.slice A_us12 N c_us12) 3 1 N (ints (setsL (cfA es m N is ni os no) N)), .own (.slice A_us22 N c_us22) 3 1 N (ints (cfL es m N is ni os no)), .blk b5 29 [.slice A_vx21 aa2 c_vx21, .slice A_vy21 bb2 c_vy21], .blk b4 26 [.int .i64 (((N2 : Nat) : Int)), .slice A_ve21 m2 c_ve21, .slice A_vi21 ni2 c_vi21, .slice A_vo21 no2 c_vo21], .own (.slice A_ve21 m2 c_ve21) 80 2 m2 (ints es2), .own (.slice A_vi21 ni2 c_vi21) 3 1 ni2 (ints is2), .own (.slice A_vo21 no2 c_vo21) 3 1 no2 (ints os2), .own (.slice A_vx21 aa2 c_vx21) 3 1 aa2 (ints nx2), .own (.slice A_vy21 bb2 c_vy21) 3 1 bb2 (ints ly2), .blk b3 29 [.slice A_uc11 ((cfA es m N is ni os no).length) c_uc11, .slice A_ud11 ((cfL es m N is ni os no).length) c_ud11], .own (.slice A_uc11 ((cfA es m N is ni os no).length) c_uc11) 3 1 ((cfA es m N is ni os no).length) (ints (cfA es m N is ni os no)), .own (.slice A_ud11 ((cfL es m N is ni os no).length) c_ud11) 3 1 ((cfL es m N is ni os no).length) (ints (cfL es m N is ni os no)), .blk b2 29 [.slice A_ua11 ((cfA es m N is ni os no).length) c_ua11, .slice A_ub11 ((cfL es m N is ni os no).length) c_ub11], .own (.slice A_ua11 ((cfA es m N is ni os no).length) c_ua11) 3 1 ((cfA es m N is ni os no).length) (ints (cfA es m N is ni os no)), .own (.slice A_ub11 ((cfL es m N is ni os no).length) c_ub11) 3 1 ((cfL es m N is ni os no).length) (ints (cfL es m N is ni os no)), .blk b1 26 [.int .i64 (((N : Nat) : Int)), .slice A_ve1 m c_ve1, .slice A_vi1 ni c_vi1, .slice A_vo1 no c_vo1], .own (.slice A_ve1 m c_ve1) 80 2 m (ints es), .own (.slice A_vi1 ni c_vi1) 3 1 ni (ints is), .own (.slice A_vo1 no c_vo1) 3 1 no (ints os)]
    refine Run.p (.tuple #[.agg #[ug1, ug2], .bool true]) rfl rfl ?_
    refine Run.p (.agg #[ug1, ug2]) rfl rfl ?_
    refine Run.p (.bool true) rfl rfl ?_
    refine Run.step rfl (OpStep.alloc (zs := [.slice none 0 0, .slice none 0 0]) Tzero_38 fun b11 => ?_)
    refine Run.formOwn (.tail _ (List.Mem.head _)) (fun A_ug12 c_ug12 hv hcapc_ug12 hmaxc_ug12 => ?_) (fun _ _ _ => ⟨nofun, nofun, nofun⟩)
    subst hv
    refine Run.formOwn (.tail _ (.tail _ (List.Mem.head _))) (fun A_ug22 c_ug22 hv hcapc_ug22 hmaxc_ug22 => ?_) (fun _ _ _ => ⟨nofun, nofun, nofun⟩)
    subst hv
    refine Run.step rfl (OpStep.storeAll (us := [.slice A_ug12 ((gfA es m N is ni os no).length) c_ug12, .slice A_ug22 ((gfL es m N is ni os no).length) c_ug22]) Tsize_38 rfl rfl rfl (.here _) rfl ?_)
    refine Run.p (.bool true) rfl rfl ?_
    refine Run.dsr ?_
    refine Run.y (.agg #[.int .i64 (((N : Nat) : Int)), .slice A_ve1 m c_ve1, .slice A_vi1 ni c_vi1, .slice A_vo1 no c_vo1]) rfl (OpY.loadN (cs := [.int .i64 (((N : Nat) : Int)), .slice A_ve1 m c_ve1, .slice A_vi1 ni c_vi1, .slice A_vo1 no c_vo1]) Tagg_26 rfl (Cells.blk (.tail _ (.tail _ (.tail _ (.tail _ (.tail _ (.tail _ (.tail _ (.tail _ (.tail _ (.tail _ (.tail _ (.tail _ (.tail _ (.tail _ (.tail _ (.tail _ (.tail _ (.tail _ (.tail _ (List.Mem.head _)))))))))))))))))))) ⟨rfl, rfl, rfl, rfl, trivial⟩)) ?_
    refine Run.y (.agg #[.slice A_ua11 ((cfA es m N is ni os no).length) c_ua11, .slice A_ub11 ((cfL es m N is ni os no).length) c_ub11]) rfl (OpY.loadN (cs := [.slice A_ua11 ((cfA es m N is ni os no).length) c_ua11, .slice A_ub11 ((cfL es m N is ni os no).length) c_ub11]) Tagg_29 rfl (Cells.blk (.tail _ (.tail _ (.tail _ (.tail _ (.tail _ (.tail _ (.tail _ (.tail _ (.tail _ (.tail _ (.tail _ (.tail _ (.tail _ (.tail _ (.tail _ (.tail _ (List.Mem.head _))))))))))))))))) ⟨rfl, rfl, trivial⟩)) ?_
    refine Run.step rfl (OpStep.call (vs := [.agg #[.int .i64 (((N : Nat) : Int)), .slice A_ve1 m c_ve1, .slice A_vi1 ni c_vi1, .slice A_vo1 no c_vo1], .agg #[.slice A_ua11 ((cfA es m N is ni os no).length) c_ua11, .slice A_ub11 ((cfL es m N is ni os no).length) c_ub11]]) (caps := []) Tcall_15 rfl rfl (fun w hs => ChainsOf_spec hok.hg hok.fl (hs.slOwn (.tail _ (.tail _ (.tail _ (.tail _ (.tail _ (.tail _ (.tail _ (.tail _ (.tail _ (.tail _ (.tail _ (.tail _ (.tail _ (.tail _ (.tail _ (.tail _ (.tail _ (.tail _ (.tail _ (.tail _ (List.Mem.head _)))))))))))))))))))))) (hs.slOwn (.tail _ (.tail _ (.tail _ (.tail _ (.tail _ (.tail _ (.tail _ (.tail _ (.tail _ (.tail _ (.tail _ (.tail _ (.tail _ (.tail _ (.tail _ (.tail _ (.tail _ (.tail _ (.tail _ (.tail _ (.tail _ (List.Mem.head _))))))))))))))))))))))) (hs.slOwn (.tail _ (.tail _ (.tail _ (.tail _ (.tail _ (.tail _ (.tail _ (.tail _ (.tail _ (.tail _ (.tail _ (.tail _ (.tail _ (.tail _ (.tail _ (.tail _ (.tail _ (.tail _ (.tail _ (.tail _ (.tail _ (.tail _ (List.Mem.head _)))))))))))))))))))))))) (Sl.as (hs.slOwn (.tail _ (.tail _ (.tail _ (.tail _ (.tail _ (.tail _ (.tail _ (.tail _ (.tail _ (.tail _ (.tail _ (.tail _ (.tail _ (.tail _ (.tail _ (.tail _ (.tail _ (List.Mem.head _))))))))))))))))))) hok.la) (Sl.as (hs.slOwn (.tail _ (.tail _ (.tail _ (.tail _ (.tail _ (.tail _ (.tail _ (.tail _ (.tail _ (.tail _ (.tail _ (.tail _ (.tail _ (.tail _ (.tail _ (.tail _ (.tail _ (.tail _ (List.Mem.head _)))))))))))))))))))) hok.ll) hok.nx) ?_)
    rintro _ _ ⟨vq, ps, hps, rfl, rfl⟩
    show Run _ _ (putF _ _ _ (.tuple #[vq, .bool true])) [.own vq 24 1 (ps.length) (oc ps), .grp 3 1 (gl ps), .blk b11 38 [.slice A_ug12 ((gfA es m N is ni os no).length) c_ug12, .slice A_ug22 ((gfL es m N is ni os no).length) c_ug22], .own (.slice A_ug12 ((gfA es m N is ni os no).length) c_ug12) 3 1 ((gfA es m N is ni os no).length) (ints (gfA es m N is ni os no)), .own (.slice A_ug22 ((gfL es m N is ni os no).length) c_ug22) 3 1 ((gfL es m N is ni os no).length) (ints (gfL es m N is ni os no)), .blk b10 38 [.slice A_us12 N c_us12, .slice A_us22 N c_us22], .own (.slice A_us12 N c_us12) 3 1 N (ints (setsL (cfA es m N is ni os no) N)), .own (.slice A_us22 N c_us22) 3 1 N (ints (cfL es m N is ni os no)), .blk b5 29 [.slice A_vx21 aa2 c_vx21, .slice A_vy21 bb2 c_vy21], .blk b4 26 [.int .i64 (((N2 : Nat) : Int)), .slice A_ve21 m2 c_ve21, .slice A_vi21 ni2 c_vi21, .slice A_vo21 no2 c_vo21], .own (.slice A_ve21 m2 c_ve21) 80 2 m2 (ints es2), .own (.slice A_vi21 ni2 c_vi21) 3 1 ni2 (ints is2), .own (.slice A_vo21 no2 c_vo21) 3 1 no2 (ints os2), .own (.slice A_vx21 aa2 c_vx21) 3 1 aa2 (ints nx2), .own (.slice A_vy21 bb2 c_vy21) 3 1 bb2 (ints ly2), .blk b3 29 [.slice A_uc11 ((cfA es m N is ni os no).length) c_uc11, .slice A_ud11 ((cfL es m N is ni os no).length) c_ud11], .own (.slice A_uc11 ((cfA es m N is ni os no).length) c_uc11) 3 1 ((cfA es m N is ni os no).length) (ints (cfA es m N is ni os no)), .own (.slice A_ud11 ((cfL es m N is ni os no).length) c_ud11) 3 1 ((cfL es m N is ni os no).length) (ints (cfL es m N is ni os no)), .blk b2 29 [.slice A_ua11 ((cfA es m N is ni os no).length) c_ua11, .slice A_ub11 ((cfL es m N is ni os no).length) c_ub11], .own (.slice A_ua11 ((cfA es m N is ni os no).length) c_ua11) 3 1 ((cfA es m N is ni os no).length) (ints (cfA es m N is ni os no)), .own (.slice A_ub11 ((cfL es m N is ni os no).length) c_ub11) 3 1 ((cfL es m N is ni os no).length) (ints (cfL es m N is ni os no)), .blk b1 26 [.int .i64 (((N : Nat) : Int)), .slice A_ve1 m c_ve1, .slice A_vi1 ni c_vi1, .slice A_vo1 no c_vo1], .own (.slice A_ve1 m c_ve1) 80 2 m (ints es), .own (.slice A_vi1 ni c_vi1) 3 1 ni (ints is), .own (.slice A_vo1 no c_vo1) 3 1 no (ints os)]
    refine Run.p (.tuple #[vq, .bool true]) rfl rfl ?_
    refine Run.p (vq) rfl rfl ?_
    refine Run.p (.bool true) rfl rfl ?_
    refine Run.p (vq) rfl rfl ?_
    refine Run.p (.bool true) rfl rfl ?_
    refine Run.done ?_
    have hpl : ps.length = no := by
     have h := congrArg List.length hps
     rw [List.length_map, hok.ln] at h; exact h
    have hrl := ris_le hro
    have hch : ∀ k, k < ps.length → 0 < (lx ps k).length ∧ (lx ps k).length ≤ 102 ∧ ∀ j, j < (lx ps k).length → 0 ≤ ix (lx ps k) j ∧ ix (lx ps k) j < N := fun k hk => chain_at hok.nx (by rw [← hps]; exact List.mem_map.2 ⟨_, px_eq hk, rfl⟩)
    have hcl : ∀ k c, c ∈ (ps.map (·.2)).take k → c.length ≤ 102 := fun k c hc => (chain_at hok.nx (by rw [← hps]; exact List.mem_of_mem_take hc)).2.1
    refine Run.sr ?_
    refine Run.y (.pointer (some ⟨b1, 0, none⟩)) rfl (OpY.fieldAddr Tfo_26_0 rfl rfl) ?_
    refine Run.y (.int .i64 (((N : Nat) : Int))) rfl (OpY.load1 Tone_3 rfl (Cells.blk (.tail _ (.tail _ (.tail _ (.tail _ (.tail _ (.tail _ (.tail _ (.tail _ (.tail _ (.tail _ (.tail _ (.tail _ (.tail _ (.tail _ (.tail _ (.tail _ (.tail _ (.tail _ (.tail _ (.tail _ (.tail _ (List.Mem.head _)))))))))))))))))))))) ⟨rfl, trivial⟩)) ?_
    refine Run.step rfl (OpStep.makeSlice (n := N) Tsl_24 rfl (by decide) (by first | rfl | omega) (by first | rfl | omega) (by omega) (by simp only [maxLen]; omega) fun b12 => ?_)
    refine Run.p (.slice (some ⟨b12, 0, none⟩) N N) rfl rfl ?_
    refine Run.done ?_
    refine Run.seq ?_
    refine Run.sr ?_
    refine Run.p (vq) rfl rfl ?_
    refine Run.formOwn (.tail _ (List.Mem.head _)) (fun A_vq2 c_vq2 hv hcapc_vq2 hmaxc_vq2 => ?_) (fun _ _ _ => ⟨nofun, nofun, nofun⟩)
    subst hv
    refine Run.y (.int .i64 (((ps.length : Nat) : Int))) rfl (OpY.len Tsl_43 rfl) ?_
    refine Run.p (.int .i64 0) rfl rfl ?_
    refine Run.done ?_
    refine Run.block ?_
    refine Run.loop (ι := Nat) [4, 30, 32, 143, 144, 145, 146, 147, 148, 149, 150, 151, 152, 153, 154, 155, 156, 157, 158, 159, 160, 161, 162, 163, 164, 165, 166, 167, 168] (fun k => [(143, .int .i64 (((k : Nat) : Int)))]) (fun k => [.own (.slice (some ⟨b12, 0, none⟩) N N) 3 1 N (ints (metL ((ps.map (·.2)).take k) [] N)), .own (.slice A_vq2 (ps.length) c_vq2) 24 1 (ps.length) (oc ps), .grp 3 1 (gl ps), .blk b11 38 [.slice A_ug12 ((gfA es m N is ni os no).length) c_ug12, .slice A_ug22 ((gfL es m N is ni os no).length) c_ug22], .own (.slice A_ug12 ((gfA es m N is ni os no).length) c_ug12) 3 1 ((gfA es m N is ni os no).length) (ints (gfA es m N is ni os no)), .own (.slice A_ug22 ((gfL es m N is ni os no).length) c_ug22) 3 1 ((gfL es m N is ni os no).length) (ints (gfL es m N is ni os no)), .blk b10 38 [.slice A_us12 N c_us12, .slice A_us22 N c_us22], .own (.slice A_us12 N c_us12) 3 1 N (ints (setsL (cfA es m N is ni os no) N)), .own (.slice A_us22 N c_us22) 3 1 N (ints (cfL es m N is ni os no)), .blk b5 29 [.slice A_vx21 aa2 c_vx21, .slice A_vy21 bb2 c_vy21], .blk b4 26 [.int .i64 (((N2 : Nat) : Int)), .slice A_ve21 m2 c_ve21, .slice A_vi21 ni2 c_vi21, .slice A_vo21 no2 c_vo21], .own (.slice A_ve21 m2 c_ve21) 80 2 m2 (ints es2), .own (.slice A_vi21 ni2 c_vi21) 3 1 ni2 (ints is2), .own (.slice A_vo21 no2 c_vo21) 3 1 no2 (ints os2), .own (.slice A_vx21 aa2 c_vx21) 3 1 aa2 (ints nx2), .own (.slice A_vy21 bb2 c_vy21) 3 1 bb2 (ints ly2), .blk b3 29 [.slice A_uc11 ((cfA es m N is ni os no).length) c_uc11, .slice A_ud11 ((cfL es m N is ni os no).length) c_ud11], .own (.slice A_uc11 ((cfA es m N is ni os no).length) c_uc11) 3 1 ((cfA es m N is ni os no).length) (ints (cfA es m N is ni os no)), .own (.slice A_ud11 ((cfL es m N is ni os no).length) c_ud11) 3 1 ((cfL es m N is ni os no).length) (ints (cfL es m N is ni os no)), .blk b2 29 [.slice A_ua11 ((cfA es m N is ni os no).length) c_ua11, .slice A_ub11 ((cfL es m N is ni os no).length) c_ub11], .own (.slice A_ua11 ((cfA es m N is ni os no).length) c_ua11) 3 1 ((cfA es m N is ni os no).length) (ints (cfA es m N is ni os no)), .own (.slice A_ub11 ((cfL es m N is ni os no).length) c_ub11) 3 1 ((cfL es m N is ni os no).length) (ints (cfL es m N is ni os no)), .blk b1 26 [.int .i64 (((N : Nat) : Int)), .slice A_ve1 m c_ve1, .slice A_vi1 ni c_vi1, .slice A_vo1 no c_vo1], .own (.slice A_ve1 m c_ve1) 80 2 m (ints es), .own (.slice A_vi1 ni c_vi1) 3 1 ni (ints is), .own (.slice A_vo1 no c_vo1) 3 1 no (ints os)]) (fun k => k ≤ ps.length) (fun k => ps.length - k) 0 ?_ ?_ ?_ ?_
    ·exact Nat.zero_le _
    ·exact ⟨rfl, trivial⟩
    ·exact ((Weak.refl _).trans (Some'.weak (.takeEq (by first | (rw [hend]) | (rw [List.take_zero, metL_zero]; simp [ints]; done) | rfl) (.take (.take (.take (.take (.take (.take (.take (.take (.take (.take (.take (.take (.take (.take (.take (.take (.take (.take (.take (.take (.take (.take (.take (.take (.take (.nil _)))))))))))))))))))))))))))))
    ·rintro k fr hinv
     show Run _ _ (over _ _ [(143, .int .i64 (((k : Nat) : Int)))] fr) [.own (.slice (some ⟨b12, 0, none⟩) N N) 3 1 N (ints (metL ((ps.map (·.2)).take k) [] N)), .own (.slice A_vq2 (ps.length) c_vq2) 24 1 (ps.length) (oc ps), .grp 3 1 (gl ps), .blk b11 38 [.slice A_ug12 ((gfA es m N is ni os no).length) c_ug12, .slice A_ug22 ((gfL es m N is ni os no).length) c_ug22], .own (.slice A_ug12 ((gfA es m N is ni os no).length) c_ug12) 3 1 ((gfA es m N is ni os no).length) (ints (gfA es m N is ni os no)), .own (.slice A_ug22 ((gfL es m N is ni os no).length) c_ug22) 3 1 ((gfL es m N is ni os no).length) (ints (gfL es m N is ni os no)), .blk b10 38 [.slice A_us12 N c_us12, .slice A_us22 N c_us22], .own (.slice A_us12 N c_us12) 3 1 N (ints (setsL (cfA es m N is ni os no) N)), .own (.slice A_us22 N c_us22) 3 1 N (ints (cfL es m N is ni os no)), .blk b5 29 [.slice A_vx21 aa2 c_vx21, .slice A_vy21 bb2 c_vy21], .blk b4 26 [.int .i64 (((N2 : Nat) : Int)), .slice A_ve21 m2 c_ve21, .slice A_vi21 ni2 c_vi21, .slice A_vo21 no2 c_vo21], .own (.slice A_ve21 m2 c_ve21) 80 2 m2 (ints es2), .own (.slice A_vi21 ni2 c_vi21) 3 1 ni2 (ints is2), .own (.slice A_vo21 no2 c_vo21) 3 1 no2 (ints os2), .own (.slice A_vx21 aa2 c_vx21) 3 1 aa2 (ints nx2), .own (.slice A_vy21 bb2 c_vy21) 3 1 bb2 (ints ly2), .blk b3 29 [.slice A_uc11 ((cfA es m N is ni os no).length) c_uc11, .slice A_ud11 ((cfL es m N is ni os no).length) c_ud11], .own (.slice A_uc11 ((cfA es m N is ni os no).length) c_uc11) 3 1 ((cfA es m N is ni os no).length) (ints (cfA es m N is ni os no)), .own (.slice A_ud11 ((cfL es m N is ni os no).length) c_ud11) 3 1 ((cfL es m N is ni os no).length) (ints (cfL es m N is ni os no)), .blk b2 29 [.slice A_ua11 ((cfA es m N is ni os no).length) c_ua11, .slice A_ub11 ((cfL es m N is ni os no).length) c_ub11], .own (.slice A_ua11 ((cfA es m N is ni os no).length) c_ua11) 3 1 ((cfA es m N is ni os no).length) (ints (cfA es m N is ni os no)), .own (.slice A_ub11 ((cfL es m N is ni os no).length) c_ub11) 3 1 ((cfL es m N is ni os no).length) (ints (cfL es m N is ni os no)), .blk b1 26 [.int .i64 (((N : Nat) : Int)), .slice A_ve1 m c_ve1, .slice A_vi1 ni c_vi1, .slice A_vo1 no c_vo1], .own (.slice A_ve1 m c_ve1) 80 2 m (ints es), .own (.slice A_vi1 ni c_vi1) 3 1 ni (ints is), .own (.slice A_vo1 no c_vo1) 3 1 no (ints os)]
     try dsimp only at hinv
     refine Run.sr ?_
     refine Run.p (.bool (decide ((((k : Nat) : Int)) < (((ps.length : Nat) : Int))))) rfl rfl ?_
     refine Run.done ?_
     refine Run.seq ?_
     refine Run.cond (b := decide ((((k : Nat) : Int)) < (((ps.length : Nat) : Int)))) rfl (fun h144 => ?_) (fun h144 => ?_)
     ·have p144 := h144; try simp only [bs] at p144
      have hkp : k < ps.length := by omega
      obtain ⟨hc0, hc102, hcr⟩ := hch k hkp
      refine Run.openOwn (.tail _ (List.Mem.head _)) (by omega) (fun gq cgq hvgq hcapgq _ => ?_) (fun _ _ _ => ⟨nofun, nofun, nofun⟩)
      injection hvgq with hAgq _ hcgq; subst hAgq; subst hcgq
      refine Run.formGrp (.tail _ (.tail _ (List.Mem.head _))) (i := k) (by omega) (by omega) (fun gc cgc hvgc hcapgc _ => ?_) (fun _ _ _ => ⟨nofun, nofun, nofun⟩)
      refine Run.skip ?_
      refine Run.seq ?_
      refine Run.block ?_
      refine Run.sr ?_
      refine Run.y (.pointer (some ⟨gq, k, none⟩)) rfl (OpY.index (kk := k) Tsl_43 rfl rfl (by omega) (by omega) (by first | rfl | omega)) ?_
      refine Run.y (.slice (some ⟨gc, 0, none⟩) ((lx ps k).length) cgc) rfl (OpY.load1 Tone_24 rfl (hvgc ▸ Cells.own0 (.tail _ (List.Mem.head _)) (preO (by omega)))) ?_
      refine Run.p (.slice (some ⟨gc, 0, none⟩) ((lx ps k).length) cgc) rfl rfl ?_
      refine Run.dsr ?_
      refine Run.p (.slice (some ⟨gc, 0, none⟩) ((lx ps k).length) cgc) rfl rfl ?_
      refine Run.y (.int .i64 ((((lx ps k).length : Nat) : Int))) rfl (OpY.len Tsl_24 rfl) ?_
      refine Run.p (.int .i64 0) rfl rfl ?_
      refine Run.done ?_
      refine Run.block ?_
      refine Run.loop (ι := Nat) [4, 32, 149, 150, 151, 152, 153, 154, 155, 156, 157, 158, 159, 160, 161, 162, 163, 164, 165, 166, 167] (fun j => [(149, .int .i64 (((j : Nat) : Int)))]) (fun j => [.own (.slice (some ⟨b12, 0, none⟩) N N) 3 1 N (ints (metL ((ps.map (·.2)).take k) ((lx ps k).take j) N)), .own (.slice (some ⟨gq, 0, none⟩) (ps.length) c_vq2) 24 1 (ps.length) (oc ps), .grp 3 1 (gl ps), .blk b11 38 [.slice A_ug12 ((gfA es m N is ni os no).length) c_ug12, .slice A_ug22 ((gfL es m N is ni os no).length) c_ug22], .own (.slice A_ug12 ((gfA es m N is ni os no).length) c_ug12) 3 1 ((gfA es m N is ni os no).length) (ints (gfA es m N is ni os no)), .own (.slice A_ug22 ((gfL es m N is ni os no).length) c_ug22) 3 1 ((gfL es m N is ni os no).length) (ints (gfL es m N is ni os no)), .blk b10 38 [.slice A_us12 N c_us12, .slice A_us22 N c_us22], .own (.slice A_us12 N c_us12) 3 1 N (ints (setsL (cfA es m N is ni os no) N)), .own (.slice A_us22 N c_us22) 3 1 N (ints (cfL es m N is ni os no)), .blk b5 29 [.slice A_vx21 aa2 c_vx21, .slice A_vy21 bb2 c_vy21], .blk b4 26 [.int .i64 (((N2 : Nat) : Int)), .slice A_ve21 m2 c_ve21, .slice A_vi21 ni2 c_vi21, .slice A_vo21 no2 c_vo21], .own (.slice A_ve21 m2 c_ve21) 80 2 m2 (ints es2), .own (.slice A_vi21 ni2 c_vi21) 3 1 ni2 (ints is2), .own (.slice A_vo21 no2 c_vo21) 3 1 no2 (ints os2), .own (.slice A_vx21 aa2 c_vx21) 3 1 aa2 (ints nx2), .own (.slice A_vy21 bb2 c_vy21) 3 1 bb2 (ints ly2), .blk b3 29 [.slice A_uc11 ((cfA es m N is ni os no).length) c_uc11, .slice A_ud11 ((cfL es m N is ni os no).length) c_ud11], .own (.slice A_uc11 ((cfA es m N is ni os no).length) c_uc11) 3 1 ((cfA es m N is ni os no).length) (ints (cfA es m N is ni os no)), .own (.slice A_ud11 ((cfL es m N is ni os no).length) c_ud11) 3 1 ((cfL es m N is ni os no).length) (ints (cfL es m N is ni os no)), .blk b2 29 [.slice A_ua11 ((cfA es m N is ni os no).length) c_ua11, .slice A_ub11 ((cfL es m N is ni os no).length) c_ub11], .own (.slice A_ua11 ((cfA es m N is ni os no).length) c_ua11) 3 1 ((cfA es m N is ni os no).length) (ints (cfA es m N is ni os no)), .own (.slice A_ub11 ((cfL es m N is ni os no).length) c_ub11) 3 1 ((cfL es m N is ni os no).length) (ints (cfL es m N is ni os no)), .blk b1 26 [.int .i64 (((N : Nat) : Int)), .slice A_ve1 m c_ve1, .slice A_vi1 ni c_vi1, .slice A_vo1 no c_vo1], .own (.slice A_ve1 m c_ve1) 80 2 m (ints es), .own (.slice A_vi1 ni c_vi1) 3 1 ni (ints is), .own (.slice A_vo1 no c_vo1) 3 1 no (ints os)]) (fun j => j ≤ (lx ps k).length) (fun j => (lx ps k).length - j) 0 ?_ ?_ ?_ ?_
      ·exact Nat.zero_le _
      ·exact ⟨rfl, trivial⟩
      ·exact ((Weak.refl _).trans (Some'.weak (.takeEq (by first | (rw [← hput]) | (rw [List.take_zero]) | rfl) (.take (.take (.take (.take (.take (.take (.take (.take (.take (.take (.take (.take (.take (.take (.take (.take (.take (.take (.take (.take (.take (.take (.take (.take (.take (.nil _)))))))))))))))))))))))))))))
      ·rintro j fr hinv
       show Run _ _ (over _ _ [(149, .int .i64 (((j : Nat) : Int)))] fr) [.own (.slice (some ⟨b12, 0, none⟩) N N) 3 1 N (ints (metL ((ps.map (·.2)).take k) ((lx ps k).take j) N)), .own (.slice (some ⟨gq, 0, none⟩) (ps.length) c_vq2) 24 1 (ps.length) (oc ps), .grp 3 1 (gl ps), .blk b11 38 [.slice A_ug12 ((gfA es m N is ni os no).length) c_ug12, .slice A_ug22 ((gfL es m N is ni os no).length) c_ug22], .own (.slice A_ug12 ((gfA es m N is ni os no).length) c_ug12) 3 1 ((gfA es m N is ni os no).length) (ints (gfA es m N is ni os no)), .own (.slice A_ug22 ((gfL es m N is ni os no).length) c_ug22) 3 1 ((gfL es m N is ni os no).length) (ints (gfL es m N is ni os no)), .blk b10 38 [.slice A_us12 N c_us12, .slice A_us22 N c_us22], .own (.slice A_us12 N c_us12) 3 1 N (ints (setsL (cfA es m N is ni os no) N)), .own (.slice A_us22 N c_us22) 3 1 N (ints (cfL es m N is ni os no)), .blk b5 29 [.slice A_vx21 aa2 c_vx21, .slice A_vy21 bb2 c_vy21], .blk b4 26 [.int .i64 (((N2 : Nat) : Int)), .slice A_ve21 m2 c_ve21, .slice A_vi21 ni2 c_vi21, .slice A_vo21 no2 c_vo21], .own (.slice A_ve21 m2 c_ve21) 80 2 m2 (ints es2), .own (.slice A_vi21 ni2 c_vi21) 3 1 ni2 (ints is2), .own (.slice A_vo21 no2 c_vo21) 3 1 no2 (ints os2), .own (.slice A_vx21 aa2 c_vx21) 3 1 aa2 (ints nx2), .own (.slice A_vy21 bb2 c_vy21) 3 1 bb2 (ints ly2), .blk b3 29 [.slice A_uc11 ((cfA es m N is ni os no).length) c_uc11, .slice A_ud11 ((cfL es m N is ni os no).length) c_ud11], .own (.slice A_uc11 ((cfA es m N is ni os no).length) c_uc11) 3 1 ((cfA es m N is ni os no).length) (ints (cfA es m N is ni os no)), .own (.slice A_ud11 ((cfL es m N is ni os no).length) c_ud11) 3 1 ((cfL es m N is ni os no).length) (ints (cfL es m N is ni os no)), .blk b2 29 [.slice A_ua11 ((cfA es m N is ni os no).length) c_ua11, .slice A_ub11 ((cfL es m N is ni os no).length) c_ub11], .own (.slice A_ua11 ((cfA es m N is ni os no).length) c_ua11) 3 1 ((cfA es m N is ni os no).length) (ints (cfA es m N is ni os no)), .own (.slice A_ub11 ((cfL es m N is ni os no).length) c_ub11) 3 1 ((cfL es m N is ni os no).length) (ints (cfL es m N is ni os no)), .blk b1 26 [.int .i64 (((N : Nat) : Int)), .slice A_ve1 m c_ve1, .slice A_vi1 ni c_vi1, .slice A_vo1 no c_vo1], .own (.slice A_ve1 m c_ve1) 80 2 m (ints es), .own (.slice A_vi1 ni c_vi1) 3 1 ni (ints is), .own (.slice A_vo1 no c_vo1) 3 1 no (ints os)]
       try dsimp only at hinv
       refine Run.sr ?_
       refine Run.p (.bool (decide ((((j : Nat) : Int)) < ((((lx ps k).length : Nat) : Int))))) rfl rfl ?_
       refine Run.done ?_
       refine Run.seq ?_
       refine Run.cond (b := decide ((((j : Nat) : Int)) < ((((lx ps k).length : Nat) : Int)))) rfl (fun h150 => ?_) (fun h150 => ?_)
       ·have p150 := h150; try simp only [bs] at p150
        have hjl : j < (lx ps k).length := by omega
        have hrj := hcr j hjl
        obtain ⟨uu, huu⟩ : ∃ u : Nat, ix (lx ps k) j = (u : Int) := ⟨(ix (lx ps k) j).toNat, by omega⟩
        have huN : uu < N := by omega
        have hcn := cntF_le (uu : Int) ((ps.map (·.2)).take k) (hcl k)
        have hct : ((ps.map (·.2)).take k).length ≤ no := by rw [List.length_take, List.length_map, hpl]; exact Nat.min_le_right _ _
        have hcw := count_le_len (uu : Int) ((lx ps k).take j)
        have hcl2 : ((lx ps k).take j).length ≤ 102 := by rw [List.length_take]; omega
        have hval := ix_metL (cs := ((ps.map (·.2)).take k)) (c := ((lx ps k).take j)) huN
        have hput := metL_put (cs := ((ps.map (·.2)).take k)) (c := ((lx ps k).take j)) huN
        rw [← huu, ← take_ix hjl] at hput
        refine Run.skip ?_
        refine Run.seq ?_
        refine Run.block ?_
        refine Run.sr ?_
        refine Run.y (.pointer (some ⟨gc, j, none⟩)) rfl (OpY.index (kk := j) Tsl_24 rfl rfl (by omega) (by omega) (by first | rfl | omega)) ?_
        refine Run.y (.int .i64 (ix (lx ps k) j)) rfl (OpY.load1 Tone_3 rfl (Cells.grp (.tail _ (.tail _ (List.Mem.head _))) (i := k) (by omega) (by omega) hvgc (pre1 (by omega)))) ?_
        refine Run.p (.int .i64 (ix (lx ps k) j)) rfl rfl ?_
        refine Run.done ?_
        refine Run.seq ?_
        refine Run.sr ?_
        refine Run.p (.int .i64 (ix (lx ps k) j)) rfl rfl ?_
        refine Run.p (.bool (decide ((ix (lx ps k) j) < 0))) rfl rfl ?_
        rcases Bool.eq_false_or_eq_true (decide ((ix (lx ps k) j) < 0)) with h155 | h155
        ·refine Run.q (v := .bool true) rfl (OpQ.y (OpY.moveB rfl h155)) ?_
         have p155 := h155; try simp only [bs] at p155
         refine Run.pass rfl ?_
         refine Run.pass rfl ?_
         refine Run.pass rfl ?_
         refine Run.pass rfl ?_
         refine Run.p (.bool true) rfl rfl ?_
         refine Run.done ?_
         refine Run.cond (b := true) rfl (fun _ => ?_) (fun h => nomatch h)
         refine Run.sr ?_
         refine Run.p (.bool false) rfl rfl ?_
         refine Run.done ?_
         refine Run.ret ?_
         refine ⟨.bool false, [], Out.one rfl rfl, (Some'.weak (.nil _)), ?_⟩
         show _ = _; simp; omega
        ·refine Run.q (v := .bool false) rfl (OpQ.y (OpY.moveB rfl h155)) ?_
         have p155 := h155; try simp only [bs] at p155
         refine Run.p (.int .i64 (ix (lx ps k) j)) rfl rfl ?_
         refine Run.p (.slice (some ⟨b12, 0, none⟩) N N) rfl rfl ?_
         refine Run.y (.int .i64 (((N : Nat) : Int))) rfl (OpY.len Tsl_24 rfl) ?_
         refine Run.p (.bool (decide ((ix (lx ps k) j) ≥ (((N : Nat) : Int))))) rfl rfl ?_
         refine Run.p (.bool (decide ((ix (lx ps k) j) ≥ (((N : Nat) : Int))))) rfl rfl ?_
         refine Run.done ?_
         refine Run.cond (b := decide ((ix (lx ps k) j) ≥ (((N : Nat) : Int)))) rfl (fun h160 => ?_) (fun h160 => ?_)
         ·exact absurd h160 (by simp; omega) --DONE
         ·have p160 := h160; try simp only [bs] at p160
          refine Run.skip ?_
          refine Run.region ?_
          refine Run.p (.slice (some ⟨b12, 0, none⟩) N N) rfl rfl ?_
          refine Run.p (.int .i64 (ix (lx ps k) j)) rfl rfl ?_
          refine Run.y (.pointer (some ⟨b12, uu, none⟩)) rfl (OpY.index (kk := uu) Tsl_24 rfl rfl (by omega) (by omega) (by first | rfl | omega)) ?_
          refine Run.y (.int .i64 (ix (metL ((ps.map (·.2)).take k) ((lx ps k).take j) N) (uu))) rfl (OpY.load1 Tone_3 rfl (Cells.own0 (.head _) (pre1 (by first | omega | (rw [metL_length]; omega) | (simp; omega))))) ?_
          refine Run.y (.int .i64 (ix (metL ((ps.map (·.2)).take k) ((lx ps k).take j) N) uu + 1)) rfl (OpY.add rfl rfl (by omega) (by omega) (by omega)) ?_
          refine Run.y (.pointer (some ⟨b12, uu, none⟩)) rfl (OpY.index (kk := uu) Tsl_24 rfl rfl (by omega) (by omega) (by first | rfl | omega)) ?_
          refine Run.step rfl (OpStep.storeOwnInt (o := uu) (a := ix (metL ((ps.map (·.2)).take k) ((lx ps k).take j) N) uu + 1) Tsize_3 rfl rfl (.here _) (by first | omega | (rw [metL_length]; omega) | (simp; omega)) ?_)
          refine Run.done ?_
          refine Run.blockEnd ?_
          refine Run.region ?_
          refine Run.y (.int .i64 (((j + 1 : Nat) : Int))) rfl (OpY.add rfl rfl (by omega) (by omega) (by omega)) ?_
          refine Run.p (.int .i64 (((j + 1 : Nat) : Int))) rfl rfl ?_
          refine Run.done ?_
          refine Run.goal ⟨(by repeat (first | exact Same.refl _ _ | refine Same.put rfl ?_ | refine Same.over rfl rfl ?_)), j + 1, ?_, ?_, ?_, ?_⟩
          ·exact hjl
          ·show (lx ps k).length - (j + 1) < (lx ps k).length - j; omega
          ·exact ⟨(by first | rfl | (congr 1; omega) | simp), trivial⟩
          ·exact ((Weak.refl _).trans (Some'.weak (.takeEq (by first | (rw [← hput]) | (rw [List.take_zero]) | rfl) (.takeEq (by first | (rw [← hput]) | (rw [List.take_zero]) | rfl) (.takeEq (by first | (rw [← hput]) | (rw [List.take_zero]) | rfl) (.take (.takeEq (by first | (rw [← hput]) | (rw [List.take_zero]) | rfl) (.takeEq (by first | (rw [← hput]) | (rw [List.take_zero]) | rfl) (.take (.takeEq (by first | (rw [← hput]) | (rw [List.take_zero]) | rfl) (.takeEq (by first | (rw [← hput]) | (rw [List.take_zero]) | rfl) (.take (.take (.takeEq (by first | (rw [← hput]) | (rw [List.take_zero]) | rfl) (.takeEq (by first | (rw [← hput]) | (rw [List.take_zero]) | rfl) (.takeEq (by first | (rw [← hput]) | (rw [List.take_zero]) | rfl) (.takeEq (by first | (rw [← hput]) | (rw [List.take_zero]) | rfl) (.takeEq (by first | (rw [← hput]) | (rw [List.take_zero]) | rfl) (.take (.takeEq (by first | (rw [← hput]) | (rw [List.take_zero]) | rfl) (.takeEq (by first | (rw [← hput]) | (rw [List.take_zero]) | rfl) (.take (.takeEq (by first | (rw [← hput]) | (rw [List.take_zero]) | rfl) (.takeEq (by first | (rw [← hput]) | (rw [List.take_zero]) | rfl) (.take (.takeEq (by first | (rw [← hput]) | (rw [List.take_zero]) | rfl) (.takeEq (by first | (rw [← hput]) | (rw [List.take_zero]) | rfl) (.takeEq (by first | (rw [← hput]) | (rw [List.take_zero]) | rfl) (.nil _)))))))))))))))))))))))))))))
       ·have p150 := h150; try simp only [bs] at p150
        have hjl : j = (lx ps k).length := by omega
        have hend : metL ((ps.map (·.2)).take k) ((lx ps k).take j) N = metL ((ps.map (·.2)).take (k + 1)) [] N := by rw [take_lx hkp, metL_next, hjl, List.take_length]
        refine Run.exit rfl ?_
        refine Run.blockEnd ?_
        refine Run.region ?_
        refine Run.y (.int .i64 (((k + 1 : Nat) : Int))) rfl (OpY.add rfl rfl (by omega) (by omega) (by omega)) ?_
        refine Run.p (.int .i64 (((k + 1 : Nat) : Int))) rfl rfl ?_
        refine Run.done ?_
        refine Run.goal ⟨(by repeat (first | exact Same.refl _ _ | refine Same.put rfl ?_ | refine Same.over rfl rfl ?_)), k + 1, ?_, ?_, ?_, ?_⟩
        ·exact hkp
        ·show ps.length - (k + 1) < ps.length - k; omega
        ·exact ⟨(by first | rfl | (congr 1; omega) | simp), trivial⟩
        ·exact ((Weak.refl _).trans (Some'.weak (.takeEq (by first | (rw [hend]) | (rw [List.take_zero, metL_zero]; simp [ints]; done) | rfl) (.takeEq (by first | (rw [hend]) | (rw [List.take_zero, metL_zero]; simp [ints]; done) | rfl) (.takeEq (by first | (rw [hend]) | (rw [List.take_zero, metL_zero]; simp [ints]; done) | rfl) (.take (.takeEq (by first | (rw [hend]) | (rw [List.take_zero, metL_zero]; simp [ints]; done) | rfl) (.takeEq (by first | (rw [hend]) | (rw [List.take_zero, metL_zero]; simp [ints]; done) | rfl) (.take (.takeEq (by first | (rw [hend]) | (rw [List.take_zero, metL_zero]; simp [ints]; done) | rfl) (.takeEq (by first | (rw [hend]) | (rw [List.take_zero, metL_zero]; simp [ints]; done) | rfl) (.take (.take (.takeEq (by first | (rw [hend]) | (rw [List.take_zero, metL_zero]; simp [ints]; done) | rfl) (.takeEq (by first | (rw [hend]) | (rw [List.take_zero, metL_zero]; simp [ints]; done) | rfl) (.takeEq (by first | (rw [hend]) | (rw [List.take_zero, metL_zero]; simp [ints]; done) | rfl) (.takeEq (by first | (rw [hend]) | (rw [List.take_zero, metL_zero]; simp [ints]; done) | rfl) (.takeEq (by first | (rw [hend]) | (rw [List.take_zero, metL_zero]; simp [ints]; done) | rfl) (.take (.takeEq (by first | (rw [hend]) | (rw [List.take_zero, metL_zero]; simp [ints]; done) | rfl) (.takeEq (by first | (rw [hend]) | (rw [List.take_zero, metL_zero]; simp [ints]; done) | rfl) (.take (.takeEq (by first | (rw [hend]) | (rw [List.take_zero, metL_zero]; simp [ints]; done) | rfl) (.takeEq (by first | (rw [hend]) | (rw [List.take_zero, metL_zero]; simp [ints]; done) | rfl) (.take (.takeEq (by first | (rw [hend]) | (rw [List.take_zero, metL_zero]; simp [ints]; done) | rfl) (.takeEq (by first | (rw [hend]) | (rw [List.take_zero, metL_zero]; simp [ints]; done) | rfl) (.takeEq (by first | (rw [hend]) | (rw [List.take_zero, metL_zero]; simp [ints]; done) | rfl) (.nil _)))))))))))))))))))))))))))))
     ·have p144 := h144; try simp only [bs] at p144
      have hkp : k = ps.length := by omega
      have hall : (ps.map (·.2)).take k = chN (cfA es m N is ni os no) N N := by rw [hkp, ← hps]; exact List.take_of_length_le (by simp)
      refine Run.exit rfl ?_
      refine Run.seq ?_
      refine Run.sr ?_
      refine Run.p (.slice (some ⟨b12, 0, none⟩) N N) rfl rfl ?_
      refine Run.y (.int .i64 (((N : Nat) : Int))) rfl (OpY.len Tsl_24 rfl) ?_
      refine Run.p (.int .i64 0) rfl rfl ?_
      refine Run.done ?_
      refine Run.block ?_
      refine Run.loop (ι := Nat) [4, 34, 171, 172, 173, 174, 175, 176, 177] (fun i => [(171, .int .i64 (((i : Nat) : Int)))]) (fun i => [.own (.slice (some ⟨b12, 0, none⟩) N N) 3 1 N (ints (metL ((ps.map (·.2)).take k) [] N)), .own (.slice A_vq2 (ps.length) c_vq2) 24 1 (ps.length) (oc ps), .grp 3 1 (gl ps), .blk b11 38 [.slice A_ug12 ((gfA es m N is ni os no).length) c_ug12, .slice A_ug22 ((gfL es m N is ni os no).length) c_ug22], .own (.slice A_ug12 ((gfA es m N is ni os no).length) c_ug12) 3 1 ((gfA es m N is ni os no).length) (ints (gfA es m N is ni os no)), .own (.slice A_ug22 ((gfL es m N is ni os no).length) c_ug22) 3 1 ((gfL es m N is ni os no).length) (ints (gfL es m N is ni os no)), .blk b10 38 [.slice A_us12 N c_us12, .slice A_us22 N c_us22], .own (.slice A_us12 N c_us12) 3 1 N (ints (setsL (cfA es m N is ni os no) N)), .own (.slice A_us22 N c_us22) 3 1 N (ints (cfL es m N is ni os no)), .blk b5 29 [.slice A_vx21 aa2 c_vx21, .slice A_vy21 bb2 c_vy21], .blk b4 26 [.int .i64 (((N2 : Nat) : Int)), .slice A_ve21 m2 c_ve21, .slice A_vi21 ni2 c_vi21, .slice A_vo21 no2 c_vo21], .own (.slice A_ve21 m2 c_ve21) 80 2 m2 (ints es2), .own (.slice A_vi21 ni2 c_vi21) 3 1 ni2 (ints is2), .own (.slice A_vo21 no2 c_vo21) 3 1 no2 (ints os2), .own (.slice A_vx21 aa2 c_vx21) 3 1 aa2 (ints nx2), .own (.slice A_vy21 bb2 c_vy21) 3 1 bb2 (ints ly2), .blk b3 29 [.slice A_uc11 ((cfA es m N is ni os no).length) c_uc11, .slice A_ud11 ((cfL es m N is ni os no).length) c_ud11], .own (.slice A_uc11 ((cfA es m N is ni os no).length) c_uc11) 3 1 ((cfA es m N is ni os no).length) (ints (cfA es m N is ni os no)), .own (.slice A_ud11 ((cfL es m N is ni os no).length) c_ud11) 3 1 ((cfL es m N is ni os no).length) (ints (cfL es m N is ni os no)), .blk b2 29 [.slice A_ua11 ((cfA es m N is ni os no).length) c_ua11, .slice A_ub11 ((cfL es m N is ni os no).length) c_ub11], .own (.slice A_ua11 ((cfA es m N is ni os no).length) c_ua11) 3 1 ((cfA es m N is ni os no).length) (ints (cfA es m N is ni os no)), .own (.slice A_ub11 ((cfL es m N is ni os no).length) c_ub11) 3 1 ((cfL es m N is ni os no).length) (ints (cfL es m N is ni os no)), .blk b1 26 [.int .i64 (((N : Nat) : Int)), .slice A_ve1 m c_ve1, .slice A_vi1 ni c_vi1, .slice A_vo1 no c_vo1], .own (.slice A_ve1 m c_ve1) 80 2 m (ints es), .own (.slice A_vi1 ni c_vi1) 3 1 ni (ints is), .own (.slice A_vo1 no c_vo1) 3 1 no (ints os)]) (fun i => i ≤ N) (fun i => N - i) 0 ?_ ?_ ?_ ?_
      ·exact Nat.zero_le _
      ·exact ⟨rfl, trivial⟩
      ·exact (Some'.weak (.take (.take (.take (.take (.take (.take (.take (.take (.take (.take (.take (.take (.take (.take (.take (.take (.take (.take (.take (.take (.take (.take (.take (.take (.take (.take (.nil _))))))))))))))))))))))))))))
      ·rintro i fr hinv
       show Run _ _ (over _ _ [(171, .int .i64 (((i : Nat) : Int)))] fr) [.own (.slice (some ⟨b12, 0, none⟩) N N) 3 1 N (ints (metL ((ps.map (·.2)).take k) [] N)), .own (.slice A_vq2 (ps.length) c_vq2) 24 1 (ps.length) (oc ps), .grp 3 1 (gl ps), .blk b11 38 [.slice A_ug12 ((gfA es m N is ni os no).length) c_ug12, .slice A_ug22 ((gfL es m N is ni os no).length) c_ug22], .own (.slice A_ug12 ((gfA es m N is ni os no).length) c_ug12) 3 1 ((gfA es m N is ni os no).length) (ints (gfA es m N is ni os no)), .own (.slice A_ug22 ((gfL es m N is ni os no).length) c_ug22) 3 1 ((gfL es m N is ni os no).length) (ints (gfL es m N is ni os no)), .blk b10 38 [.slice A_us12 N c_us12, .slice A_us22 N c_us22], .own (.slice A_us12 N c_us12) 3 1 N (ints (setsL (cfA es m N is ni os no) N)), .own (.slice A_us22 N c_us22) 3 1 N (ints (cfL es m N is ni os no)), .blk b5 29 [.slice A_vx21 aa2 c_vx21, .slice A_vy21 bb2 c_vy21], .blk b4 26 [.int .i64 (((N2 : Nat) : Int)), .slice A_ve21 m2 c_ve21, .slice A_vi21 ni2 c_vi21, .slice A_vo21 no2 c_vo21], .own (.slice A_ve21 m2 c_ve21) 80 2 m2 (ints es2), .own (.slice A_vi21 ni2 c_vi21) 3 1 ni2 (ints is2), .own (.slice A_vo21 no2 c_vo21) 3 1 no2 (ints os2), .own (.slice A_vx21 aa2 c_vx21) 3 1 aa2 (ints nx2), .own (.slice A_vy21 bb2 c_vy21) 3 1 bb2 (ints ly2), .blk b3 29 [.slice A_uc11 ((cfA es m N is ni os no).length) c_uc11, .slice A_ud11 ((cfL es m N is ni os no).length) c_ud11], .own (.slice A_uc11 ((cfA es m N is ni os no).length) c_uc11) 3 1 ((cfA es m N is ni os no).length) (ints (cfA es m N is ni os no)), .own (.slice A_ud11 ((cfL es m N is ni os no).length) c_ud11) 3 1 ((cfL es m N is ni os no).length) (ints (cfL es m N is ni os no)), .blk b2 29 [.slice A_ua11 ((cfA es m N is ni os no).length) c_ua11, .slice A_ub11 ((cfL es m N is ni os no).length) c_ub11], .own (.slice A_ua11 ((cfA es m N is ni os no).length) c_ua11) 3 1 ((cfA es m N is ni os no).length) (ints (cfA es m N is ni os no)), .own (.slice A_ub11 ((cfL es m N is ni os no).length) c_ub11) 3 1 ((cfL es m N is ni os no).length) (ints (cfL es m N is ni os no)), .blk b1 26 [.int .i64 (((N : Nat) : Int)), .slice A_ve1 m c_ve1, .slice A_vi1 ni c_vi1, .slice A_vo1 no c_vo1], .own (.slice A_ve1 m c_ve1) 80 2 m (ints es), .own (.slice A_vi1 ni c_vi1) 3 1 ni (ints is), .own (.slice A_vo1 no c_vo1) 3 1 no (ints os)]
       try dsimp only at hinv
       refine Run.sr ?_
       refine Run.p (.bool (decide ((((i : Nat) : Int)) < (((N : Nat) : Int))))) rfl rfl ?_
       refine Run.done ?_
       refine Run.seq ?_
       refine Run.cond (b := decide ((((i : Nat) : Int)) < (((N : Nat) : Int)))) rfl (fun h172 => ?_) (fun h172 => ?_)
       ·have p172 := h172; try simp only [bs] at p172
        have hiN : i < N := by omega
        have hone : ix (metL ((ps.map (·.2)).take k) [] N) i = 1 := by rw [ix_metL hiN, hall, ch_once hok.nx i hiN]; simp
        refine Run.skip ?_
        refine Run.seq ?_
        refine Run.block ?_
        refine Run.sr ?_
        refine Run.y (.pointer (some ⟨b12, i, none⟩)) rfl (OpY.index (kk := i) Tsl_24 rfl rfl (by omega) (by omega) (by first | rfl | omega)) ?_
        refine Run.y (.int .i64 (ix (metL ((ps.map (·.2)).take k) [] N) (i))) rfl (OpY.load1 Tone_3 rfl (Cells.own0 (.head _) (pre1 (by first | omega | (rw [metL_length]; omega) | (simp; omega))))) ?_
        refine Run.p (.int .i64 (ix (metL ((ps.map (·.2)).take k) [] N) (i))) rfl rfl ?_
        refine Run.dsr ?_
        refine Run.p (.int .i64 (ix (metL ((ps.map (·.2)).take k) [] N) (i))) rfl rfl ?_
        refine Run.p (.bool ((ix (metL ((ps.map (·.2)).take k) [] N) (i)) != 1)) rfl rfl ?_
        refine Run.done ?_
        refine Run.cond (b := (ix (metL ((ps.map (·.2)).take k) [] N) (i)) != 1) rfl (fun h176 => ?_) (fun h176 => ?_)
        ·exact absurd h176 (by first | (rw [hone]; decide) | (simp; omega)) --DONE
        ·have p176 := h176; try simp only [bs] at p176
         refine Run.skip ?_
         refine Run.blockEnd ?_
         refine Run.region ?_
         refine Run.y (.int .i64 (((i + 1 : Nat) : Int))) rfl (OpY.add rfl rfl (by omega) (by omega) (by omega)) ?_
         refine Run.p (.int .i64 (((i + 1 : Nat) : Int))) rfl rfl ?_
         refine Run.done ?_
         refine Run.goal ⟨(by repeat (first | exact Same.refl _ _ | refine Same.put rfl ?_ | refine Same.over rfl rfl ?_)), i + 1, ?_, ?_, ?_, ?_⟩
         ·exact hiN
         ·omega
         ·exact ⟨(by first | rfl | (congr 1; omega) | simp), trivial⟩
         ·exact (Some'.weak (.takeEq (by first | rfl | simp) (.takeEq (by first | rfl | simp) (.takeEq (by first | rfl | simp) (.take (.takeEq (by first | rfl | simp) (.takeEq (by first | rfl | simp) (.take (.takeEq (by first | rfl | simp) (.takeEq (by first | rfl | simp) (.take (.take (.takeEq (by first | rfl | simp) (.takeEq (by first | rfl | simp) (.takeEq (by first | rfl | simp) (.takeEq (by first | rfl | simp) (.takeEq (by first | rfl | simp) (.take (.takeEq (by first | rfl | simp) (.takeEq (by first | rfl | simp) (.take (.takeEq (by first | rfl | simp) (.takeEq (by first | rfl | simp) (.take (.takeEq (by first | rfl | simp) (.takeEq (by first | rfl | simp) (.takeEq (by first | rfl | simp) (.nil _))))))))))))))))))))))))))))
       ·have p172 := h172; try simp only [bs] at p172
        refine Run.exit rfl ?_
        refine Run.sr ?_
        refine Run.p (.bool true) rfl rfl ?_
        refine Run.p (.bool true) rfl rfl ?_
        refine Run.p (.bool true) rfl rfl ?_
        refine Run.p (.bool true) rfl rfl ?_
        refine Run.p (.bool true) rfl rfl ?_
        refine Run.p (.bool true) rfl rfl ?_
        refine Run.p (.bool true) rfl rfl ?_
        refine Run.p (.bool true) rfl rfl ?_
        refine Run.p (.bool true) rfl rfl ?_
        refine Run.p (.bool true) rfl rfl ?_
        refine Run.p (.bool true) rfl rfl ?_
        refine Run.p (.bool true) rfl rfl ?_
        refine Run.p (.bool true) rfl rfl ?_
        refine Run.p (.bool true) rfl rfl ?_
        refine Run.p (.bool true) rfl rfl ?_
        refine Run.p (.bool true) rfl rfl ?_
        refine Run.p (.bool true) rfl rfl ?_
        refine Run.p (.bool true) rfl rfl ?_
        refine Run.p (.bool true) rfl rfl ?_
        refine Run.p (.bool true) rfl rfl ?_
        refine Run.p (.slice A_vq2 (ps.length) c_vq2) rfl rfl ?_
        refine Run.y (.int .i64 (((ps.length : Nat) : Int))) rfl (OpY.len Tsl_43 rfl) ?_
        refine Run.y (.pointer (some ⟨b1, 3, none⟩)) rfl (OpY.fieldAddr Tfo_26_3 rfl rfl) ?_
        refine Run.y (.slice A_vo1 no c_vo1) rfl (OpY.load1 Tone_24 rfl (Cells.blk (.tail _ (.tail _ (.tail _ (.tail _ (.tail _ (.tail _ (.tail _ (.tail _ (.tail _ (.tail _ (.tail _ (.tail _ (.tail _ (.tail _ (.tail _ (.tail _ (.tail _ (.tail _ (.tail _ (.tail _ (.tail _ (.tail _ (List.Mem.head _))))))))))))))))))))))) ⟨rfl, trivial⟩)) ?_
        refine Run.y (.int .i64 (((no : Nat) : Int))) rfl (OpY.len Tsl_24 rfl) ?_
        refine Run.p (.bool ((((ps.length : Nat) : Int)) == (((no : Nat) : Int)))) rfl rfl ?_
        refine Run.p (.bool ((((ps.length : Nat) : Int)) == (((no : Nat) : Int)))) rfl rfl ?_
        refine Run.p (.bool ((((ps.length : Nat) : Int)) == (((no : Nat) : Int)))) rfl rfl ?_
        refine Run.done ?_
        refine Run.ret ?_
        refine ⟨.bool ((((ps.length : Nat) : Int)) == (((no : Nat) : Int))), [], Out.one rfl rfl, (Some'.weak (.nil _)), ?_⟩
        show _ = _; simp; omega

end Go.Proofs.Ytoiaibgcjfgbcaa
