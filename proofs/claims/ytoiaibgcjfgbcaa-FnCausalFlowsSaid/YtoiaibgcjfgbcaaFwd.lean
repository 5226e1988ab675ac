/- Walks: generalised flows are recognised. -/
import Derived.Test.YtoiaibgcjfgbcaaFwc
import Derived.Test.YtoiaibgcjfgbcaaProg
set_option linter.unusedSimpArgs false
set_option linter.unusedVariables false
namespace Go.Proofs.Ytoiaibgcjfgbcaa
open Go Go.RowKit
namespace FwdT
theorem Tagg_26 : aggOf Try.prog 26 = some 4 := by kernel_rfl
theorem Tagg_29 : aggOf Try.prog 29 = some 2 := by kernel_rfl
theorem Tagg_38 : aggOf Try.prog 38 = some 2 := by kernel_rfl
theorem Tcall_24 : callable Try.prog 24 = true := by kernel_rfl
theorem Tcall_30 : callable Try.prog 30 = true := by kernel_rfl
theorem Tcall_32 : callable Try.prog 32 = true := by kernel_rfl
theorem Tcall_35 : callable Try.prog 35 = true := by kernel_rfl
theorem Tcall_36 : callable Try.prog 36 = true := by kernel_rfl
theorem Tcall_37 : callable Try.prog 37 = true := by kernel_rfl
theorem Tcall_38 : callable Try.prog 38 = true := by kernel_rfl
theorem Tcall_45 : callable Try.prog 45 = true := by kernel_rfl
theorem Tcall_48 : callable Try.prog 48 = true := by kernel_rfl
theorem Tcall_49 : callable Try.prog 49 = true := by kernel_rfl
theorem Tcall_55 : callable Try.prog 55 = true := by kernel_rfl
theorem Tcall_62 : callable Try.prog 62 = true := by kernel_rfl
theorem Tcall_64 : callable Try.prog 64 = true := by kernel_rfl
theorem Tcall_65 : callable Try.prog 65 = true := by kernel_rfl
theorem Tcall_66 : callable Try.prog 66 = true := by kernel_rfl
theorem Tcall_67 : callable Try.prog 67 = true := by kernel_rfl
theorem Tcall_68 : callable Try.prog 68 = true := by kernel_rfl
theorem Tcall_69 : callable Try.prog 69 = true := by kernel_rfl
theorem Tfo_26_0 : fieldOff Try.prog 26 0 = some 0 := by kernel_rfl
theorem Tfo_26_2 : fieldOff Try.prog 26 2 = some 2 := by kernel_rfl
theorem Tfo_26_3 : fieldOff Try.prog 26 3 = some 3 := by kernel_rfl
theorem Tfo_38_0 : fieldOff Try.prog 38 0 = some 0 := by kernel_rfl
theorem Tfo_38_1 : fieldOff Try.prog 38 1 = some 1 := by kernel_rfl
theorem Tint_52 : Try.prog.underlying 52 = some (.int .u64) := by kernel_rfl
theorem Tone_24 : oneOf Try.prog 24 = true := by kernel_rfl
theorem Tone_3 : oneOf Try.prog 3 = true := by kernel_rfl
theorem Tsl_24 : sliceOf Try.prog 24 = some (3, 1, 8, [.int .i64 0]) := by kernel_rfl
theorem Tsome_3 : (Try.prog.underlying 3).isSome = true := by kernel_rfl
end FwdT
open FwdT

section
variable {E : Env} {f : Fr} {H : List Res} {d : Option Tmp} {ty : TypeId} {pos : String} {after : Array Edge} {gd : Option (Nat × Bool)} {t t' : TypeId} {x y : Operand} {a : Int} {m n q : Nat}
theorem OpY.orNatE (hx : f.eval x = .int .i64 a) (hy : f.eval y = .int .i64 (n : Nat)) (ha : a = (m : Nat)) (hm : m < 9223372036854775808) (hn : n < 9223372036854775808) :
    OpY E ⟨d, .binOp .or t x y t', ty, pos, after, gd⟩ f H (.int .i64 ((m ||| n : Nat) : Int)) := OpY.orNat hx hy ha rfl hm hn
end

set_option maxHeartbeats 2000000 in
set_option maxRecDepth 20000 in
theorem isGFlow_spec {ve vi vo vx vy : Value} {n m ni no nn nl : Nat} {es is os nx ly : List Int} {w : World} (hn1 : 1 ≤ n) (hn10 : n ≤ 10) (hes : edgesOk (n : Int) es m = true) (hri : risB is n ni = true) (he : Sl w ve 2 m (ints es)) (hi : Sl w vi 1 ni (ints is)) (ho : Sl w vo 1 no (ints os)) (hx : Sl w vx 1 nn (ints nx)) (hy : Sl w vy 1 nl (ints ly)) : Calls Try.prog 37 #[.agg #[.int .i64 (n : Int), ve, vi, vo], .agg #[vx, vy]] w (Post No w fun v _ => v = .bool (gfB es m n is ni os no nx nn ly nl)) := by
 have hp10 := pow10 hn10
 obtain ⟨Ax, cx_, rfl, _, _⟩ := hx.form0
 have hxl := hx.len
 obtain ⟨Ay, cy_, rfl, _, _⟩ := hy.form0
 obtain ⟨qn, hqn⟩ : ∃ q : Nat, q = 2 ^ n := ⟨_, rfl⟩
 have hqn1 : 1 ≤ qn := by rw [hqn]; exact Nat.two_pow_pos _
 have hmk := mskK_lt (n := n) (k := ni) (l := is) (ris_in hri)
 refine enter (n := 80) (args := [.agg #[.int .i64 (((n : Nat) : Int)), ve, vi, vo], .agg #[.slice Ax nn cx_, .slice Ay nl cy_]]) Try.func37 rfl rfl (St.empty _ _) ?_
 refine Run.sr ?_
 refine Run.step rfl (OpStep.box (us := [.int .i64 (((n : Nat) : Int)), ve, vi, vo]) rfl fun b1 => ?_)
 refine Run.step rfl (OpStep.box (us := [.slice Ax nn cx_, .slice Ay nl cy_]) rfl fun b2 => ?_)
 refine Run.p (.bool false) rfl rfl ?_
 refine Run.done ?_
 refine Run.seq ?_
 refine Run.sr ?_
 refine Run.y (.pointer (some ⟨b2, 0, none⟩)) rfl (OpY.fieldAddr Tfo_38_0 rfl rfl) ?_
 refine Run.y (.slice Ax nn cx_) rfl (OpY.load1 Tone_24 rfl (Cells.blk (.head _) ⟨rfl, trivial⟩)) ?_
 refine Run.y (.int .i64 (((nn : Nat) : Int))) rfl (OpY.len Tsl_24 rfl) ?_
 refine Run.y (.pointer (some ⟨b1, 0, none⟩)) rfl (OpY.fieldAddr Tfo_26_0 rfl rfl) ?_
 refine Run.y (.int .i64 (((n : Nat) : Int))) rfl (OpY.load1 Tone_3 rfl (Cells.blk (.tail _ (List.Mem.head _)) ⟨rfl, trivial⟩)) ?_
 refine Run.p (.bool ((((nn : Nat) : Int)) != (((n : Nat) : Int)))) rfl rfl ?_
 rcases Bool.eq_false_or_eq_true ((((nn : Nat) : Int)) != (((n : Nat) : Int))) with h14 | h14
 ·refine Run.q (v := .bool true) rfl (OpQ.y (OpY.moveB rfl h14)) ?_
  have p14 := h14; try simp only [bs] at p14
  refine Run.pass rfl ?_
  refine Run.pass rfl ?_
  refine Run.pass rfl ?_
  refine Run.pass rfl ?_
  refine Run.pass rfl ?_
  refine Run.p (.bool true) rfl rfl ?_
  refine Run.done ?_
  refine Run.cond (b := true) rfl (fun _ => ?_) (fun h => nomatch h)
  refine Run.seq ?_
  have hres : gfB es m n is ni os no nx nn ly nl = false := by
   unfold gfB
   first | (rw [decide_eq_false (show ¬ nn = n by omega)]; rfl) | (rw [show layB ly nl n = false by simpa using p20]; simp)
  refine Run.region ?_
  refine Run.p (.bool false) rfl rfl ?_
  refine Run.done ?_
  refine Run.ret ?_
  refine ⟨.bool false, [], Out.one rfl rfl, (Some'.weak (.nil _)), ?_⟩
  show _ = _; rw [hres]
 ·refine Run.q (v := .bool false) rfl (OpQ.y (OpY.moveB rfl h14)) ?_
  have p14 := h14; try simp only [bs] at p14
  refine Run.y (.agg #[.int .i64 (((n : Nat) : Int)), ve, vi, vo]) rfl (OpY.loadN (cs := [.int .i64 (((n : Nat) : Int)), ve, vi, vo]) Tagg_26 rfl (Cells.blk (.tail _ (List.Mem.head _)) ⟨rfl, rfl, rfl, rfl, trivial⟩)) ?_
  refine Run.y (.pointer (some ⟨b2, 1, none⟩)) rfl (OpY.fieldAddr Tfo_38_1 rfl rfl) ?_
  refine Run.y (.slice Ay nl cy_) rfl (OpY.load1 Tone_24 rfl (Cells.blk (.head _) ⟨rfl, trivial⟩)) ?_
  refine Run.q (v := .bool (layB ly nl n)) rfl (OpQ.call (vs := [.agg #[.int .i64 (((n : Nat) : Int)), ve, vi, vo], .slice Ay nl cy_]) (caps := []) Tcall_64 rfl rfl (fun w hs => areLayers_spec (hs.sl hy))) ?_
  refine Run.p (.bool (!(layB ly nl n))) rfl rfl ?_
  refine Run.p (.bool (!(layB ly nl n))) rfl rfl ?_
  refine Run.done ?_
  refine Run.cond (b := !(layB ly nl n)) rfl (fun h20 => ?_) (fun h20 => ?_)
  ·have p20 := h20; try simp only [bs] at p20
   refine Run.seq ?_
   have hres : gfB es m n is ni os no nx nn ly nl = false := by
    unfold gfB
    first | (rw [decide_eq_false (show ¬ nn = n by omega)]; rfl) | (rw [show layB ly nl n = false by simpa using p20]; simp)
   refine Run.region ?_
   refine Run.p (.bool false) rfl rfl ?_
   refine Run.done ?_
   refine Run.ret ?_
   refine ⟨.bool false, [], Out.one rfl rfl, (Some'.weak (.nil _)), ?_⟩
   show _ = _; rw [hres]
  ·have p20 := h20; try simp only [bs] at p20
   have hnn : nn = n := by omega
   have hlay : layB ly nl n = true := by simpa using p20
   have hnl : nl = n := by simp only [layB, Bool.and_eq_true, decide_eq_true_eq] at hlay; exact hlay.1
   refine Run.skip ?_
   refine Run.seq ?_
   refine Run.sr ?_
   refine Run.y (.pointer (some ⟨b2, 0, none⟩)) rfl (OpY.fieldAddr Tfo_38_0 rfl rfl) ?_
   refine Run.y (.slice Ax nn cx_) rfl (OpY.load1 Tone_24 rfl (Cells.blk (.head _) ⟨rfl, trivial⟩)) ?_
   refine Run.y (.int .i64 (((nn : Nat) : Int))) rfl (OpY.len Tsl_24 rfl) ?_
   refine Run.p (.int .i64 0) rfl rfl ?_
   refine Run.done ?_
   refine Run.block ?_
   refine Run.loop (ι := Nat) ([4, 5, 6, 7, 24, 25, 26, 27, 28, 29, 30, 31, 32, 33, 34, 35, 36, 37, 38, 39, 40, 41, 42, 43, 44, 45, 46, 47, 48, 49, 50, 51, 52, 53, 54, 55, 56, 57, 58, 59, 60, 61, 62, 63, 64, 65, 66, 67, 68, 69] ++ [70, 71, 72, 73, 74, 75, 76, 77, 78, 79]) (fun k => [(24, .int .i64 (((k : Nat) : Int)))]) (fun k => [.blk b2 38 [.slice Ax nn cx_, .slice Ay nl cy_], .blk b1 26 [.int .i64 (((n : Nat) : Int)), ve, vi, vo]]) (fun k => k ≤ nn ∧ (∀ i, i < k → gfAt es m n is ni os no nx ly i = true)) (fun k => nn - k) 0 ?_ ?_ ?_ ?_
   ·exact ⟨Nat.zero_le _, by first | trivial | (intro i hi; omega)⟩
   ·exact ⟨rfl, trivial⟩
   ·exact (Some'.weak (.take (.take (.nil _))))
   ·rintro k fr hinv
    show Run _ _ (over _ _ [(24, .int .i64 (((k : Nat) : Int)))] fr) [.blk b2 38 [.slice Ax nn cx_, .slice Ay nl cy_], .blk b1 26 [.int .i64 (((n : Nat) : Int)), ve, vi, vo]]
    try dsimp only at hinv
    refine Run.sr ?_
    refine Run.p (.bool (decide ((((k : Nat) : Int)) < (((nn : Nat) : Int))))) rfl rfl ?_
    refine Run.done ?_
    refine Run.seq ?_
    refine Run.cond (b := decide ((((k : Nat) : Int)) < (((nn : Nat) : Int)))) rfl (fun h25 => ?_) (fun h25 => ?_)
    ·have p25 := h25; try simp only [bs] at p25
     have hltk : k < nn := by omega
     obtain ⟨bq, oq, rfl⟩ := hx.opn (by omega)
     have hkn : k < n := by omega
     obtain ⟨q2, hq2, hq21, hq22⟩ := pow_q (k := k) hn10 hkn
     refine Run.skip ?_
     refine Run.seq ?_
     refine Run.block ?_
     refine Run.sr ?_
     refine Run.p (.int .i64 (((k : Nat) : Int))) rfl rfl ?_
     refine Run.y (.pointer (some ⟨bq, oq + k, none⟩)) rfl (OpY.index (kk := k) Tsl_24 rfl rfl (by omega) (by omega) (by first | rfl | omega)) ?_
     refine Run.y (.int .i64 (ix nx (k))) rfl (OpY.load1 Tone_3 rfl (Cells.arg (k := k) hx rfl (by omega) (pre1 (by omega)))) ?_
     refine Run.p (.int .i64 (((k : Nat) : Int))) rfl rfl ?_
     refine Run.p (.int .i64 (ix nx (k))) rfl rfl ?_
     refine Run.done ?_
     refine Run.seq ?_
     refine Run.sr ?_
     refine Run.y (.pointer (some ⟨b1, 3, none⟩)) rfl (OpY.fieldAddr Tfo_26_3 rfl rfl) ?_
     refine Run.y (vo) rfl (OpY.load1 Tone_24 rfl (Cells.blk (.tail _ (List.Mem.head _)) ⟨rfl, trivial⟩)) ?_
     refine Run.p (.int .i64 (((k : Nat) : Int))) rfl rfl ?_
     refine Run.q (v := .bool (hasI os (k : Int) no)) rfl (OpQ.call (vs := [vo, .int .i64 (((k : Nat) : Int))]) (caps := []) Tcall_30 rfl rfl (fun w hs => ContainsInt_spec (hs.sl ho))) ?_
     refine Run.done ?_
     refine Run.cond (b := hasI os (k : Int) no) rfl (fun h32 => ?_) (fun h32 => ?_)
     ·have p32 := h32; try simp only [bs] at p32
      have hno : hasI os (k : Int) no = true := by simpa using p32
      refine Run.seq ?_
      refine Run.sr ?_
      refine Run.p (.int .i64 (ix nx (k))) rfl rfl ?_
      refine Run.p (.bool ((ix nx (k)) != 0)) rfl rfl ?_
      refine Run.done ?_
      refine Run.cond (b := (ix nx (k)) != 0) rfl (fun h34 => ?_) (fun h34 => ?_)
      ·have p34 := h34; try simp only [bs] at p34
       have hres : gfB es m n is ni os no nx nn ly nl = false := gfB_at hltk (by unfold gfAt; rw [if_pos hno]; exact decide_eq_false (by omega))
       refine Run.sr ?_
       refine Run.p (.bool false) rfl rfl ?_
       refine Run.done ?_
       refine Run.ret ?_
       refine ⟨.bool false, [], Out.one rfl rfl, (Some'.weak (.nil _)), ?_⟩
       show _ = _; rw [hres]
      ·have p34 := h34; try simp only [bs] at p34
       have hgood : gfAt es m n is ni os no nx ly k = true := by unfold gfAt; rw [if_pos hno]; exact decide_eq_true (by omega)
       refine Run.skip ?_
       refine Run.exit rfl ?_
       refine Run.region ?_
       refine Run.y (.int .i64 ((((k : Nat) : Int)) + 1)) rfl (OpY.add rfl rfl rfl (by omega) (by omega)) ?_
       refine Run.p (.int .i64 ((((k : Nat) : Int)) + 1)) rfl rfl ?_
       refine Run.done ?_
       refine Run.goal ⟨(by repeat (first | exact Same.refl _ _ | refine Same.put rfl ?_ | refine Same.over rfl rfl ?_)), k + 1, ?_, ?_, ?_, ?_⟩
       ·refine ⟨by omega, ?_⟩
        intro i hi
        rcases Nat.lt_succ_iff_lt_or_eq.1 hi with h | h
        ·exact hinv.2 i h
        ·rw [h]; exact hgood
       ·omega
       ·exact ⟨(by first | rfl | (congr 1; omega) | simp), trivial⟩
       ·exact (Some'.weak (.takeEq (by first | rfl | simp) (.take (.nil _))))
     ·have p32 := h32; try simp only [bs] at p32
      have hno : hasI os (k : Int) no = false := by simpa using p32
      refine Run.skip ?_
      refine Run.seq ?_
      refine Run.sr ?_
      refine Run.p (.int .i64 (ix nx (k))) rfl rfl ?_
      refine Run.y (.pointer (some ⟨b1, 0, none⟩)) rfl (OpY.fieldAddr Tfo_26_0 rfl rfl) ?_
      refine Run.y (.int .i64 (((n : Nat) : Int))) rfl (OpY.load1 Tone_3 rfl (Cells.blk (.tail _ (List.Mem.head _)) ⟨rfl, trivial⟩)) ?_
      refine Run.y (.int .i64 (((qn : Nat) : Int))) rfl (OpY.shlOne rfl rfl rfl (by omega) hqn) ?_
      refine Run.y (.int .i64 ((((qn : Nat) : Int)) - 1)) rfl (OpY.sub rfl rfl rfl (by omega) (by omega)) ?_
      refine Run.q (v := .bool (within (ix nx k) 0 ((qn : Int) - 1))) rfl (OpQ.call (vs := [.int .i64 (ix nx (k)), .int .i64 0, .int .i64 ((((qn : Nat) : Int)) - 1)]) (caps := []) Tcall_48 rfl rfl (fun w hs => within_spec _ _ _ w)) ?_
      refine Run.p (.bool (!(within (ix nx k) 0 ((qn : Int) - 1)))) rfl rfl ?_
      rcases Bool.eq_false_or_eq_true (!(within (ix nx k) 0 ((qn : Int) - 1))) with h42 | h42
      ·refine Run.q (v := .bool true) rfl (OpQ.y (OpY.moveB rfl h42)) ?_
       have p42 := h42; try simp only [bs] at p42
       have hz1 : within (ix nx k) 0 (((2 ^ n : Nat) : Int) - 1) = false := by rw [← hqn]; simpa using p42
       refine Run.pass rfl ?_
       refine Run.pass rfl ?_
       refine Run.pass rfl ?_
       refine Run.pass rfl ?_
       refine Run.pass rfl ?_
       refine Run.pass rfl ?_
       refine Run.p (.bool true) rfl rfl ?_
       refine Run.p (.bool true) rfl rfl ?_
       refine Run.pass rfl ?_
       refine Run.pass rfl ?_
       refine Run.pass rfl ?_
       refine Run.pass rfl ?_
       refine Run.pass rfl ?_
       refine Run.p (.bool true) rfl rfl ?_
       refine Run.done ?_
       refine Run.cond (b := true) rfl (fun _ => ?_) (fun h => nomatch h)
       refine Run.seq ?_
       have hres : gfB es m n is ni os no nx nn ly nl = false := gfB_at hltk (by unfold gfAt; rw [if_neg (by rw [hno]; decide)]; first | (rw [hz1]; rfl) | (rw [hut, decide_eq_false hz2]; simp; done) | (simp only [hut, hz3, Bool.not_true, Bool.and_false, Bool.false_and]))
       refine Run.region ?_
       refine Run.p (.bool false) rfl rfl ?_
       refine Run.done ?_
       refine Run.ret ?_
       refine ⟨.bool false, [], Out.one rfl rfl, (Some'.weak (.nil _)), ?_⟩
       show _ = _; rw [hres]
      ·refine Run.q (v := .bool false) rfl (OpQ.y (OpY.moveB rfl h42)) ?_
       have p42 := h42; try simp only [bs] at p42
       have hw1 : within (ix nx k) 0 (((2 ^ n : Nat) : Int) - 1) = true := by rw [← hqn]; simpa using p42
       have hw1i := within_iff.1 hw1
       obtain ⟨s, hs_⟩ : ∃ u : Nat, ix nx k = (u : Int) := ⟨(ix nx k).toNat, by omega⟩
       have hut : (ix nx k).toNat = s := by rw [hs_, Int.toNat_natCast]
       have hsn : s < 2 ^ n := by omega
       have hodl := oddM_lt es m n s n
       have hsand : s &&& mskK is ni < 2 ^ n := Nat.lt_of_le_of_lt Nat.and_le_left hsn
       refine Run.p (.int .i64 (ix nx (k))) rfl rfl ?_
       refine Run.y (.pointer (some ⟨b1, 2, none⟩)) rfl (OpY.fieldAddr Tfo_26_2 rfl rfl) ?_
       refine Run.y (vi) rfl (OpY.load1 Tone_24 rfl (Cells.blk (.tail _ (List.Mem.head _)) ⟨rfl, trivial⟩)) ?_
       refine Run.q (v := .int .i64 (((mskK is ni : Nat) : Int))) rfl (OpQ.call (vs := [vi]) (caps := []) Tcall_38 rfl rfl (fun w hs => maskOf_spec hn10 (ris_in hri) (hs.sl hi))) ?_
       refine Run.y (.int .i64 (((s &&& mskK is ni : Nat) : Int))) rfl (OpY.andNatE rfl rfl hs_ rfl (by omega) (by omega)) ?_
       refine Run.p (.bool ((((s &&& mskK is ni : Nat) : Int)) != 0)) rfl rfl ?_
       refine Run.p (.bool ((((s &&& mskK is ni : Nat) : Int)) != 0)) rfl rfl ?_
       rcases Bool.eq_false_or_eq_true ((((s &&& mskK is ni : Nat) : Int)) != 0) with h50 | h50
       ·refine Run.q (v := .bool true) rfl (OpQ.y (OpY.moveB rfl h50)) ?_
        have p50 := h50; try simp only [bs] at p50
        have hz2 : ¬ s &&& mskK is ni = 0 := by omega
        refine Run.pass rfl ?_
        refine Run.pass rfl ?_
        refine Run.pass rfl ?_
        refine Run.pass rfl ?_
        refine Run.pass rfl ?_
        refine Run.p (.bool true) rfl rfl ?_
        refine Run.done ?_
        refine Run.cond (b := true) rfl (fun _ => ?_) (fun h => nomatch h)
        refine Run.seq ?_
        have hres : gfB es m n is ni os no nx nn ly nl = false := gfB_at hltk (by unfold gfAt; rw [if_neg (by rw [hno]; decide)]; first | (rw [hz1]; rfl) | (rw [hut, decide_eq_false hz2]; simp; done) | (simp only [hut, hz3, Bool.not_true, Bool.and_false, Bool.false_and]))
        refine Run.region ?_
        refine Run.p (.bool false) rfl rfl ?_
        refine Run.done ?_
        refine Run.ret ?_
        refine ⟨.bool false, [], Out.one rfl rfl, (Some'.weak (.nil _)), ?_⟩
        show _ = _; rw [hres]
       ·refine Run.q (v := .bool false) rfl (OpQ.y (OpY.moveB rfl h50)) ?_
        have p50 := h50; try simp only [bs] at p50
        have hw2 : s &&& mskK is ni = 0 := by omega
        refine Run.p (.int .i64 (ix nx (k))) rfl rfl ?_
        refine Run.p (.int .i64 (((k : Nat) : Int))) rfl rfl ?_
        refine Run.y (.int .i64 ((ix nx (k)) >>> k)) rfl (OpY.shr rfl rfl (by first | rfl | omega) (by omega)) ?_
        refine Run.y (.int .i64 (((ix nx (k)) >>> k) % 2)) rfl (OpY.and1 rfl rfl) ?_
        refine Run.p (.bool ((((ix nx (k)) >>> k) % 2) == 1)) rfl rfl ?_
        refine Run.p (.bool ((((ix nx (k)) >>> k) % 2) == 1)) rfl rfl ?_
        refine Run.done ?_
        refine Run.cond (b := (((ix nx (k)) >>> k) % 2) == 1) rfl (fun h56 => ?_) (fun h56 => ?_)
        ·have p56 := h56; try simp only [bs] at p56
         have hz3 : s.testBit k = true := by rw [← bitN, ← hs_]; exact bitI_true p56
         refine Run.seq ?_
         have hres : gfB es m n is ni os no nx nn ly nl = false := gfB_at hltk (by unfold gfAt; rw [if_neg (by rw [hno]; decide)]; first | (rw [hz1]; rfl) | (rw [hut, decide_eq_false hz2]; simp; done) | (simp only [hut, hz3, Bool.not_true, Bool.and_false, Bool.false_and]))
         refine Run.region ?_
         refine Run.p (.bool false) rfl rfl ?_
         refine Run.done ?_
         refine Run.ret ?_
         refine ⟨.bool false, [], Out.one rfl rfl, (Some'.weak (.nil _)), ?_⟩
         show _ = _; rw [hres]
        ·have p56 := h56; try simp only [bs] at p56
         have hw3 : s.testBit k = false := by rw [← bitN, ← hs_]; exact bitI_ne1 p56
         refine Run.skip ?_
         refine Run.sr ?_
         refine Run.y (.agg #[.int .i64 (((n : Nat) : Int)), ve, vi, vo]) rfl (OpY.loadN (cs := [.int .i64 (((n : Nat) : Int)), ve, vi, vo]) Tagg_26 rfl (Cells.blk (.tail _ (List.Mem.head _)) ⟨rfl, rfl, rfl, rfl, trivial⟩)) ?_
         refine Run.p (.int .i64 (ix nx (k))) rfl rfl ?_
         refine Run.q (v := .int .i64 (((oddM es m n s n : Nat) : Int))) rfl (OpQ.call (vs := [.agg #[.int .i64 (((n : Nat) : Int)), ve, vi, vo], .int .i64 (ix nx (k))]) (caps := []) Tcall_49 rfl rfl (fun w hs => (by have h := odd_spec (set := s) (ve := ve) (vi := vi) (vo := vo) hn10 hsn hes (hs.sl he); rw [← hs_] at h; exact h))) ?_
         refine Run.p (.int .i64 (((oddM es m n s n : Nat) : Int))) rfl rfl ?_
         refine Run.done ?_
         refine Run.seq ?_
         refine Run.draws (by kernel_rfl) (by kernel_rfl) ?_
         refine Lex.q (v := .int .i64 (((oddM es m n s n : Nat) : Int))) rfl (OpQ.y (OpY.pure rfl)) ?_
         refine Lex.q (v := .int .i64 (((k : Nat) : Int))) rfl (OpQ.y (OpY.pure rfl)) ?_
         refine Lex.q (v := .int .i64 ((((oddM es m n s n : Nat) : Int)) >>> k)) rfl (OpQ.y (OpY.shr rfl rfl (by first | rfl | omega) (by omega))) ?_
         refine Lex.q (v := .int .i64 (((((oddM es m n s n : Nat) : Int)) >>> k) % 2)) rfl (OpQ.y (OpY.and1 rfl rfl)) ?_
         refine Lex.q (v := .bool ((((((oddM es m n s n : Nat) : Int)) >>> k) % 2) == 0)) rfl (OpQ.y (OpY.pure rfl)) ?_
         rcases Bool.eq_false_or_eq_true ((((((oddM es m n s n : Nat) : Int)) >>> k) % 2) == 0) with h65 | h65
         ·refine Lex.q (v := .bool true) rfl (OpQ.y (OpY.moveB rfl h65)) ?_
          have p65 := h65; try simp only [bs] at p65
          have hz4 : (oddM es m n s n).testBit k = false := by rw [← bitN]; exact bitI_false p65
          refine Lex.pass rfl ?_
          refine Lex.pass rfl ?_
          refine Lex.pass rfl ?_
          refine Lex.pass rfl ?_
          refine Lex.pass rfl ?_
          refine Lex.pass rfl ?_
          refine Lex.pass rfl ?_
          refine Lex.pass rfl ?_
          refine Lex.pass rfl ?_
          refine Lex.pass rfl ?_
          refine Lex.pass rfl ?_
          refine Lex.pass rfl ?_
          refine Lex.q (v := .bool true) rfl (OpQ.y (OpY.pure rfl)) ?_
          refine Lex.done ?_
          refine Run.cond (b := true) rfl (fun _ => ?_) (fun h => nomatch h)
          refine Run.seq ?_
          have hres : gfB es m n is ni os no nx nn ly nl = false := gfB_at hltk (by unfold gfAt; rw [if_neg (by rw [hno]; decide)]; first | (simp only [hut, hz4, Bool.and_false, Bool.false_and]; done) | (simp only [hut, hz5, Bool.and_false]; done))
          refine Run.region ?_
          refine Run.p (.bool false) rfl rfl ?_
          refine Run.done ?_
          refine Run.ret ?_
          refine ⟨.bool false, [], Out.one rfl rfl, (Some'.weak (.nil _)), ?_⟩
          show _ = _; rw [hres]
         ·refine Lex.q (v := .bool false) rfl (OpQ.y (OpY.moveB rfl h65)) ?_
          have p65 := h65; try simp only [bs] at p65
          have hw4 : (oddM es m n s n).testBit k = true := by rw [← bitN]; exact bitI_ne p65
          have hcl : (oddM es m n s n) ^^^ ((oddM es m n s n) &&& q2) = clr (oddM es m n s n) k := by rw [hq2]; rfl
          have hcll := clr_lt (v := k) hodl
          have hor : s ||| clr (oddM es m n s n) k < 2 ^ n := Nat.or_lt_two_pow hsn hcll
          refine Lex.q (v := .agg #[.int .i64 (((n : Nat) : Int)), ve, vi, vo]) rfl (OpQ.y (OpY.loadN (cs := [.int .i64 (((n : Nat) : Int)), ve, vi, vo]) Tagg_26 rfl (Cells.blk (.tail _ (List.Mem.head _)) ⟨rfl, rfl, rfl, rfl, trivial⟩))) ?_
          refine Lex.q (v := .pointer (some ⟨b2, 1, none⟩)) rfl (OpQ.y (OpY.fieldAddr Tfo_38_1 rfl rfl)) ?_
          refine Lex.q (v := .slice Ay nl cy_) rfl (OpQ.y (OpY.load1 Tone_24 rfl (Cells.blk (.head _) ⟨rfl, trivial⟩))) ?_
          refine Lex.q (v := .int .i64 (((k : Nat) : Int))) rfl (OpQ.y (OpY.pure rfl)) ?_
          refine Lex.q (v := .int .i64 (ix nx (k))) rfl (OpQ.y (OpY.pure rfl)) ?_
          refine Lex.q (v := .int .i64 (((oddM es m n s n : Nat) : Int))) rfl (OpQ.y (OpY.pure rfl)) ?_
          refine Lex.q (v := .int .i64 (((k : Nat) : Int))) rfl (OpQ.y (OpY.pure rfl)) ?_
          refine Lex.q (v := .int .i64 (((q2 : Nat) : Int))) rfl (OpQ.y (OpY.shlOne rfl rfl rfl (by omega) hq2)) ?_
          refine Lex.q (v := .int .i64 (((clr (oddM es m n s n) k : Nat) : Int))) rfl (OpQ.y (OpY.andNotNat rfl rfl (by omega) (by omega) hcl)) ?_
          refine Lex.q (v := .int .i64 (((s ||| clr (oddM es m n s n) k : Nat) : Int))) rfl (OpQ.y (OpY.orNatE rfl rfl hs_ (by omega) (by omega))) ?_
          refine Lex.q (v := .bool (befB ly k (s ||| clr (oddM es m n s n) k) n)) rfl (OpQ.call (vs := [.agg #[.int .i64 (((n : Nat) : Int)), ve, vi, vo], .slice Ay nl cy_, .int .i64 (((k : Nat) : Int)), .int .i64 (((s ||| clr (oddM es m n s n) k : Nat) : Int))]) (caps := []) Tcall_65 rfl rfl (fun w hs => (by have h := isBefore_spec (v := k) (set := s ||| clr (oddM es m n s n) k) (ve := ve) (vi := vi) (vo := vo) hn10 hkn hor (Sl.cnt hnl (hs.sl hy)); exact h))) ?_
          refine Lex.q (v := .bool (!(befB ly k (s ||| clr (oddM es m n s n) k) n))) rfl (OpQ.y (OpY.pure rfl)) ?_
          refine Lex.q (v := .bool (!(befB ly k (s ||| clr (oddM es m n s n) k) n))) rfl (OpQ.y (OpY.pure rfl)) ?_
          refine Lex.done ?_
          refine Run.cond (b := !(befB ly k (s ||| clr (oddM es m n s n) k) n)) rfl (fun h78 => ?_) (fun h78 => ?_)
          ·have p78 := h78; try simp only [bs] at p78
           have hz5 : befB ly k (s ||| clr (oddM es m n s n) k) n = false := by simpa using p78
           refine Run.seq ?_
           have hres : gfB es m n is ni os no nx nn ly nl = false := gfB_at hltk (by unfold gfAt; rw [if_neg (by rw [hno]; decide)]; first | (simp only [hut, hz4, Bool.and_false, Bool.false_and]; done) | (simp only [hut, hz5, Bool.and_false]; done))
           refine Run.region ?_
           refine Run.p (.bool false) rfl rfl ?_
           refine Run.done ?_
           refine Run.ret ?_
           refine ⟨.bool false, [], Out.one rfl rfl, (Some'.weak (.nil _)), ?_⟩
           show _ = _; rw [hres]
          ·have p78 := h78; try simp only [bs] at p78
           have hw5 : befB ly k (s ||| clr (oddM es m n s n) k) n = true := by simpa using p78
           have hgood : gfAt es m n is ni os no nx ly k = true := by unfold gfAt; rw [if_neg (by rw [hno]; decide)]; simp only [hut, hw1, hw2, hw3, hw4, hw5, decide_true, Bool.not_false, Bool.and_self]
           refine Run.skip ?_
           refine Run.blockEnd ?_
           refine Run.region ?_
           refine Run.y (.int .i64 ((((k : Nat) : Int)) + 1)) rfl (OpY.add rfl rfl rfl (by omega) (by omega)) ?_
           refine Run.p (.int .i64 ((((k : Nat) : Int)) + 1)) rfl rfl ?_
           refine Run.done ?_
           refine Run.goal ⟨(by repeat (first | exact Same.refl _ _ | refine Same.put rfl ?_ | refine Same.over rfl rfl ?_)), k + 1, ?_, ?_, ?_, ?_⟩
           ·refine ⟨by omega, ?_⟩
            intro i hi
            rcases Nat.lt_succ_iff_lt_or_eq.1 hi with h | h
            ·exact hinv.2 i h
            ·rw [h]; exact hgood
           ·omega
           ·exact ⟨(by first | rfl | (congr 1; omega) | simp), trivial⟩
           ·exact (Some'.weak (.takeEq (by first | rfl | simp) (.take (.nil _))))
    ·have p25 := h25; try simp only [bs] at p25
     have hknk : k = nn := by omega
     have hres : gfB es m n is ni os no nx nn ly nl = true := by
      unfold gfB; rw [decide_eq_true hnn, hlay, Bool.true_and, Bool.true_and]; exact allI_iff.2 (by rw [← hknk]; exact hinv.2)
     refine Run.exit rfl ?_
     refine Run.sr ?_
     refine Run.p (.bool true) rfl rfl ?_
     refine Run.done ?_
     refine Run.ret ?_
     refine ⟨.bool true, [], Out.one rfl rfl, (Some'.weak (.nil _)), ?_⟩
     show _ = _; rw [hres]

set_option maxHeartbeats 2000000 in
set_option maxRecDepth 20000 in
theorem l19GFlow_spec {ve vi vo vx vy : Value} {n m ni no nn nl : Nat} {es is os nx ly : List Int} {w : World} (hn1 : 1 ≤ n) (hn10 : n ≤ 10) (hes : edgesOk (n : Int) es m = true) (hri : risB is n ni = true) (he : Sl w ve 2 m (ints es)) (hi : Sl w vi 1 ni (ints is)) (ho : Sl w vo 1 no (ints os)) (hx : Sl w vx 1 nn (ints nx)) (hy : Sl w vy 1 nl (ints ly)) : Calls Try.prog 45 #[.agg #[.int .i64 (n : Int), ve, vi, vo], .agg #[vx, vy]] w (Post No w fun v _ => v = .bool (gfB es m n is ni os no nx nn ly nl)) := by
 have hp10 := pow10 hn10
 obtain ⟨Ax, cx_, rfl, _, _⟩ := hx.form0
 have hxl := hx.len
 obtain ⟨Ay, cy_, rfl, _, _⟩ := hy.form0
 obtain ⟨qn, hqn⟩ : ∃ q : Nat, q = 2 ^ n := ⟨_, rfl⟩
 have hqn1 : 1 ≤ qn := by rw [hqn]; exact Nat.two_pow_pos _
 have hmk := mskK_lt (n := n) (k := ni) (l := is) (ris_in hri)
 refine enter (n := 86) (args := [.agg #[.int .i64 (((n : Nat) : Int)), ve, vi, vo], .agg #[.slice Ax nn cx_, .slice Ay nl cy_]]) Try.func45 rfl rfl (St.empty _ _) ?_
 refine Run.sr ?_
 refine Run.step rfl (OpStep.box (us := [.int .i64 (((n : Nat) : Int)), ve, vi, vo]) rfl fun b1 => ?_)
 refine Run.step rfl (OpStep.box (us := [.slice Ax nn cx_, .slice Ay nl cy_]) rfl fun b2 => ?_)
 refine Run.p (.bool false) rfl rfl ?_
 refine Run.done ?_
 refine Run.seq ?_
 refine Run.sr ?_
 refine Run.y (.pointer (some ⟨b2, 0, none⟩)) rfl (OpY.fieldAddr Tfo_38_0 rfl rfl) ?_
 refine Run.y (.slice Ax nn cx_) rfl (OpY.load1 Tone_24 rfl (Cells.blk (.head _) ⟨rfl, trivial⟩)) ?_
 refine Run.y (.int .i64 (((nn : Nat) : Int))) rfl (OpY.len Tsl_24 rfl) ?_
 refine Run.y (.pointer (some ⟨b1, 0, none⟩)) rfl (OpY.fieldAddr Tfo_26_0 rfl rfl) ?_
 refine Run.y (.int .i64 (((n : Nat) : Int))) rfl (OpY.load1 Tone_3 rfl (Cells.blk (.tail _ (List.Mem.head _)) ⟨rfl, trivial⟩)) ?_
 refine Run.p (.bool ((((nn : Nat) : Int)) != (((n : Nat) : Int)))) rfl rfl ?_
 rcases Bool.eq_false_or_eq_true ((((nn : Nat) : Int)) != (((n : Nat) : Int))) with h14 | h14
 ·refine Run.q (v := .bool true) rfl (OpQ.y (OpY.moveB rfl h14)) ?_
  have p14 := h14; try simp only [bs] at p14
  refine Run.pass rfl ?_
  refine Run.pass rfl ?_
  refine Run.pass rfl ?_
  refine Run.pass rfl ?_
  refine Run.pass rfl ?_
  refine Run.pass rfl ?_
  refine Run.p (.bool true) rfl rfl ?_
  refine Run.p (.bool true) rfl rfl ?_
  refine Run.pass rfl ?_
  refine Run.pass rfl ?_
  refine Run.pass rfl ?_
  refine Run.pass rfl ?_
  refine Run.p (.bool true) rfl rfl ?_
  refine Run.done ?_
  refine Run.cond (b := true) rfl (fun _ => ?_) (fun h => nomatch h)
  refine Run.seq ?_
  have hres : gfB es m n is ni os no nx nn ly nl = false := by
   unfold gfB layB
   first | (rw [decide_eq_false (show ¬ nn = n by omega)]; rfl) | (rw [decide_eq_false (show ¬ nl = n by omega)]; simp; done) | (rw [show allI (fun i => within (ix ly i) 0 100) nl = false by simpa using p27]; simp)
  refine Run.region ?_
  refine Run.p (.bool false) rfl rfl ?_
  refine Run.done ?_
  refine Run.ret ?_
  refine ⟨.bool false, [], Out.one rfl rfl, (Some'.weak (.nil _)), ?_⟩
  show _ = _; rw [hres]
 ·refine Run.q (v := .bool false) rfl (OpQ.y (OpY.moveB rfl h14)) ?_
  have p14 := h14; try simp only [bs] at p14
  refine Run.y (.pointer (some ⟨b2, 1, none⟩)) rfl (OpY.fieldAddr Tfo_38_1 rfl rfl) ?_
  refine Run.y (.slice Ay nl cy_) rfl (OpY.load1 Tone_24 rfl (Cells.blk (.head _) ⟨rfl, trivial⟩)) ?_
  refine Run.y (.int .i64 (((nl : Nat) : Int))) rfl (OpY.len Tsl_24 rfl) ?_
  refine Run.y (.pointer (some ⟨b1, 0, none⟩)) rfl (OpY.fieldAddr Tfo_26_0 rfl rfl) ?_
  refine Run.y (.int .i64 (((n : Nat) : Int))) rfl (OpY.load1 Tone_3 rfl (Cells.blk (.tail _ (List.Mem.head _)) ⟨rfl, trivial⟩)) ?_
  refine Run.p (.bool ((((nl : Nat) : Int)) != (((n : Nat) : Int)))) rfl rfl ?_
  refine Run.p (.bool ((((nl : Nat) : Int)) != (((n : Nat) : Int)))) rfl rfl ?_
  rcases Bool.eq_false_or_eq_true ((((nl : Nat) : Int)) != (((n : Nat) : Int))) with h22 | h22
  ·refine Run.q (v := .bool true) rfl (OpQ.y (OpY.moveB rfl h22)) ?_
   have p22 := h22; try simp only [bs] at p22
   refine Run.pass rfl ?_
   refine Run.pass rfl ?_
   refine Run.pass rfl ?_
   refine Run.pass rfl ?_
   refine Run.p (.bool true) rfl rfl ?_
   refine Run.done ?_
   refine Run.cond (b := true) rfl (fun _ => ?_) (fun h => nomatch h)
   refine Run.seq ?_
   have hres : gfB es m n is ni os no nx nn ly nl = false := by
    unfold gfB layB
    first | (rw [decide_eq_false (show ¬ nn = n by omega)]; rfl) | (rw [decide_eq_false (show ¬ nl = n by omega)]; simp; done) | (rw [show allI (fun i => within (ix ly i) 0 100) nl = false by simpa using p27]; simp)
   refine Run.region ?_
   refine Run.p (.bool false) rfl rfl ?_
   refine Run.done ?_
   refine Run.ret ?_
   refine ⟨.bool false, [], Out.one rfl rfl, (Some'.weak (.nil _)), ?_⟩
   show _ = _; rw [hres]
  ·refine Run.q (v := .bool false) rfl (OpQ.y (OpY.moveB rfl h22)) ?_
   have p22 := h22; try simp only [bs] at p22
   refine Run.y (.pointer (some ⟨b2, 1, none⟩)) rfl (OpY.fieldAddr Tfo_38_1 rfl rfl) ?_
   refine Run.y (.slice Ay nl cy_) rfl (OpY.load1 Tone_24 rfl (Cells.blk (.head _) ⟨rfl, trivial⟩)) ?_
   refine Run.q (v := .bool (allI (fun i => within (ix ly i) 0 100) nl)) rfl (OpQ.call (vs := [.slice Ay nl cy_, .int .i64 0, .int .i64 100]) (caps := []) Tcall_66 rfl rfl (fun w hs => (by have h := l1All_spec (lo := 0) (hi := 100) (hs.sl hy); rw [not_any] at h; exact h))) ?_
   refine Run.p (.bool (!(allI (fun i => within (ix ly i) 0 100) nl))) rfl rfl ?_
   refine Run.p (.bool (!(allI (fun i => within (ix ly i) 0 100) nl))) rfl rfl ?_
   refine Run.done ?_
   refine Run.cond (b := !(allI (fun i => within (ix ly i) 0 100) nl)) rfl (fun h27 => ?_) (fun h27 => ?_)
   ·have p27 := h27; try simp only [bs] at p27
    refine Run.seq ?_
    have hres : gfB es m n is ni os no nx nn ly nl = false := by
     unfold gfB layB
     first | (rw [decide_eq_false (show ¬ nn = n by omega)]; rfl) | (rw [decide_eq_false (show ¬ nl = n by omega)]; simp; done) | (rw [show allI (fun i => within (ix ly i) 0 100) nl = false by simpa using p27]; simp)
    refine Run.region ?_
    refine Run.p (.bool false) rfl rfl ?_
    refine Run.done ?_
    refine Run.ret ?_
    refine ⟨.bool false, [], Out.one rfl rfl, (Some'.weak (.nil _)), ?_⟩
    show _ = _; rw [hres]
   ·have p27 := h27; try simp only [bs] at p27
    have hnn : nn = n := by omega
    have hnl : nl = n := by omega
    have hlay : layB ly nl n = true := by unfold layB; rw [decide_eq_true hnl, Bool.true_and]; simpa using p27
    refine Run.skip ?_
    refine Run.seq ?_
    refine Run.sr ?_
    refine Run.y (.pointer (some ⟨b2, 0, none⟩)) rfl (OpY.fieldAddr Tfo_38_0 rfl rfl) ?_
    refine Run.y (.slice Ax nn cx_) rfl (OpY.load1 Tone_24 rfl (Cells.blk (.head _) ⟨rfl, trivial⟩)) ?_
    refine Run.y (.int .i64 (((nn : Nat) : Int))) rfl (OpY.len Tsl_24 rfl) ?_
    refine Run.p (.int .i64 0) rfl rfl ?_
    refine Run.done ?_
    refine Run.block ?_
    refine Run.loop (ι := Nat) ([4, 5, 6, 7, 31, 32, 33, 34, 35, 36, 37, 38, 39, 40, 41, 42, 43, 44, 45, 46, 47, 48, 49, 50, 51, 52, 53, 54, 55, 56, 57, 58, 59, 60, 61, 62, 63, 64, 65, 66, 67, 68, 69, 70, 71, 72, 73, 74, 75, 76] ++ [77, 78, 79, 80, 81, 82, 83, 84, 85]) (fun k => [(31, .int .i64 (((k : Nat) : Int)))]) (fun k => [.blk b2 38 [.slice Ax nn cx_, .slice Ay nl cy_], .blk b1 26 [.int .i64 (((n : Nat) : Int)), ve, vi, vo]]) (fun k => k ≤ nn ∧ (∀ i, i < k → gfAt es m n is ni os no nx ly i = true)) (fun k => nn - k) 0 ?_ ?_ ?_ ?_
    ·exact ⟨Nat.zero_le _, by first | trivial | (intro i hi; omega)⟩
    ·exact ⟨rfl, trivial⟩
    ·exact (Some'.weak (.take (.take (.nil _))))
    ·rintro k fr hinv
     show Run _ _ (over _ _ [(31, .int .i64 (((k : Nat) : Int)))] fr) [.blk b2 38 [.slice Ax nn cx_, .slice Ay nl cy_], .blk b1 26 [.int .i64 (((n : Nat) : Int)), ve, vi, vo]]
     try dsimp only at hinv
     refine Run.sr ?_
     refine Run.p (.bool (decide ((((k : Nat) : Int)) < (((nn : Nat) : Int))))) rfl rfl ?_
     refine Run.done ?_
     refine Run.seq ?_
     refine Run.cond (b := decide ((((k : Nat) : Int)) < (((nn : Nat) : Int)))) rfl (fun h32 => ?_) (fun h32 => ?_)
     ·have p32 := h32; try simp only [bs] at p32
      have hltk : k < nn := by omega
      obtain ⟨bq, oq, rfl⟩ := hx.opn (by omega)
      have hkn : k < n := by omega
      obtain ⟨q2, hq2, hq21, hq22⟩ := pow_q (k := k) hn10 hkn
      refine Run.skip ?_
      refine Run.seq ?_
      refine Run.block ?_
      refine Run.sr ?_
      refine Run.p (.int .i64 (((k : Nat) : Int))) rfl rfl ?_
      refine Run.y (.pointer (some ⟨bq, oq + k, none⟩)) rfl (OpY.index (kk := k) Tsl_24 rfl rfl (by omega) (by omega) (by first | rfl | omega)) ?_
      refine Run.y (.int .i64 (ix nx (k))) rfl (OpY.load1 Tone_3 rfl (Cells.arg (k := k) hx rfl (by omega) (pre1 (by omega)))) ?_
      refine Run.p (.int .i64 (((k : Nat) : Int))) rfl rfl ?_
      refine Run.p (.int .i64 (ix nx (k))) rfl rfl ?_
      refine Run.done ?_
      refine Run.seq ?_
      refine Run.sr ?_
      refine Run.y (.pointer (some ⟨b1, 3, none⟩)) rfl (OpY.fieldAddr Tfo_26_3 rfl rfl) ?_
      refine Run.y (vo) rfl (OpY.load1 Tone_24 rfl (Cells.blk (.tail _ (List.Mem.head _)) ⟨rfl, trivial⟩)) ?_
      refine Run.p (.int .i64 (((k : Nat) : Int))) rfl rfl ?_
      refine Run.q (v := .bool (hasI os (k : Int) no)) rfl (OpQ.call (vs := [vo, .int .i64 (((k : Nat) : Int))]) (caps := []) Tcall_62 rfl rfl (fun w hs => l1Has_spec (hs.sl ho))) ?_
      refine Run.done ?_
      refine Run.cond (b := hasI os (k : Int) no) rfl (fun h39 => ?_) (fun h39 => ?_)
      ·have p39 := h39; try simp only [bs] at p39
       have hno : hasI os (k : Int) no = true := by simpa using p39
       refine Run.seq ?_
       refine Run.sr ?_
       refine Run.p (.int .i64 (ix nx (k))) rfl rfl ?_
       refine Run.p (.bool ((ix nx (k)) != 0)) rfl rfl ?_
       refine Run.done ?_
       refine Run.cond (b := (ix nx (k)) != 0) rfl (fun h41 => ?_) (fun h41 => ?_)
       ·have p41 := h41; try simp only [bs] at p41
        have hres : gfB es m n is ni os no nx nn ly nl = false := gfB_at hltk (by unfold gfAt; rw [if_pos hno]; exact decide_eq_false (by omega))
        refine Run.sr ?_
        refine Run.p (.bool false) rfl rfl ?_
        refine Run.done ?_
        refine Run.ret ?_
        refine ⟨.bool false, [], Out.one rfl rfl, (Some'.weak (.nil _)), ?_⟩
        show _ = _; rw [hres]
       ·have p41 := h41; try simp only [bs] at p41
        have hgood : gfAt es m n is ni os no nx ly k = true := by unfold gfAt; rw [if_pos hno]; exact decide_eq_true (by omega)
        refine Run.skip ?_
        refine Run.exit rfl ?_
        refine Run.region ?_
        refine Run.y (.int .i64 ((((k : Nat) : Int)) + 1)) rfl (OpY.add rfl rfl rfl (by omega) (by omega)) ?_
        refine Run.p (.int .i64 ((((k : Nat) : Int)) + 1)) rfl rfl ?_
        refine Run.done ?_
        refine Run.goal ⟨(by repeat (first | exact Same.refl _ _ | refine Same.put rfl ?_ | refine Same.over rfl rfl ?_)), k + 1, ?_, ?_, ?_, ?_⟩
        ·refine ⟨by omega, ?_⟩
         intro i hi
         rcases Nat.lt_succ_iff_lt_or_eq.1 hi with h | h
         ·exact hinv.2 i h
         ·rw [h]; exact hgood
        ·omega
        ·exact ⟨(by first | rfl | (congr 1; omega) | simp), trivial⟩
        ·exact (Some'.weak (.takeEq (by first | rfl | simp) (.take (.nil _))))
      ·have p39 := h39; try simp only [bs] at p39
       have hno : hasI os (k : Int) no = false := by simpa using p39
       refine Run.skip ?_
       refine Run.seq ?_
       refine Run.sr ?_
       refine Run.p (.int .i64 (ix nx (k))) rfl rfl ?_
       refine Run.y (.pointer (some ⟨b1, 0, none⟩)) rfl (OpY.fieldAddr Tfo_26_0 rfl rfl) ?_
       refine Run.y (.int .i64 (((n : Nat) : Int))) rfl (OpY.load1 Tone_3 rfl (Cells.blk (.tail _ (List.Mem.head _)) ⟨rfl, trivial⟩)) ?_
       refine Run.y (.int .u64 (((n : Nat) : Int))) rfl (OpY.convIntEq Tsome_3 Tint_52 rfl (by rw [IntKind.wrap_u64]; omega)) ?_
       refine Run.y (.int .i64 (((qn : Nat) : Int))) rfl (OpY.shlOne rfl rfl rfl (by omega) hqn) ?_
       refine Run.y (.int .i64 ((((qn : Nat) : Int)) - 1)) rfl (OpY.sub rfl rfl rfl (by omega) (by omega)) ?_
       refine Run.q (v := .bool (within (ix nx k) 0 ((qn : Int) - 1))) rfl (OpQ.call (vs := [.int .i64 (ix nx (k)), .int .i64 0, .int .i64 ((((qn : Nat) : Int)) - 1)]) (caps := []) Tcall_55 rfl rfl (fun w hs => l1In_spec _ _ _ w)) ?_
       refine Run.p (.bool (!(within (ix nx k) 0 ((qn : Int) - 1)))) rfl rfl ?_
       rcases Bool.eq_false_or_eq_true (!(within (ix nx k) 0 ((qn : Int) - 1))) with h50 | h50
       ·refine Run.q (v := .bool true) rfl (OpQ.y (OpY.moveB rfl h50)) ?_
        have p50 := h50; try simp only [bs] at p50
        have hz1 : within (ix nx k) 0 (((2 ^ n : Nat) : Int) - 1) = false := by rw [← hqn]; simpa using p50
        refine Run.pass rfl ?_
        refine Run.pass rfl ?_
        refine Run.pass rfl ?_
        refine Run.pass rfl ?_
        refine Run.pass rfl ?_
        refine Run.pass rfl ?_
        refine Run.p (.bool true) rfl rfl ?_
        refine Run.p (.bool true) rfl rfl ?_
        refine Run.pass rfl ?_
        refine Run.pass rfl ?_
        refine Run.pass rfl ?_
        refine Run.pass rfl ?_
        refine Run.pass rfl ?_
        refine Run.pass rfl ?_
        refine Run.p (.bool true) rfl rfl ?_
        refine Run.done ?_
        refine Run.cond (b := true) rfl (fun _ => ?_) (fun h => nomatch h)
        refine Run.seq ?_
        have hres : gfB es m n is ni os no nx nn ly nl = false := gfB_at hltk (by unfold gfAt; rw [if_neg (by rw [hno]; decide)]; first | (rw [hz1]; rfl) | (rw [hut, decide_eq_false hz2]; simp; done) | (simp only [hut, hz3, Bool.not_true, Bool.and_false, Bool.false_and]))
        refine Run.region ?_
        refine Run.p (.bool false) rfl rfl ?_
        refine Run.done ?_
        refine Run.ret ?_
        refine ⟨.bool false, [], Out.one rfl rfl, (Some'.weak (.nil _)), ?_⟩
        show _ = _; rw [hres]
       ·refine Run.q (v := .bool false) rfl (OpQ.y (OpY.moveB rfl h50)) ?_
        have p50 := h50; try simp only [bs] at p50
        have hw1 : within (ix nx k) 0 (((2 ^ n : Nat) : Int) - 1) = true := by rw [← hqn]; simpa using p50
        have hw1i := within_iff.1 hw1
        obtain ⟨s, hs_⟩ : ∃ u : Nat, ix nx k = (u : Int) := ⟨(ix nx k).toNat, by omega⟩
        have hut : (ix nx k).toNat = s := by rw [hs_, Int.toNat_natCast]
        have hsn : s < 2 ^ n := by omega
        have hodl := oddM_lt es m n s n
        have hsand : s &&& mskK is ni < 2 ^ n := Nat.lt_of_le_of_lt Nat.and_le_left hsn
        refine Run.p (.int .i64 (ix nx (k))) rfl rfl ?_
        refine Run.y (.pointer (some ⟨b1, 2, none⟩)) rfl (OpY.fieldAddr Tfo_26_2 rfl rfl) ?_
        refine Run.y (vi) rfl (OpY.load1 Tone_24 rfl (Cells.blk (.tail _ (List.Mem.head _)) ⟨rfl, trivial⟩)) ?_
        refine Run.q (v := .int .i64 (((mskK is ni : Nat) : Int))) rfl (OpQ.call (vs := [vi]) (caps := []) Tcall_68 rfl rfl (fun w hs => l19Mask_spec hn10 (ris_in hri) (hs.sl hi))) ?_
        refine Run.y (.int .i64 (((s &&& mskK is ni : Nat) : Int))) rfl (OpY.andNatE rfl rfl hs_ rfl (by omega) (by omega)) ?_
        refine Run.p (.bool ((((s &&& mskK is ni : Nat) : Int)) != 0)) rfl rfl ?_
        refine Run.p (.bool ((((s &&& mskK is ni : Nat) : Int)) != 0)) rfl rfl ?_
        rcases Bool.eq_false_or_eq_true ((((s &&& mskK is ni : Nat) : Int)) != 0) with h58 | h58
        ·refine Run.q (v := .bool true) rfl (OpQ.y (OpY.moveB rfl h58)) ?_
         have p58 := h58; try simp only [bs] at p58
         have hz2 : ¬ s &&& mskK is ni = 0 := by omega
         refine Run.pass rfl ?_
         refine Run.pass rfl ?_
         refine Run.pass rfl ?_
         refine Run.pass rfl ?_
         refine Run.pass rfl ?_
         refine Run.pass rfl ?_
         refine Run.p (.bool true) rfl rfl ?_
         refine Run.done ?_
         refine Run.cond (b := true) rfl (fun _ => ?_) (fun h => nomatch h)
         refine Run.seq ?_
         have hres : gfB es m n is ni os no nx nn ly nl = false := gfB_at hltk (by unfold gfAt; rw [if_neg (by rw [hno]; decide)]; first | (rw [hz1]; rfl) | (rw [hut, decide_eq_false hz2]; simp; done) | (simp only [hut, hz3, Bool.not_true, Bool.and_false, Bool.false_and]))
         refine Run.region ?_
         refine Run.p (.bool false) rfl rfl ?_
         refine Run.done ?_
         refine Run.ret ?_
         refine ⟨.bool false, [], Out.one rfl rfl, (Some'.weak (.nil _)), ?_⟩
         show _ = _; rw [hres]
        ·refine Run.q (v := .bool false) rfl (OpQ.y (OpY.moveB rfl h58)) ?_
         have p58 := h58; try simp only [bs] at p58
         have hw2 : s &&& mskK is ni = 0 := by omega
         refine Run.p (.int .i64 (ix nx (k))) rfl rfl ?_
         refine Run.p (.int .i64 (((k : Nat) : Int))) rfl rfl ?_
         refine Run.y (.int .u64 (((k : Nat) : Int))) rfl (OpY.convIntEq Tsome_3 Tint_52 rfl (by rw [IntKind.wrap_u64]; omega)) ?_
         refine Run.y (.int .i64 ((ix nx (k)) >>> k)) rfl (OpY.shr rfl rfl (by first | rfl | omega) (by omega)) ?_
         refine Run.y (.int .i64 (((ix nx (k)) >>> k) % 2)) rfl (OpY.and1 rfl rfl) ?_
         refine Run.p (.bool ((((ix nx (k)) >>> k) % 2) == 1)) rfl rfl ?_
         refine Run.p (.bool ((((ix nx (k)) >>> k) % 2) == 1)) rfl rfl ?_
         refine Run.done ?_
         refine Run.cond (b := (((ix nx (k)) >>> k) % 2) == 1) rfl (fun h65 => ?_) (fun h65 => ?_)
         ·have p65 := h65; try simp only [bs] at p65
          have hz3 : s.testBit k = true := by rw [← bitN, ← hs_]; exact bitI_true p65
          refine Run.seq ?_
          have hres : gfB es m n is ni os no nx nn ly nl = false := gfB_at hltk (by unfold gfAt; rw [if_neg (by rw [hno]; decide)]; first | (rw [hz1]; rfl) | (rw [hut, decide_eq_false hz2]; simp; done) | (simp only [hut, hz3, Bool.not_true, Bool.and_false, Bool.false_and]))
          refine Run.region ?_
          refine Run.p (.bool false) rfl rfl ?_
          refine Run.done ?_
          refine Run.ret ?_
          refine ⟨.bool false, [], Out.one rfl rfl, (Some'.weak (.nil _)), ?_⟩
          show _ = _; rw [hres]
         ·have p65 := h65; try simp only [bs] at p65
          have hw3 : s.testBit k = false := by rw [← bitN, ← hs_]; exact bitI_ne1 p65
          refine Run.skip ?_
          refine Run.sr ?_
          refine Run.y (.agg #[.int .i64 (((n : Nat) : Int)), ve, vi, vo]) rfl (OpY.loadN (cs := [.int .i64 (((n : Nat) : Int)), ve, vi, vo]) Tagg_26 rfl (Cells.blk (.tail _ (List.Mem.head _)) ⟨rfl, rfl, rfl, rfl, trivial⟩)) ?_
          refine Run.p (.int .i64 (ix nx (k))) rfl rfl ?_
          refine Run.q (v := .int .i64 (((oddM es m n s n : Nat) : Int))) rfl (OpQ.call (vs := [.agg #[.int .i64 (((n : Nat) : Int)), ve, vi, vo], .int .i64 (ix nx (k))]) (caps := []) Tcall_69 rfl rfl (fun w hs => (by have h := l19Odd_spec (set := s) (ve := ve) (vi := vi) (vo := vo) hn10 hsn hes (hs.sl he); rw [← hs_] at h; exact h))) ?_
          refine Run.p (.int .i64 (((oddM es m n s n : Nat) : Int))) rfl rfl ?_
          refine Run.dsr ?_
          refine Run.p (.int .i64 (((oddM es m n s n : Nat) : Int))) rfl rfl ?_
          refine Run.p (.int .i64 (((k : Nat) : Int))) rfl rfl ?_
          refine Run.y (.int .u64 (((k : Nat) : Int))) rfl (OpY.convIntEq Tsome_3 Tint_52 rfl (by rw [IntKind.wrap_u64]; omega)) ?_
          refine Run.y (.int .i64 ((((oddM es m n s n : Nat) : Int)) >>> k)) rfl (OpY.shr rfl rfl (by first | rfl | omega) (by omega)) ?_
          refine Run.y (.int .i64 (((((oddM es m n s n : Nat) : Int)) >>> k) % 2)) rfl (OpY.and1 rfl rfl) ?_
          refine Run.p (.bool ((((((oddM es m n s n : Nat) : Int)) >>> k) % 2) == 0)) rfl rfl ?_
          rcases Bool.eq_false_or_eq_true ((((((oddM es m n s n : Nat) : Int)) >>> k) % 2) == 0) with h75 | h75
          ·refine Run.q (v := .bool true) rfl (OpQ.y (OpY.moveB rfl h75)) ?_
           have p75 := h75; try simp only [bs] at p75
           have hz4 : (oddM es m n s n).testBit k = false := by rw [← bitN]; exact bitI_false p75
           refine Run.pass rfl ?_
           refine Run.pass rfl ?_
           refine Run.pass rfl ?_
           refine Run.pass rfl ?_
           refine Run.pass rfl ?_
           refine Run.pass rfl ?_
           refine Run.pass rfl ?_
           refine Run.pass rfl ?_
           refine Run.p (.bool true) rfl rfl ?_
           refine Run.done ?_
           refine Run.cond (b := true) rfl (fun _ => ?_) (fun h => nomatch h)
           refine Run.seq ?_
           have hres : gfB es m n is ni os no nx nn ly nl = false := gfB_at hltk (by unfold gfAt; rw [if_neg (by rw [hno]; decide)]; first | (simp only [hut, hz4, Bool.and_false, Bool.false_and]; done) | (simp only [hut, hz5, Bool.and_false]; done))
           refine Run.region ?_
           refine Run.p (.bool false) rfl rfl ?_
           refine Run.done ?_
           refine Run.ret ?_
           refine ⟨.bool false, [], Out.one rfl rfl, (Some'.weak (.nil _)), ?_⟩
           show _ = _; rw [hres]
          ·refine Run.q (v := .bool false) rfl (OpQ.y (OpY.moveB rfl h75)) ?_
           have p75 := h75; try simp only [bs] at p75
           have hw4 : (oddM es m n s n).testBit k = true := by rw [← bitN]; exact bitI_ne p75
           have hcl : (oddM es m n s n) ^^^ ((oddM es m n s n) &&& q2) = clr (oddM es m n s n) k := by rw [hq2]; rfl
           have hcll := clr_lt (v := k) hodl
           have hor : s ||| oddM es m n s n < 2 ^ n := Nat.or_lt_two_pow hsn hodl
           have hco := clr_or (o := oddM es m n s n) hw3
           refine Run.y (.pointer (some ⟨b2, 1, none⟩)) rfl (OpY.fieldAddr Tfo_38_1 rfl rfl) ?_
           refine Run.y (.slice Ay nl cy_) rfl (OpY.load1 Tone_24 rfl (Cells.blk (.head _) ⟨rfl, trivial⟩)) ?_
           refine Run.p (.int .i64 (((k : Nat) : Int))) rfl rfl ?_
           refine Run.p (.int .i64 (ix nx (k))) rfl rfl ?_
           refine Run.p (.int .i64 (((oddM es m n s n : Nat) : Int))) rfl rfl ?_
           refine Run.y (.int .i64 (((s ||| oddM es m n s n : Nat) : Int))) rfl (OpY.orNatE rfl rfl hs_ (by omega) (by omega)) ?_
           refine Run.q (v := .bool (befB ly k (clr (s ||| oddM es m n s n) k) n)) rfl (OpQ.call (vs := [.slice Ay nl cy_, .int .i64 (((k : Nat) : Int)), .int .i64 (((s ||| oddM es m n s n : Nat) : Int))]) (caps := []) Tcall_67 rfl rfl (fun w hs => (by have h := l19Before_spec (v := k) (set := s ||| oddM es m n s n) hn10 hkn hor (Sl.cnt hnl (hs.sl hy)); exact h))) ?_
           refine Run.p (.bool (!(befB ly k (clr (s ||| oddM es m n s n) k) n))) rfl rfl ?_
           refine Run.p (.bool (!(befB ly k (clr (s ||| oddM es m n s n) k) n))) rfl rfl ?_
           refine Run.done ?_
           refine Run.cond (b := !(befB ly k (clr (s ||| oddM es m n s n) k) n)) rfl (fun h84 => ?_) (fun h84 => ?_)
           ·have p84 := h84; try simp only [bs] at p84
            have hz5 : befB ly k (s ||| clr (oddM es m n s n) k) n = false := by rw [hco] at p84; simpa using p84
            refine Run.seq ?_
            have hres : gfB es m n is ni os no nx nn ly nl = false := gfB_at hltk (by unfold gfAt; rw [if_neg (by rw [hno]; decide)]; first | (simp only [hut, hz4, Bool.and_false, Bool.false_and]; done) | (simp only [hut, hz5, Bool.and_false]; done))
            refine Run.region ?_
            refine Run.p (.bool false) rfl rfl ?_
            refine Run.done ?_
            refine Run.ret ?_
            refine ⟨.bool false, [], Out.one rfl rfl, (Some'.weak (.nil _)), ?_⟩
            show _ = _; rw [hres]
           ·have p84 := h84; try simp only [bs] at p84
            have hw5 : befB ly k (s ||| clr (oddM es m n s n) k) n = true := by rw [hco] at p84; simpa using p84
            have hgood : gfAt es m n is ni os no nx ly k = true := by unfold gfAt; rw [if_neg (by rw [hno]; decide)]; simp only [hut, hw1, hw2, hw3, hw4, hw5, decide_true, Bool.not_false, Bool.and_self]
            refine Run.skip ?_
            refine Run.blockEnd ?_
            refine Run.region ?_
            refine Run.y (.int .i64 ((((k : Nat) : Int)) + 1)) rfl (OpY.add rfl rfl rfl (by omega) (by omega)) ?_
            refine Run.p (.int .i64 ((((k : Nat) : Int)) + 1)) rfl rfl ?_
            refine Run.done ?_
            refine Run.goal ⟨(by repeat (first | exact Same.refl _ _ | refine Same.put rfl ?_ | refine Same.over rfl rfl ?_)), k + 1, ?_, ?_, ?_, ?_⟩
            ·refine ⟨by omega, ?_⟩
             intro i hi
             rcases Nat.lt_succ_iff_lt_or_eq.1 hi with h | h
             ·exact hinv.2 i h
             ·rw [h]; exact hgood
            ·omega
            ·exact ⟨(by first | rfl | (congr 1; omega) | simp), trivial⟩
            ·exact (Some'.weak (.takeEq (by first | rfl | simp) (.take (.nil _))))
     ·have p32 := h32; try simp only [bs] at p32
      have hknk : k = nn := by omega
      have hres : gfB es m n is ni os no nx nn ly nl = true := by
       unfold gfB; rw [decide_eq_true hnn, hlay, Bool.true_and, Bool.true_and]; exact allI_iff.2 (by rw [← hknk]; exact hinv.2)
      refine Run.exit rfl ?_
      refine Run.sr ?_
      refine Run.p (.bool true) rfl rfl ?_
      refine Run.done ?_
      refine Run.ret ?_
      refine ⟨.bool true, [], Out.one rfl rfl, (Some'.weak (.nil _)), ?_⟩
      show _ = _; rw [hres]

set_option maxHeartbeats 1000000 in
set_option maxRecDepth 20000 in
theorem IsCausalFlow_spec {ve vi vo vx vy : Value} {n m ni no nn nl : Nat} {es is os nx ly : List Int} {w : World} (hn11 : n ≤ 11) (he : Sl w ve 2 m (ints es)) (hi : Sl w vi 1 ni (ints is)) (ho : Sl w vo 1 no (ints os)) (hx : Sl w vx 1 nn (ints nx)) (hy : Sl w vy 1 nl (ints ly)) : Calls Try.prog 9 #[.agg #[.int .i64 (n : Int), ve, vi, vo], .agg #[vx, vy]] w (Post No w fun v _ => v = .tuple #[.bool (ogB n es m is ni os no && flB es m n is ni os no nx nn ly nl), .bool (ogB n es m is ni os no)]) := by
 refine enter (n := 16) (args := [.agg #[.int .i64 (((n : Nat) : Int)), ve, vi, vo], .agg #[vx, vy]]) Try.func9 rfl rfl (St.empty _ _) ?_
 refine Run.sr ?_
 refine Run.step rfl (OpStep.box (us := [.int .i64 (((n : Nat) : Int)), ve, vi, vo]) rfl fun b1 => ?_)
 refine Run.step rfl (OpStep.box (us := [vx, vy]) rfl fun b2 => ?_)
 refine Run.p (.bool false) rfl rfl ?_
 refine Run.p (.bool false) rfl rfl ?_
 refine Run.dsr ?_
 refine Run.y (.agg #[.int .i64 (((n : Nat) : Int)), ve, vi, vo]) rfl (OpY.loadN (cs := [.int .i64 (((n : Nat) : Int)), ve, vi, vo]) Tagg_26 rfl (Cells.blk (.tail _ (List.Mem.head _)) ⟨rfl, rfl, rfl, rfl, trivial⟩)) ?_
 refine Run.q (v := .bool (ogB n es m is ni os no)) rfl (OpQ.call (vs := [.agg #[.int .i64 (((n : Nat) : Int)), ve, vi, vo]]) (caps := []) Tcall_24 rfl rfl (fun w hs => IsValidOpenGraph_spec hn11 (hs.sl he) (hs.sl hi) (hs.sl ho))) ?_
 refine Run.p (.bool (ogB n es m is ni os no)) rfl rfl ?_
 refine Run.dsr ?_
 refine Run.p (.bool (ogB n es m is ni os no)) rfl rfl ?_
 rcases Bool.eq_false_or_eq_true (ogB n es m is ni os no) with h10 | h10
 ·refine Run.q (v := .bool true) rfl (OpQ.y (OpY.moveB rfl h10)) ?_
  have p10 := h10; try simp only [bs] at p10
  have hg : ogB n es m is ni os no = true := by simpa using p10
  obtain ⟨hn1, hn10, hes, hri, hro⟩ := og_ok hg
  refine Run.y (.agg #[.int .i64 (((n : Nat) : Int)), ve, vi, vo]) rfl (OpY.loadN (cs := [.int .i64 (((n : Nat) : Int)), ve, vi, vo]) Tagg_26 rfl (Cells.blk (.tail _ (List.Mem.head _)) ⟨rfl, rfl, rfl, rfl, trivial⟩)) ?_
  refine Run.y (.agg #[vx, vy]) rfl (OpY.loadN (cs := [vx, vy]) Tagg_29 rfl (Cells.blk (.head _) ⟨rfl, rfl, trivial⟩)) ?_
  refine Run.q (v := .bool (flB es m n is ni os no nx nn ly nl)) rfl (OpQ.call (vs := [.agg #[.int .i64 (((n : Nat) : Int)), ve, vi, vo], .agg #[vx, vy]]) (caps := []) Tcall_35 rfl rfl (fun w hs => isFlow_spec hn1 hn10 hes hri (hs.sl he) (hs.sl hi) (hs.sl ho) (hs.sl hx) (hs.sl hy))) ?_
  refine Run.p (.bool (flB es m n is ni os no nx nn ly nl)) rfl rfl ?_
  refine Run.p (.bool (ogB n es m is ni os no)) rfl rfl ?_
  refine Run.p (.bool (flB es m n is ni os no nx nn ly nl)) rfl rfl ?_
  refine Run.p (.bool (ogB n es m is ni os no)) rfl rfl ?_
  refine Run.done ?_
  refine Run.ret ?_
  refine ⟨.tuple #[.bool (flB es m n is ni os no nx nn ly nl), .bool (ogB n es m is ni os no)], [], Out.two rfl rfl rfl, (Some'.weak (.nil _)), ?_⟩
  show _ = _; rw [hg]; first | rfl | simp
 ·refine Run.q (v := .bool false) rfl (OpQ.y (OpY.moveB rfl h10)) ?_
  have p10 := h10; try simp only [bs] at p10
  have hg : ogB n es m is ni os no = false := by simpa using p10
  refine Run.pass rfl ?_
  refine Run.pass rfl ?_
  refine Run.pass rfl ?_
  refine Run.p (.bool false) rfl rfl ?_
  refine Run.p (.bool (ogB n es m is ni os no)) rfl rfl ?_
  refine Run.p (.bool false) rfl rfl ?_
  refine Run.p (.bool (ogB n es m is ni os no)) rfl rfl ?_
  refine Run.done ?_
  refine Run.ret ?_
  refine ⟨.tuple #[.bool false, .bool (ogB n es m is ni os no)], [], Out.two rfl rfl rfl, (Some'.weak (.nil _)), ?_⟩
  show _ = _; rw [hg]; first | rfl | simp

set_option maxHeartbeats 1000000 in
set_option maxRecDepth 20000 in
theorem sIsCausalFlow_spec {ve vi vo vx vy : Value} {n m ni no nn nl : Nat} {es is os nx ly : List Int} {w : World} (hn11 : n ≤ 11) (he : Sl w ve 2 m (ints es)) (hi : Sl w vi 1 ni (ints is)) (ho : Sl w vo 1 no (ints os)) (hx : Sl w vx 1 nn (ints nx)) (hy : Sl w vy 1 nl (ints ly)) (hsm : ∀ x ∈ es, 0 ≤ x ∧ x ≤ 100) : Calls Try.prog 10 #[.agg #[.int .i64 (n : Int), ve, vi, vo], .agg #[vx, vy]] w (Post No w fun v _ => v = .tuple #[.bool (ogB n es m is ni os no && flB es m n is ni os no nx nn ly nl), .bool (ogB n es m is ni os no)]) := by
 refine enter (n := 12) (args := [.agg #[.int .i64 (((n : Nat) : Int)), ve, vi, vo], .agg #[vx, vy]]) Try.func10 rfl rfl (St.empty _ _) ?_
 refine Run.sr ?_
 refine Run.step rfl (OpStep.box (us := [.int .i64 (((n : Nat) : Int)), ve, vi, vo]) rfl fun b1 => ?_)
 refine Run.step rfl (OpStep.box (us := [vx, vy]) rfl fun b2 => ?_)
 refine Run.p (.bool false) rfl rfl ?_
 refine Run.p (.bool false) rfl rfl ?_
 refine Run.done ?_
 refine Run.seq ?_
 refine Run.sr ?_
 refine Run.y (.agg #[.int .i64 (((n : Nat) : Int)), ve, vi, vo]) rfl (OpY.loadN (cs := [.int .i64 (((n : Nat) : Int)), ve, vi, vo]) Tagg_26 rfl (Cells.blk (.tail _ (List.Mem.head _)) ⟨rfl, rfl, rfl, rfl, trivial⟩)) ?_
 refine Run.q (v := .bool (ogB n es m is ni os no)) rfl (OpQ.call (vs := [.agg #[.int .i64 (((n : Nat) : Int)), ve, vi, vo]]) (caps := []) Tcall_32 rfl rfl (fun w hs => l19Good_spec hn11 (hs.sl he) (hs.sl hi) (hs.sl ho) hsm)) ?_
 refine Run.p (.bool (!(ogB n es m is ni os no))) rfl rfl ?_
 refine Run.done ?_
 refine Run.cond (b := !(ogB n es m is ni os no)) rfl (fun h8 => ?_) (fun h8 => ?_)
 ·have p8 := h8; try simp only [bs] at p8
  have hg : ogB n es m is ni os no = false := by simpa using p8
  refine Run.sr ?_
  refine Run.p (.bool false) rfl rfl ?_
  refine Run.p (.bool false) rfl rfl ?_
  refine Run.done ?_
  refine Run.ret ?_
  refine ⟨.tuple #[.bool false, .bool false], [], Out.two rfl rfl rfl, (Some'.weak (.nil _)), ?_⟩
  show _ = _; rw [hg]; first | rfl | simp
 ·have p8 := h8; try simp only [bs] at p8
  have hg : ogB n es m is ni os no = true := by simpa using p8
  obtain ⟨hn1, hn10, hes, hri, hro⟩ := og_ok hg
  refine Run.skip ?_
  refine Run.sr ?_
  refine Run.y (.agg #[.int .i64 (((n : Nat) : Int)), ve, vi, vo]) rfl (OpY.loadN (cs := [.int .i64 (((n : Nat) : Int)), ve, vi, vo]) Tagg_26 rfl (Cells.blk (.tail _ (List.Mem.head _)) ⟨rfl, rfl, rfl, rfl, trivial⟩)) ?_
  refine Run.y (.agg #[vx, vy]) rfl (OpY.loadN (cs := [vx, vy]) Tagg_29 rfl (Cells.blk (.head _) ⟨rfl, rfl, trivial⟩)) ?_
  refine Run.q (v := .bool (flB es m n is ni os no nx nn ly nl)) rfl (OpQ.call (vs := [.agg #[.int .i64 (((n : Nat) : Int)), ve, vi, vo], .agg #[vx, vy]]) (caps := []) Tcall_36 rfl rfl (fun w hs => l19Flow_spec hn1 hn10 hes hri (hs.sl he) (hs.sl hi) (hs.sl ho) (hs.sl hx) (hs.sl hy))) ?_
  refine Run.p (.bool (flB es m n is ni os no nx nn ly nl)) rfl rfl ?_
  refine Run.p (.bool true) rfl rfl ?_
  refine Run.done ?_
  refine Run.ret ?_
  refine ⟨.tuple #[.bool (flB es m n is ni os no nx nn ly nl), .bool true], [], Out.two rfl rfl rfl, (Some'.weak (.nil _)), ?_⟩
  show _ = _; rw [hg]; first | rfl | simp

set_option maxHeartbeats 1000000 in
set_option maxRecDepth 20000 in
theorem IsGFlow_spec {ve vi vo vx vy : Value} {n m ni no nn nl : Nat} {es is os nx ly : List Int} {w : World} (hn11 : n ≤ 11) (he : Sl w ve 2 m (ints es)) (hi : Sl w vi 1 ni (ints is)) (ho : Sl w vo 1 no (ints os)) (hx : Sl w vx 1 nn (ints nx)) (hy : Sl w vy 1 nl (ints ly)) : Calls Try.prog 13 #[.agg #[.int .i64 (n : Int), ve, vi, vo], .agg #[vx, vy]] w (Post No w fun v _ => v = .tuple #[.bool (ogB n es m is ni os no && gfB es m n is ni os no nx nn ly nl), .bool (ogB n es m is ni os no)]) := by
 refine enter (n := 16) (args := [.agg #[.int .i64 (((n : Nat) : Int)), ve, vi, vo], .agg #[vx, vy]]) Try.func13 rfl rfl (St.empty _ _) ?_
 refine Run.sr ?_
 refine Run.step rfl (OpStep.box (us := [.int .i64 (((n : Nat) : Int)), ve, vi, vo]) rfl fun b1 => ?_)
 refine Run.step rfl (OpStep.box (us := [vx, vy]) rfl fun b2 => ?_)
 refine Run.p (.bool false) rfl rfl ?_
 refine Run.p (.bool false) rfl rfl ?_
 refine Run.dsr ?_
 refine Run.y (.agg #[.int .i64 (((n : Nat) : Int)), ve, vi, vo]) rfl (OpY.loadN (cs := [.int .i64 (((n : Nat) : Int)), ve, vi, vo]) Tagg_26 rfl (Cells.blk (.tail _ (List.Mem.head _)) ⟨rfl, rfl, rfl, rfl, trivial⟩)) ?_
 refine Run.q (v := .bool (ogB n es m is ni os no)) rfl (OpQ.call (vs := [.agg #[.int .i64 (((n : Nat) : Int)), ve, vi, vo]]) (caps := []) Tcall_24 rfl rfl (fun w hs => IsValidOpenGraph_spec hn11 (hs.sl he) (hs.sl hi) (hs.sl ho))) ?_
 refine Run.p (.bool (ogB n es m is ni os no)) rfl rfl ?_
 refine Run.dsr ?_
 refine Run.p (.bool (ogB n es m is ni os no)) rfl rfl ?_
 rcases Bool.eq_false_or_eq_true (ogB n es m is ni os no) with h10 | h10
 ·refine Run.q (v := .bool true) rfl (OpQ.y (OpY.moveB rfl h10)) ?_
  have p10 := h10; try simp only [bs] at p10
  have hg : ogB n es m is ni os no = true := by simpa using p10
  obtain ⟨hn1, hn10, hes, hri, hro⟩ := og_ok hg
  refine Run.y (.agg #[.int .i64 (((n : Nat) : Int)), ve, vi, vo]) rfl (OpY.loadN (cs := [.int .i64 (((n : Nat) : Int)), ve, vi, vo]) Tagg_26 rfl (Cells.blk (.tail _ (List.Mem.head _)) ⟨rfl, rfl, rfl, rfl, trivial⟩)) ?_
  refine Run.y (.agg #[vx, vy]) rfl (OpY.loadN (cs := [vx, vy]) Tagg_38 rfl (Cells.blk (.head _) ⟨rfl, rfl, trivial⟩)) ?_
  refine Run.q (v := .bool (gfB es m n is ni os no nx nn ly nl)) rfl (OpQ.call (vs := [.agg #[.int .i64 (((n : Nat) : Int)), ve, vi, vo], .agg #[vx, vy]]) (caps := []) Tcall_37 rfl rfl (fun w hs => isGFlow_spec hn1 hn10 hes hri (hs.sl he) (hs.sl hi) (hs.sl ho) (hs.sl hx) (hs.sl hy))) ?_
  refine Run.p (.bool (gfB es m n is ni os no nx nn ly nl)) rfl rfl ?_
  refine Run.p (.bool (ogB n es m is ni os no)) rfl rfl ?_
  refine Run.p (.bool (gfB es m n is ni os no nx nn ly nl)) rfl rfl ?_
  refine Run.p (.bool (ogB n es m is ni os no)) rfl rfl ?_
  refine Run.done ?_
  refine Run.ret ?_
  refine ⟨.tuple #[.bool (gfB es m n is ni os no nx nn ly nl), .bool (ogB n es m is ni os no)], [], Out.two rfl rfl rfl, (Some'.weak (.nil _)), ?_⟩
  show _ = _; rw [hg]; first | rfl | simp
 ·refine Run.q (v := .bool false) rfl (OpQ.y (OpY.moveB rfl h10)) ?_
  have p10 := h10; try simp only [bs] at p10
  have hg : ogB n es m is ni os no = false := by simpa using p10
  refine Run.pass rfl ?_
  refine Run.pass rfl ?_
  refine Run.pass rfl ?_
  refine Run.p (.bool false) rfl rfl ?_
  refine Run.p (.bool (ogB n es m is ni os no)) rfl rfl ?_
  refine Run.p (.bool false) rfl rfl ?_
  refine Run.p (.bool (ogB n es m is ni os no)) rfl rfl ?_
  refine Run.done ?_
  refine Run.ret ?_
  refine ⟨.tuple #[.bool false, .bool (ogB n es m is ni os no)], [], Out.two rfl rfl rfl, (Some'.weak (.nil _)), ?_⟩
  show _ = _; rw [hg]; first | rfl | simp

set_option maxHeartbeats 1000000 in
set_option maxRecDepth 20000 in
theorem sIsGFlow_spec {ve vi vo vx vy : Value} {n m ni no nn nl : Nat} {es is os nx ly : List Int} {w : World} (hn11 : n ≤ 11) (he : Sl w ve 2 m (ints es)) (hi : Sl w vi 1 ni (ints is)) (ho : Sl w vo 1 no (ints os)) (hx : Sl w vx 1 nn (ints nx)) (hy : Sl w vy 1 nl (ints ly)) (hsm : ∀ x ∈ es, 0 ≤ x ∧ x ≤ 100) : Calls Try.prog 19 #[.agg #[.int .i64 (n : Int), ve, vi, vo], .agg #[vx, vy]] w (Post No w fun v _ => v = .tuple #[.bool (ogB n es m is ni os no && gfB es m n is ni os no nx nn ly nl), .bool (ogB n es m is ni os no)]) := by
 refine enter (n := 12) (args := [.agg #[.int .i64 (((n : Nat) : Int)), ve, vi, vo], .agg #[vx, vy]]) Try.func19 rfl rfl (St.empty _ _) ?_
 refine Run.sr ?_
 refine Run.step rfl (OpStep.box (us := [.int .i64 (((n : Nat) : Int)), ve, vi, vo]) rfl fun b1 => ?_)
 refine Run.step rfl (OpStep.box (us := [vx, vy]) rfl fun b2 => ?_)
 refine Run.p (.bool false) rfl rfl ?_
 refine Run.p (.bool false) rfl rfl ?_
 refine Run.done ?_
 refine Run.seq ?_
 refine Run.sr ?_
 refine Run.y (.agg #[.int .i64 (((n : Nat) : Int)), ve, vi, vo]) rfl (OpY.loadN (cs := [.int .i64 (((n : Nat) : Int)), ve, vi, vo]) Tagg_26 rfl (Cells.blk (.tail _ (List.Mem.head _)) ⟨rfl, rfl, rfl, rfl, trivial⟩)) ?_
 refine Run.q (v := .bool (ogB n es m is ni os no)) rfl (OpQ.call (vs := [.agg #[.int .i64 (((n : Nat) : Int)), ve, vi, vo]]) (caps := []) Tcall_32 rfl rfl (fun w hs => l19Good_spec hn11 (hs.sl he) (hs.sl hi) (hs.sl ho) hsm)) ?_
 refine Run.p (.bool (!(ogB n es m is ni os no))) rfl rfl ?_
 refine Run.done ?_
 refine Run.cond (b := !(ogB n es m is ni os no)) rfl (fun h8 => ?_) (fun h8 => ?_)
 ·have p8 := h8; try simp only [bs] at p8
  have hg : ogB n es m is ni os no = false := by simpa using p8
  refine Run.sr ?_
  refine Run.p (.bool false) rfl rfl ?_
  refine Run.p (.bool false) rfl rfl ?_
  refine Run.done ?_
  refine Run.ret ?_
  refine ⟨.tuple #[.bool false, .bool false], [], Out.two rfl rfl rfl, (Some'.weak (.nil _)), ?_⟩
  show _ = _; rw [hg]; first | rfl | simp
 ·have p8 := h8; try simp only [bs] at p8
  have hg : ogB n es m is ni os no = true := by simpa using p8
  obtain ⟨hn1, hn10, hes, hri, hro⟩ := og_ok hg
  refine Run.skip ?_
  refine Run.sr ?_
  refine Run.y (.agg #[.int .i64 (((n : Nat) : Int)), ve, vi, vo]) rfl (OpY.loadN (cs := [.int .i64 (((n : Nat) : Int)), ve, vi, vo]) Tagg_26 rfl (Cells.blk (.tail _ (List.Mem.head _)) ⟨rfl, rfl, rfl, rfl, trivial⟩)) ?_
  refine Run.y (.agg #[vx, vy]) rfl (OpY.loadN (cs := [vx, vy]) Tagg_38 rfl (Cells.blk (.head _) ⟨rfl, rfl, trivial⟩)) ?_
  refine Run.q (v := .bool (gfB es m n is ni os no nx nn ly nl)) rfl (OpQ.call (vs := [.agg #[.int .i64 (((n : Nat) : Int)), ve, vi, vo], .agg #[vx, vy]]) (caps := []) Tcall_45 rfl rfl (fun w hs => l19GFlow_spec hn1 hn10 hes hri (hs.sl he) (hs.sl hi) (hs.sl ho) (hs.sl hx) (hs.sl hy))) ?_
  refine Run.p (.bool (gfB es m n is ni os no nx nn ly nl)) rfl rfl ?_
  refine Run.p (.bool true) rfl rfl ?_
  refine Run.done ?_
  refine Run.ret ?_
  refine ⟨.tuple #[.bool (gfB es m n is ni os no nx nn ly nl), .bool true], [], Out.two rfl rfl rfl, (Some'.weak (.nil _)), ?_⟩
  show _ = _; rw [hg]; first | rfl | simp

end Go.Proofs.Ytoiaibgcjfgbcaa
