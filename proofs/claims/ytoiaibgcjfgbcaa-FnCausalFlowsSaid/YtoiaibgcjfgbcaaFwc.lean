/- Walks: causal flows and generalised flows are recognised. -/
import Derived.Test.YtoiaibgcjfgbcaaFwb
import Derived.Test.YtoiaibgcjfgbcaaProg
set_option linter.unusedSimpArgs false
set_option linter.unusedVariables false
namespace Go.Proofs.Ytoiaibgcjfgbcaa
open Go Go.RowKit
namespace FwcT
theorem Tagg_26 : aggOf Try.prog 26 = some 4 := by kernel_rfl
theorem Tcall_29 : callable Try.prog 29 = true := by kernel_rfl
theorem Tcall_30 : callable Try.prog 30 = true := by kernel_rfl
theorem Tcall_48 : callable Try.prog 48 = true := by kernel_rfl
theorem Tcall_55 : callable Try.prog 55 = true := by kernel_rfl
theorem Tcall_61 : callable Try.prog 61 = true := by kernel_rfl
theorem Tcall_62 : callable Try.prog 62 = true := by kernel_rfl
theorem Tcall_64 : callable Try.prog 64 = true := by kernel_rfl
theorem Tcall_65 : callable Try.prog 65 = true := by kernel_rfl
theorem Tcall_66 : callable Try.prog 66 = true := by kernel_rfl
theorem Tcall_67 : callable Try.prog 67 = true := by kernel_rfl
theorem Tcall_79 : callable Try.prog 79 = true := by kernel_rfl
theorem Tcall_80 : callable Try.prog 80 = true := by kernel_rfl
theorem Tcall_83 : callable Try.prog 83 = true := by kernel_rfl
theorem Tfo_26_0 : fieldOff Try.prog 26 0 = some 0 := by kernel_rfl
theorem Tfo_26_2 : fieldOff Try.prog 26 2 = some 2 := by kernel_rfl
theorem Tfo_26_3 : fieldOff Try.prog 26 3 = some 3 := by kernel_rfl
theorem Tfo_29_0 : fieldOff Try.prog 29 0 = some 0 := by kernel_rfl
theorem Tfo_29_1 : fieldOff Try.prog 29 1 = some 1 := by kernel_rfl
theorem Tint_52 : Try.prog.underlying 52 = some (.int .u64) := by kernel_rfl
theorem Tone_24 : oneOf Try.prog 24 = true := by kernel_rfl
theorem Tone_3 : oneOf Try.prog 3 = true := by kernel_rfl
theorem Tsl_24 : sliceOf Try.prog 24 = some (3, 1, 8, [.int .i64 0]) := by kernel_rfl
theorem Tsome_3 : (Try.prog.underlying 3).isSome = true := by kernel_rfl
end FwcT
open FwcT

section
variable {E : Env} {f : Fr} {H : List Res} {d : Option Tmp} {ty : TypeId} {pos : String} {after : Array Edge} {gd : Option (Nat × Bool)} {t t' : TypeId} {x y : Operand} {a b : Int} {m n : Nat}
theorem OpY.andNatE (hx : f.eval x = .int .i64 a) (hy : f.eval y = .int .i64 b) (ha : a = (m : Nat)) (hb : b = (n : Nat)) (hm : m < 9223372036854775808) (hn : n < 9223372036854775808) :
    OpY E ⟨d, .binOp .and t x y t', ty, pos, after, gd⟩ f H (.int .i64 ((m &&& n : Nat) : Int)) := by subst ha; subst hb; exact OpY.andNat2 hx hy hm hn
end
theorem bef_or {ly : List Int} {es : List Int} {n m u k : Nat} (hes : edgesOk (n : Int) es m = true) (hb : (ngK es k m).testBit u = true) : befB ly k (clr (2 ^ u ||| ngK es u m) k) n = (befB ly k (2 ^ u) n && befB ly k (clr (ngK es u m) k) n) := by
  have hne : ¬ k = u := by
    intro e; subst e
    rw [ng_bit hes k k m (Nat.le_refl m), jn_irr hes k m (Nat.le_refl m)] at hb; cases hb
  rw [Bool.eq_iff_iff, Bool.and_eq_true, bef_iff, bef_iff, bef_iff]
  constructor
  · intro h
    refine ⟨fun x hx hxb => h x hx ?_, fun x hx hxb => h x hx ?_⟩
    · rw [Nat.testBit_two_pow, decide_eq_true_eq] at hxb; subst hxb
      rw [clr_bit, Nat.testBit_or, Nat.testBit_two_pow, decide_eq_true rfl, decide_eq_false hne]; rfl
    · rw [clr_bit] at hxb ⊢
      simp only [Bool.and_eq_true] at hxb ⊢
      exact ⟨by rw [Nat.testBit_or, hxb.1, Bool.or_true], hxb.2⟩
  · rintro ⟨h1, h2⟩ x hx hxb
    rw [clr_bit, Nat.testBit_or, Bool.and_eq_true, Bool.or_eq_true] at hxb
    rcases hxb.1 with h | h
    · exact h1 x hx h
    · exact h2 x hx (by rw [clr_bit, h, hxb.2]; rfl)
theorem clr_or {s o k : Nat} (h : s.testBit k = false) : clr (s ||| o) k = s ||| clr o k := by
  refine Nat.eq_of_testBit_eq fun i => ?_
  rw [clr_bit, Nat.testBit_or, Nat.testBit_or, clr_bit]
  by_cases e : k = i
  · subst e; rw [h]; simp
  · rw [decide_eq_false e]; simp
theorem not_any (p : Nat → Bool) (n : Nat) : (!anyI (fun i => !p i) n) = allI p n := by
  rw [Bool.eq_iff_iff, Bool.not_eq_true', allI_iff]
  constructor
  · intro h i hi
    cases hw : p i with
    | true => rfl
    | false => rw [anyI_true hi (by rw [hw]; rfl)] at h; cases h
  · intro h; exact anyI_false fun i hi => by rw [h i hi]; rfl
theorem Sl.cnt {w : World} {v : Value} {size n n2 : Nat} {xs : List Value} (e : n = n2) (h : Sl w v size n xs) : Sl w v size n2 xs := e ▸ h
theorem flB_at {es is os nx ly : List Int} {m n ni no nn nl k : Nat} (hk : k < nn) (h : flAt es m n is ni os no nx ly k = false) : flB es m n is ni os no nx nn ly nl = false := by
  unfold flB; rw [allI_false hk h]; simp
theorem gfB_at {es is os ss ly : List Int} {m n ni no nn nl k : Nat} (hk : k < nn) (h : gfAt es m n is ni os no ss ly k = false) : gfB es m n is ni os no ss nn ly nl = false := by
  unfold gfB; rw [allI_false hk h]; simp

set_option maxHeartbeats 1000000 in
set_option maxRecDepth 20000 in
theorem layClo_spec (x : Int) (w : World) : Calls Try.prog 80 #[.int .i64 x] w (Post No w fun v _ => v = .bool (!within x 0 100)) := by
 refine enter (n := 6) (args := [.int .i64 x]) Try.func80 rfl rfl (St.empty _ _) ?_
 refine Run.sr ?_
 refine Run.p (.bool false) rfl rfl ?_
 refine Run.dsr ?_
 refine Run.p (.int .i64 x) rfl rfl ?_
 refine Run.q (v := .bool (within x 0 100)) rfl (OpQ.call (vs := [.int .i64 x, .int .i64 0, .int .i64 100]) (caps := []) Tcall_48 rfl rfl (fun w hs => within_spec _ _ _ w)) ?_
 refine Run.p (.bool (!(within x 0 100))) rfl rfl ?_
 refine Run.p (.bool (!(within x 0 100))) rfl rfl ?_
 refine Run.done ?_
 refine Run.ret ?_
 refine ⟨.bool (!(within x 0 100)), [], Out.one rfl rfl, (Some'.weak (.nil _)), ?_⟩
 rfl

set_option maxHeartbeats 1000000 in
set_option maxRecDepth 20000 in
theorem IndexFuncLay_spec  {va : Value} {n : Nat} {xs : List Int} {w : World} (ha : Sl w va 1 n (ints xs))  : Calls Try.prog 83 #[va, .func (.func 80) #[] #[]] w (Post No w fun v _ => v = .int .i64 (findI (fun i => !within (ix xs i) 0 100) n)) := by
 have hxl := ha.len
 have hn := ha.le
 obtain ⟨A, c, rfl, _, _⟩ := ha.form0
 refine enter (n := 19) (args := [.slice A n c, .func (.func 80) #[] #[]]) Try.func83 rfl rfl (St.empty _ _) ?_
 refine Run.sr ?_
 refine Run.p (.int .i64 0) rfl rfl ?_
 refine Run.done ?_
 refine Run.seq ?_
 refine Run.sr ?_
 refine Run.p (.slice A n c) rfl rfl ?_
 refine Run.y (.int .i64 (((n : Nat) : Int))) rfl (OpY.len Tsl_24 rfl) ?_
 refine Run.p (.int .i64 0) rfl rfl ?_
 refine Run.done ?_
 refine Run.block ?_
 refine Run.loop (ι := Nat) [4, 5, 8, 9, 10, 11, 12, 13, 14, 15, 16, 17, 18] (fun k => [(8, .int .i64 (((k : Nat) : Int)))]) (fun k => []) (fun k => k ≤ n ∧ (∀ i, i < k → (!within (ix xs i) 0 100) = false)) (fun k => n - k) 0 ?_ ?_ ?_ ?_
 ·exact ⟨Nat.zero_le _, by first | trivial | (intro i hi; omega)⟩
 ·exact ⟨rfl, trivial⟩
 ·exact (Some'.weak (.nil _))
 ·rintro k fr hinv
  show Run _ _ (over _ _ [(8, .int .i64 (((k : Nat) : Int)))] fr) []
  try dsimp only at hinv
  refine Run.sr ?_
  refine Run.p (.bool (decide ((((k : Nat) : Int)) < (((n : Nat) : Int))))) rfl rfl ?_
  refine Run.done ?_
  refine Run.seq ?_
  refine Run.cond (b := decide ((((k : Nat) : Int)) < (((n : Nat) : Int)))) rfl (fun h9 => ?_) (fun h9 => ?_)
  ·have p9 := h9; try simp only [bs] at p9
   have hltk : k < n := by omega
   obtain ⟨b, o, rfl⟩ := ha.opn (by omega)
   refine Run.skip ?_
   refine Run.seq ?_
   refine Run.block ?_
   refine Run.sr ?_
   refine Run.p (.int .i64 (((k : Nat) : Int))) rfl rfl ?_
   refine Run.p (.int .i64 (((k : Nat) : Int))) rfl rfl ?_
   refine Run.dsr ?_
   refine Run.p (.func (.func 80) #[] #[]) rfl rfl ?_
   refine Run.p (.slice (some ⟨b, o, none⟩) n c) rfl rfl ?_
   refine Run.p (.int .i64 (((k : Nat) : Int))) rfl rfl ?_
   refine Run.y (.pointer (some ⟨b, o + k, none⟩)) rfl (OpY.index (kk := k) Tsl_24 rfl rfl (by omega) (by omega) (by first | rfl | omega)) ?_
   refine Run.y (.int .i64 (ix xs (k))) rfl (OpY.load1 Tone_3 rfl (Cells.arg (k := k) ha rfl (by omega) (pre1 (by omega)))) ?_
   refine Run.q (v := .bool (!within (ix xs k) 0 100)) rfl (OpQ.call (vs := [.int .i64 (ix xs (k))]) (caps := []) Tcall_80 rfl rfl (fun w hs => layClo_spec _ w)) ?_
   refine Run.done ?_
   refine Run.cond (b := !within (ix xs k) 0 100) rfl (fun h16 => ?_) (fun h16 => ?_)
   ·have p16 := h16; try simp only [bs] at p16
    refine Run.seq ?_
    have hres : findI (fun i => !within (ix xs i) 0 100) n = k := findI_hit hinv.2 h16 hltk
    refine Run.region ?_
    refine Run.p (.int .i64 (((k : Nat) : Int))) rfl rfl ?_
    refine Run.p (.int .i64 (((k : Nat) : Int))) rfl rfl ?_
    refine Run.done ?_
    refine Run.ret ?_
    refine ⟨.int .i64 (((k : Nat) : Int)), [], Out.one rfl rfl, (Some'.weak (.nil _)), ?_⟩
    show _ = _; rw [hres]
   ·have p16 := h16; try simp only [bs] at p16
    refine Run.skip ?_
    refine Run.blockEnd ?_
    have hgood : (!within (ix xs k) 0 100) = false := h16
    refine Run.region ?_
    refine Run.y (.int .i64 ((((k : Nat) : Int)) + 1)) rfl (OpY.add rfl rfl rfl (by omega) (by omega)) ?_
    refine Run.p (.int .i64 ((((k : Nat) : Int)) + 1)) rfl rfl ?_
    refine Run.done ?_
    refine Run.goal ⟨(by repeat (first | exact Same.refl _ _ | refine Same.put rfl ?_ | refine Same.over rfl rfl ?_)), k + 1, ?_, ?_, ?_, ?_⟩
    ·refine ⟨by omega, ?_⟩
     intro i hi
     rcases Nat.lt_succ_iff_lt_or_eq.1 hi with h | h
     ·exact hinv.2 i h
     ·rw [h]; exact hgood
    ·omega
    ·exact ⟨(by first | rfl | (congr 1; omega) | simp), trivial⟩
    ·exact (Some'.weak (.nil _))
  ·have p9 := h9; try simp only [bs] at p9
   have hknk : k = n := by omega
   have hres : findI (fun i => !within (ix xs i) 0 100) n = -1 := by rw [← hknk]; exact findI_none hinv.2
   refine Run.exit rfl ?_
   refine Run.sr ?_
   refine Run.p (.int .i64 (-1)) rfl rfl ?_
   refine Run.done ?_
   refine Run.ret ?_
   refine ⟨.int .i64 (-1), [], Out.one rfl rfl, (Some'.weak (.nil _)), ?_⟩
   show _ = _; rw [hres]

set_option maxHeartbeats 1000000 in
set_option maxRecDepth 20000 in
theorem ContainsFuncLay_spec  {va : Value} {n : Nat} {xs : List Int} {w : World} (ha : Sl w va 1 n (ints xs))  : Calls Try.prog 79 #[va, .func (.func 80) #[] #[]] w (Post No w fun v _ => v = .bool (anyI (fun i => !within (ix xs i) 0 100) n)) := by
 refine enter (n := 9) (args := [va, .func (.func 80) #[] #[]]) Try.func79 rfl rfl (St.empty _ _) ?_
 refine Run.sr ?_
 refine Run.p (.bool false) rfl rfl ?_
 refine Run.dsr ?_
 refine Run.p (va) rfl rfl ?_
 refine Run.p (.func (.func 80) #[] #[]) rfl rfl ?_
 refine Run.q (v := .int .i64 (findI (fun i => !within (ix xs i) 0 100) n)) rfl (OpQ.call (vs := [va, .func (.func 80) #[] #[]]) (caps := []) Tcall_83 rfl rfl (fun w hs => IndexFuncLay_spec (hs.sl ha) )) ?_
 refine Run.p (.bool (decide ((findI (fun i => !within (ix xs i) 0 100) n) ≥ 0))) rfl rfl ?_
 refine Run.p (.bool (decide ((findI (fun i => !within (ix xs i) 0 100) n) ≥ 0))) rfl rfl ?_
 refine Run.done ?_
 refine Run.ret ?_
 refine ⟨.bool (decide ((findI (fun i => !within (ix xs i) 0 100) n) ≥ 0)), [], Out.one rfl rfl, (Some'.weak (.nil _)), ?_⟩
 show _ = _; rw [findI_ge]

set_option maxHeartbeats 1000000 in
set_option maxRecDepth 20000 in
theorem areLayers_spec {ve vi vo vl : Value} {n nl : Nat} {ly : List Int} {w : World} (hl : Sl w vl 1 nl (ints ly)) : Calls Try.prog 64 #[.agg #[.int .i64 (n : Int), ve, vi, vo], vl] w (Post No w fun v _ => v = .bool (layB ly nl n)) := by
 obtain ⟨A, c, rfl, _, _⟩ := hl.form0
 refine enter (n := 15) (args := [.agg #[.int .i64 (((n : Nat) : Int)), ve, vi, vo], .slice A nl c]) Try.func64 rfl rfl (St.empty _ _) ?_
 refine Run.sr ?_
 refine Run.step rfl (OpStep.box (us := [.int .i64 (((n : Nat) : Int)), ve, vi, vo]) rfl fun b1 => ?_)
 refine Run.p (.bool false) rfl rfl ?_
 refine Run.dsr ?_
 refine Run.p (.slice A nl c) rfl rfl ?_
 refine Run.y (.int .i64 (((nl : Nat) : Int))) rfl (OpY.len Tsl_24 rfl) ?_
 refine Run.y (.pointer (some ⟨b1, 0, none⟩)) rfl (OpY.fieldAddr Tfo_26_0 rfl rfl) ?_
 refine Run.y (.int .i64 (((n : Nat) : Int))) rfl (OpY.load1 Tone_3 rfl (Cells.blk (.head _) ⟨rfl, trivial⟩)) ?_
 refine Run.p (.bool ((((nl : Nat) : Int)) == (((n : Nat) : Int)))) rfl rfl ?_
 rcases Bool.eq_false_or_eq_true ((((nl : Nat) : Int)) == (((n : Nat) : Int))) with h10 | h10
 ·refine Run.q (v := .bool true) rfl (OpQ.y (OpY.moveB rfl h10)) ?_
  have p10 := h10; try simp only [bs] at p10
  have hnn : nl = n := by omega
  refine Run.p (.slice A nl c) rfl rfl ?_
  refine Run.q (v := .bool (anyI (fun i => !within (ix ly i) 0 100) nl)) rfl (OpQ.call (vs := [.slice A nl c, .func (.func 80) #[] #[]]) (caps := []) Tcall_79 rfl rfl (fun w hs => ContainsFuncLay_spec (hs.sl hl))) ?_
  refine Run.p (.bool (!(anyI (fun i => !within (ix ly i) 0 100) nl))) rfl rfl ?_
  refine Run.p (.bool (!(anyI (fun i => !within (ix ly i) 0 100) nl))) rfl rfl ?_
  refine Run.p (.bool (!(anyI (fun i => !within (ix ly i) 0 100) nl))) rfl rfl ?_
  refine Run.done ?_
  refine Run.ret ?_
  refine ⟨.bool (!(anyI (fun i => !within (ix ly i) 0 100) nl)), [], Out.one rfl rfl, (Some'.weak (.nil _)), ?_⟩
  show _ = _; unfold layB; first | (rw [decide_eq_false hnn]; rfl) | (rw [decide_eq_true hnn, Bool.true_and]; exact congrArg Value.bool (not_any _ _))
 ·refine Run.q (v := .bool false) rfl (OpQ.y (OpY.moveB rfl h10)) ?_
  have p10 := h10; try simp only [bs] at p10
  have hnn : ¬ nl = n := by omega
  refine Run.pass rfl ?_
  refine Run.pass rfl ?_
  refine Run.pass rfl ?_
  refine Run.p (.bool false) rfl rfl ?_
  refine Run.p (.bool false) rfl rfl ?_
  refine Run.done ?_
  refine Run.ret ?_
  refine ⟨.bool false, [], Out.one rfl rfl, (Some'.weak (.nil _)), ?_⟩
  show _ = _; unfold layB; first | (rw [decide_eq_false hnn]; rfl) | (rw [decide_eq_true hnn, Bool.true_and]; exact congrArg Value.bool (not_any _ _))

set_option maxHeartbeats 2000000 in
set_option maxRecDepth 20000 in
theorem isFlow_spec {ve vi vo vx vy : Value} {n m ni no nn nl : Nat} {es is os nx ly : List Int} {w : World} (hn1 : 1 ≤ n) (hn10 : n ≤ 10) (hes : edgesOk (n : Int) es m = true) (hri : risB is n ni = true) (he : Sl w ve 2 m (ints es)) (hi : Sl w vi 1 ni (ints is)) (ho : Sl w vo 1 no (ints os)) (hx : Sl w vx 1 nn (ints nx)) (hy : Sl w vy 1 nl (ints ly)) : Calls Try.prog 35 #[.agg #[.int .i64 (n : Int), ve, vi, vo], .agg #[vx, vy]] w (Post No w fun v _ => v = .bool (flB es m n is ni os no nx nn ly nl)) := by
 have hp10 := pow10 hn10
 obtain ⟨Ax, cx_, rfl, _, _⟩ := hx.form0
 have hxl := hx.len
 obtain ⟨Ay, cy_, rfl, _, _⟩ := hy.form0
 refine enter (n := 80) (args := [.agg #[.int .i64 (((n : Nat) : Int)), ve, vi, vo], .agg #[.slice Ax nn cx_, .slice Ay nl cy_]]) Try.func35 rfl rfl (St.empty _ _) ?_
 refine Run.sr ?_
 refine Run.step rfl (OpStep.box (us := [.int .i64 (((n : Nat) : Int)), ve, vi, vo]) rfl fun b1 => ?_)
 refine Run.step rfl (OpStep.box (us := [.slice Ax nn cx_, .slice Ay nl cy_]) rfl fun b2 => ?_)
 refine Run.p (.bool false) rfl rfl ?_
 refine Run.done ?_
 refine Run.seq ?_
 refine Run.sr ?_
 refine Run.y (.pointer (some ⟨b2, 0, none⟩)) rfl (OpY.fieldAddr Tfo_29_0 rfl rfl) ?_
 refine Run.y (.slice Ax nn cx_) rfl (OpY.load1 Tone_24 rfl (Cells.blk (.head _) ⟨rfl, trivial⟩)) ?_
 refine Run.y (.int .i64 (((nn : Nat) : Int))) rfl (OpY.len Tsl_24 rfl) ?_
 refine Run.y (.pointer (some ⟨b1, 0, none⟩)) rfl (OpY.fieldAddr Tfo_26_0 rfl rfl) ?_
 refine Run.y (.int .i64 (((n : Nat) : Int))) rfl (OpY.load1 Tone_3 rfl (Cells.blk (.tail _ (List.Mem.head _)) ⟨rfl, trivial⟩)) ?_
 refine Run.p (.bool ((((nn : Nat) : Int)) != (((n : Nat) : Int)))) rfl rfl ?_
 rcases Bool.eq_false_or_eq_true ((((nn : Nat) : Int)) != (((n : Nat) : Int))) with h13 | h13
 ·refine Run.q (v := .bool true) rfl (OpQ.y (OpY.moveB rfl h13)) ?_
  have p13 := h13; try simp only [bs] at p13
  refine Run.pass rfl ?_
  refine Run.pass rfl ?_
  refine Run.pass rfl ?_
  refine Run.pass rfl ?_
  refine Run.pass rfl ?_
  refine Run.p (.bool true) rfl rfl ?_
  refine Run.done ?_
  refine Run.cond (b := true) rfl (fun _ => ?_) (fun h => nomatch h)
  refine Run.seq ?_
  have hres : flB es m n is ni os no nx nn ly nl = false := by
   unfold flB
   first | (rw [decide_eq_false (show ¬ nn = n by omega)]; rfl) | (rw [show layB ly nl n = false by simpa using p19]; simp)
  refine Run.region ?_
  refine Run.p (.bool false) rfl rfl ?_
  refine Run.done ?_
  refine Run.ret ?_
  refine ⟨.bool false, [], Out.one rfl rfl, (Some'.weak (.nil _)), ?_⟩
  show _ = _; rw [hres]
 ·refine Run.q (v := .bool false) rfl (OpQ.y (OpY.moveB rfl h13)) ?_
  have p13 := h13; try simp only [bs] at p13
  refine Run.y (.agg #[.int .i64 (((n : Nat) : Int)), ve, vi, vo]) rfl (OpY.loadN (cs := [.int .i64 (((n : Nat) : Int)), ve, vi, vo]) Tagg_26 rfl (Cells.blk (.tail _ (List.Mem.head _)) ⟨rfl, rfl, rfl, rfl, trivial⟩)) ?_
  refine Run.y (.pointer (some ⟨b2, 1, none⟩)) rfl (OpY.fieldAddr Tfo_29_1 rfl rfl) ?_
  refine Run.y (.slice Ay nl cy_) rfl (OpY.load1 Tone_24 rfl (Cells.blk (.head _) ⟨rfl, trivial⟩)) ?_
  refine Run.q (v := .bool (layB ly nl n)) rfl (OpQ.call (vs := [.agg #[.int .i64 (((n : Nat) : Int)), ve, vi, vo], .slice Ay nl cy_]) (caps := []) Tcall_64 rfl rfl (fun w hs => areLayers_spec (hs.sl hy))) ?_
  refine Run.p (.bool (!(layB ly nl n))) rfl rfl ?_
  refine Run.p (.bool (!(layB ly nl n))) rfl rfl ?_
  refine Run.done ?_
  refine Run.cond (b := !(layB ly nl n)) rfl (fun h19 => ?_) (fun h19 => ?_)
  ·have p19 := h19; try simp only [bs] at p19
   refine Run.seq ?_
   have hres : flB es m n is ni os no nx nn ly nl = false := by
    unfold flB
    first | (rw [decide_eq_false (show ¬ nn = n by omega)]; rfl) | (rw [show layB ly nl n = false by simpa using p19]; simp)
   refine Run.region ?_
   refine Run.p (.bool false) rfl rfl ?_
   refine Run.done ?_
   refine Run.ret ?_
   refine ⟨.bool false, [], Out.one rfl rfl, (Some'.weak (.nil _)), ?_⟩
   show _ = _; rw [hres]
  ·have p19 := h19; try simp only [bs] at p19
   have hnn : nn = n := by omega
   have hlay : layB ly nl n = true := by simpa using p19
   have hnl : nl = n := by simp only [layB, Bool.and_eq_true, decide_eq_true_eq] at hlay; exact hlay.1
   refine Run.skip ?_
   refine Run.seq ?_
   refine Run.sr ?_
   refine Run.y (.pointer (some ⟨b2, 0, none⟩)) rfl (OpY.fieldAddr Tfo_29_0 rfl rfl) ?_
   refine Run.y (.slice Ax nn cx_) rfl (OpY.load1 Tone_24 rfl (Cells.blk (.head _) ⟨rfl, trivial⟩)) ?_
   refine Run.y (.int .i64 (((nn : Nat) : Int))) rfl (OpY.len Tsl_24 rfl) ?_
   refine Run.p (.int .i64 0) rfl rfl ?_
   refine Run.done ?_
   refine Run.block ?_
   refine Run.loop (ι := Nat) ([4, 5, 6, 23, 24, 25, 26, 27, 28, 29, 30, 31, 32, 33, 34, 35, 36, 37, 38, 39, 40, 41, 42, 43, 44, 45, 46, 47, 48, 49, 50, 51, 52, 53, 54, 55, 56, 57, 58, 59, 60, 61, 62, 63, 64, 65, 66, 67, 68, 69] ++ [70, 71, 72, 73, 74, 75, 76, 77, 78, 79]) (fun k => [(23, .int .i64 (((k : Nat) : Int)))]) (fun k => [.blk b2 29 [.slice Ax nn cx_, .slice Ay nl cy_], .blk b1 26 [.int .i64 (((n : Nat) : Int)), ve, vi, vo]]) (fun k => k ≤ nn ∧ (∀ i, i < k → flAt es m n is ni os no nx ly i = true)) (fun k => nn - k) 0 ?_ ?_ ?_ ?_
   ·exact ⟨Nat.zero_le _, by first | trivial | (intro i hi; omega)⟩
   ·exact ⟨rfl, trivial⟩
   ·exact (Some'.weak (.take (.take (.nil _))))
   ·rintro k fr hinv
    show Run _ _ (over _ _ [(23, .int .i64 (((k : Nat) : Int)))] fr) [.blk b2 29 [.slice Ax nn cx_, .slice Ay nl cy_], .blk b1 26 [.int .i64 (((n : Nat) : Int)), ve, vi, vo]]
    try dsimp only at hinv
    refine Run.sr ?_
    refine Run.p (.bool (decide ((((k : Nat) : Int)) < (((nn : Nat) : Int))))) rfl rfl ?_
    refine Run.done ?_
    refine Run.seq ?_
    refine Run.cond (b := decide ((((k : Nat) : Int)) < (((nn : Nat) : Int)))) rfl (fun h24 => ?_) (fun h24 => ?_)
    ·have p24 := h24; try simp only [bs] at p24
     have hltk : k < nn := by omega
     obtain ⟨bq, oq, rfl⟩ := hx.opn (by omega)
     have hkn : k < n := by omega
     have hngk := ng_lt hes k m (Nat.le_refl m)
     obtain ⟨q2, hq2, hq21, hq22⟩ := pow_q (k := k) hn10 hkn
     refine Run.skip ?_
     refine Run.seq ?_
     refine Run.block ?_
     refine Run.sr ?_
     refine Run.p (.int .i64 (((k : Nat) : Int))) rfl rfl ?_
     refine Run.y (.pointer (some ⟨bq, oq + k, none⟩)) rfl (OpY.index (kk := k) Tsl_24 rfl rfl (by omega) (by omega) (by first | rfl | omega)) ?_
     refine Run.y (.int .i64 (ix nx (k))) rfl (OpY.load1 Tone_3 rfl (Cells.arg (k := k) hx rfl (by omega) (pre1 (by omega)))) ?_
     refine Run.p (.int .i64 (((k : Nat) : Int))) rfl rfl ?_
     refine Run.p (.int .i64 (ix nx (k))) rfl rfl ?_
     refine Run.done ?_
     refine Run.seq ?_
     refine Run.sr ?_
     refine Run.y (.pointer (some ⟨b1, 3, none⟩)) rfl (OpY.fieldAddr Tfo_26_3 rfl rfl) ?_
     refine Run.y (vo) rfl (OpY.load1 Tone_24 rfl (Cells.blk (.tail _ (List.Mem.head _)) ⟨rfl, trivial⟩)) ?_
     refine Run.p (.int .i64 (((k : Nat) : Int))) rfl rfl ?_
     refine Run.q (v := .bool (hasI os (k : Int) no)) rfl (OpQ.call (vs := [vo, .int .i64 (((k : Nat) : Int))]) (caps := []) Tcall_30 rfl rfl (fun w hs => ContainsInt_spec (hs.sl ho))) ?_
     refine Run.done ?_
     refine Run.cond (b := hasI os (k : Int) no) rfl (fun h31 => ?_) (fun h31 => ?_)
     ·have p31 := h31; try simp only [bs] at p31
      have hno : hasI os (k : Int) no = true := by simpa using p31
      refine Run.seq ?_
      refine Run.sr ?_
      refine Run.p (.int .i64 (ix nx (k))) rfl rfl ?_
      refine Run.p (.bool ((ix nx (k)) != (-1))) rfl rfl ?_
      refine Run.done ?_
      refine Run.cond (b := (ix nx (k)) != (-1)) rfl (fun h33 => ?_) (fun h33 => ?_)
      ·have p33 := h33; try simp only [bs] at p33
       have hres : flB es m n is ni os no nx nn ly nl = false := flB_at hltk (by unfold flAt; rw [if_pos hno]; exact decide_eq_false (by omega))
       refine Run.sr ?_
       refine Run.p (.bool false) rfl rfl ?_
       refine Run.done ?_
       refine Run.ret ?_
       refine ⟨.bool false, [], Out.one rfl rfl, (Some'.weak (.nil _)), ?_⟩
       show _ = _; rw [hres]
      ·have p33 := h33; try simp only [bs] at p33
       have hgood : flAt es m n is ni os no nx ly k = true := by unfold flAt; rw [if_pos hno]; exact decide_eq_true (by omega)
       refine Run.skip ?_
       refine Run.exit rfl ?_
       refine Run.region ?_
       refine Run.y (.int .i64 ((((k : Nat) : Int)) + 1)) rfl (OpY.add rfl rfl rfl (by omega) (by omega)) ?_
       refine Run.p (.int .i64 ((((k : Nat) : Int)) + 1)) rfl rfl ?_
       refine Run.done ?_
       refine Run.goal ⟨(by repeat (first | exact Same.refl _ _ | refine Same.put rfl ?_ | refine Same.over rfl rfl ?_)), k + 1, ?_, ?_, ?_, ?_⟩
       ·refine ⟨by omega, ?_⟩
        intro i hi
        rcases Nat.lt_succ_iff_lt_or_eq.1 hi with h | h
        ·exact hinv.2 i h
        ·rw [h]; exact hgood
       ·omega
       ·exact ⟨(by first | rfl | (congr 1; omega) | simp), trivial⟩
       ·exact (Some'.weak (.takeEq (by first | rfl | simp) (.take (.nil _))))
     ·have p31 := h31; try simp only [bs] at p31
      have hno : hasI os (k : Int) no = false := by simpa using p31
      refine Run.skip ?_
      refine Run.seq ?_
      refine Run.draws (by kernel_rfl) (by kernel_rfl) ?_
      refine Lex.q (v := .int .i64 (ix nx (k))) rfl (OpQ.y (OpY.pure rfl)) ?_
      refine Lex.q (v := .pointer (some ⟨b1, 0, none⟩)) rfl (OpQ.y (OpY.fieldAddr Tfo_26_0 rfl rfl)) ?_
      refine Lex.q (v := .int .i64 (((n : Nat) : Int))) rfl (OpQ.y (OpY.load1 Tone_3 rfl (Cells.blk (.tail _ (List.Mem.head _)) ⟨rfl, trivial⟩))) ?_
      refine Lex.q (v := .int .i64 ((((n : Nat) : Int)) - 1)) rfl (OpQ.y (OpY.sub rfl rfl rfl (by omega) (by omega))) ?_
      refine Lex.q (v := .bool (within (ix nx k) 0 ((n : Int) - 1))) rfl (OpQ.call (vs := [.int .i64 (ix nx (k)), .int .i64 0, .int .i64 ((((n : Nat) : Int)) - 1)]) (caps := []) Tcall_48 rfl rfl (fun w hs => within_spec _ _ _ w)) ?_
      refine Lex.q (v := .bool (!(within (ix nx k) 0 ((n : Int) - 1)))) rfl (OpQ.y (OpY.pure rfl)) ?_
      rcases Bool.eq_false_or_eq_true (!(within (ix nx k) 0 ((n : Int) - 1))) with h40 | h40
      ·refine Lex.q (v := .bool true) rfl (OpQ.y (OpY.moveB rfl h40)) ?_
       have p40 := h40; try simp only [bs] at p40
       have hz1 : within (ix nx k) 0 ((n : Int) - 1) = false := by simpa using p40
       refine Lex.pass rfl ?_
       refine Lex.pass rfl ?_
       refine Lex.pass rfl ?_
       refine Lex.pass rfl ?_
       refine Lex.q (v := .bool true) rfl (OpQ.y (OpY.pure rfl)) ?_
       refine Lex.q (v := .bool true) rfl (OpQ.y (OpY.pure rfl)) ?_
       refine Lex.pass rfl ?_
       refine Lex.pass rfl ?_
       refine Lex.pass rfl ?_
       refine Lex.pass rfl ?_
       refine Lex.pass rfl ?_
       refine Lex.pass rfl ?_
       refine Lex.pass rfl ?_
       refine Lex.q (v := .bool true) rfl (OpQ.y (OpY.pure rfl)) ?_
       refine Lex.q (v := .bool true) rfl (OpQ.y (OpY.pure rfl)) ?_
       refine Lex.pass rfl ?_
       refine Lex.pass rfl ?_
       refine Lex.pass rfl ?_
       refine Lex.pass rfl ?_
       refine Lex.pass rfl ?_
       refine Lex.pass rfl ?_
       refine Lex.pass rfl ?_
       refine Lex.pass rfl ?_
       refine Lex.q (v := .bool true) rfl (OpQ.y (OpY.pure rfl)) ?_
       refine Lex.q (v := .bool true) rfl (OpQ.y (OpY.pure rfl)) ?_
       refine Lex.pass rfl ?_
       refine Lex.pass rfl ?_
       refine Lex.pass rfl ?_
       refine Lex.pass rfl ?_
       refine Lex.pass rfl ?_
       refine Lex.pass rfl ?_
       refine Lex.pass rfl ?_
       refine Lex.pass rfl ?_
       refine Lex.pass rfl ?_
       refine Lex.pass rfl ?_
       refine Lex.pass rfl ?_
       refine Lex.pass rfl ?_
       refine Lex.q (v := .bool true) rfl (OpQ.y (OpY.pure rfl)) ?_
       refine Lex.done ?_
       refine Run.cond (b := true) rfl (fun _ => ?_) (fun h => nomatch h)
       refine Run.seq ?_
       have hres : flB es m n is ni os no nx nn ly nl = false := flB_at hltk (by unfold flAt; rw [if_neg (by rw [hno]; decide)]; first | (rw [hz1]; rfl) | (rw [hz2]; simp; done) | (rw [hut, hz3]; simp; done) | (rw [hut, hz4]; simp; done) | (rw [hut, hz5]; simp; done) | (simp only [hut, hw1, hw2, hw3, Bool.not_false, Bool.true_and]; exact hz6))
       refine Run.region ?_
       refine Run.p (.bool false) rfl rfl ?_
       refine Run.done ?_
       refine Run.ret ?_
       refine ⟨.bool false, [], Out.one rfl rfl, (Some'.weak (.nil _)), ?_⟩
       show _ = _; rw [hres]
      ·refine Lex.q (v := .bool false) rfl (OpQ.y (OpY.moveB rfl h40)) ?_
       have p40 := h40; try simp only [bs] at p40
       have hw1 : within (ix nx k) 0 ((n : Int) - 1) = true := by simpa using p40
       have hw1i := within_iff.1 hw1
       obtain ⟨u, hu⟩ : ∃ u : Nat, ix nx k = (u : Int) := ⟨(ix nx k).toNat, by omega⟩
       have hut : (ix nx k).toNat = u := by rw [hu, Int.toNat_natCast]
       obtain ⟨q1, hq1, hq11, hq12⟩ := pow_q (k := u) hn10 (by omega)
       have hngu := ng_lt hes u m (Nat.le_refl m)
       have hq1n : q1 < 2 ^ n := by rw [hq1]; exact Nat.pow_lt_pow_right (by omega) (by omega)
       have hcl : ngK es u m ^^^ (ngK es u m &&& q2) = clr (ngK es u m) k := by rw [hq2]; rfl
       have hcll := clr_lt (v := k) hngu
       refine Lex.q (v := .pointer (some ⟨b1, 2, none⟩)) rfl (OpQ.y (OpY.fieldAddr Tfo_26_2 rfl rfl)) ?_
       refine Lex.q (v := vi) rfl (OpQ.y (OpY.load1 Tone_24 rfl (Cells.blk (.tail _ (List.Mem.head _)) ⟨rfl, trivial⟩))) ?_
       refine Lex.q (v := .int .i64 (ix nx (k))) rfl (OpQ.y (OpY.pure rfl)) ?_
       refine Lex.q (v := .bool (hasI is (ix nx k) ni)) rfl (OpQ.call (vs := [vi, .int .i64 (ix nx (k))]) (caps := []) Tcall_30 rfl rfl (fun w hs => ContainsInt_spec (hs.sl hi))) ?_
       refine Lex.q (v := .bool (hasI is (ix nx k) ni)) rfl (OpQ.y (OpY.pure rfl)) ?_
       rcases Bool.eq_false_or_eq_true (hasI is (ix nx k) ni) with h46 | h46
       ·refine Lex.q (v := .bool true) rfl (OpQ.y (OpY.moveB rfl h46)) ?_
        have p46 := h46; try simp only [bs] at p46
        have hz2 : hasI is (ix nx k) ni = true := by simpa using p46
        refine Lex.pass rfl ?_
        refine Lex.pass rfl ?_
        refine Lex.pass rfl ?_
        refine Lex.pass rfl ?_
        refine Lex.pass rfl ?_
        refine Lex.pass rfl ?_
        refine Lex.pass rfl ?_
        refine Lex.q (v := .bool true) rfl (OpQ.y (OpY.pure rfl)) ?_
        refine Lex.q (v := .bool true) rfl (OpQ.y (OpY.pure rfl)) ?_
        refine Lex.pass rfl ?_
        refine Lex.pass rfl ?_
        refine Lex.pass rfl ?_
        refine Lex.pass rfl ?_
        refine Lex.pass rfl ?_
        refine Lex.pass rfl ?_
        refine Lex.pass rfl ?_
        refine Lex.pass rfl ?_
        refine Lex.q (v := .bool true) rfl (OpQ.y (OpY.pure rfl)) ?_
        refine Lex.q (v := .bool true) rfl (OpQ.y (OpY.pure rfl)) ?_
        refine Lex.pass rfl ?_
        refine Lex.pass rfl ?_
        refine Lex.pass rfl ?_
        refine Lex.pass rfl ?_
        refine Lex.pass rfl ?_
        refine Lex.pass rfl ?_
        refine Lex.pass rfl ?_
        refine Lex.pass rfl ?_
        refine Lex.pass rfl ?_
        refine Lex.pass rfl ?_
        refine Lex.pass rfl ?_
        refine Lex.pass rfl ?_
        refine Lex.q (v := .bool true) rfl (OpQ.y (OpY.pure rfl)) ?_
        refine Lex.done ?_
        refine Run.cond (b := true) rfl (fun _ => ?_) (fun h => nomatch h)
        refine Run.seq ?_
        have hres : flB es m n is ni os no nx nn ly nl = false := flB_at hltk (by unfold flAt; rw [if_neg (by rw [hno]; decide)]; first | (rw [hz1]; rfl) | (rw [hz2]; simp; done) | (rw [hut, hz3]; simp; done) | (rw [hut, hz4]; simp; done) | (rw [hut, hz5]; simp; done) | (simp only [hut, hw1, hw2, hw3, Bool.not_false, Bool.true_and]; exact hz6))
        refine Run.region ?_
        refine Run.p (.bool false) rfl rfl ?_
        refine Run.done ?_
        refine Run.ret ?_
        refine ⟨.bool false, [], Out.one rfl rfl, (Some'.weak (.nil _)), ?_⟩
        show _ = _; rw [hres]
       ·refine Lex.q (v := .bool false) rfl (OpQ.y (OpY.moveB rfl h46)) ?_
        have p46 := h46; try simp only [bs] at p46
        have hw2 : hasI is (ix nx k) ni = false := by simpa using p46
        refine Lex.q (v := .agg #[.int .i64 (((n : Nat) : Int)), ve, vi, vo]) rfl (OpQ.y (OpY.loadN (cs := [.int .i64 (((n : Nat) : Int)), ve, vi, vo]) Tagg_26 rfl (Cells.blk (.tail _ (List.Mem.head _)) ⟨rfl, rfl, rfl, rfl, trivial⟩))) ?_
        refine Lex.q (v := .int .i64 (((k : Nat) : Int))) rfl (OpQ.y (OpY.pure rfl)) ?_
        refine Lex.q (v := .int .i64 (((ngK es k m : Nat) : Int))) rfl (OpQ.call (vs := [.agg #[.int .i64 (((n : Nat) : Int)), ve, vi, vo], .int .i64 (((k : Nat) : Int))]) (caps := []) Tcall_29 rfl rfl (fun w hs => around_spec (v := k) hn10 hes (hs.sl he))) ?_
        refine Lex.q (v := .int .i64 (ix nx (k))) rfl (OpQ.y (OpY.pure rfl)) ?_
        refine Lex.q (v := .int .i64 ((((ngK es k m : Nat) : Int)) >>> ((ix nx (k))).toNat)) rfl (OpQ.y (OpY.shr rfl rfl (by first | rfl | omega) (by omega))) ?_
        refine Lex.q (v := .int .i64 (((((ngK es k m : Nat) : Int)) >>> ((ix nx (k))).toNat) % 2)) rfl (OpQ.y (OpY.and1 rfl rfl)) ?_
        refine Lex.q (v := .bool ((((((ngK es k m : Nat) : Int)) >>> ((ix nx (k))).toNat) % 2) == 0)) rfl (OpQ.y (OpY.pure rfl)) ?_
        refine Lex.q (v := .bool ((((((ngK es k m : Nat) : Int)) >>> ((ix nx (k))).toNat) % 2) == 0)) rfl (OpQ.y (OpY.pure rfl)) ?_
        rcases Bool.eq_false_or_eq_true ((((((ngK es k m : Nat) : Int)) >>> ((ix nx (k))).toNat) % 2) == 0) with h55 | h55
        ·refine Lex.q (v := .bool true) rfl (OpQ.y (OpY.moveB rfl h55)) ?_
         have p55 := h55; try simp only [bs] at p55
         have hz3 : (ngK es k m).testBit u = false := by rw [← bitN, ← hut]; exact bitI_false p55
         refine Lex.pass rfl ?_
         refine Lex.pass rfl ?_
         refine Lex.pass rfl ?_
         refine Lex.pass rfl ?_
         refine Lex.pass rfl ?_
         refine Lex.pass rfl ?_
         refine Lex.pass rfl ?_
         refine Lex.pass rfl ?_
         refine Lex.q (v := .bool true) rfl (OpQ.y (OpY.pure rfl)) ?_
         refine Lex.q (v := .bool true) rfl (OpQ.y (OpY.pure rfl)) ?_
         refine Lex.pass rfl ?_
         refine Lex.pass rfl ?_
         refine Lex.pass rfl ?_
         refine Lex.pass rfl ?_
         refine Lex.pass rfl ?_
         refine Lex.pass rfl ?_
         refine Lex.pass rfl ?_
         refine Lex.pass rfl ?_
         refine Lex.pass rfl ?_
         refine Lex.pass rfl ?_
         refine Lex.pass rfl ?_
         refine Lex.pass rfl ?_
         refine Lex.q (v := .bool true) rfl (OpQ.y (OpY.pure rfl)) ?_
         refine Lex.done ?_
         refine Run.cond (b := true) rfl (fun _ => ?_) (fun h => nomatch h)
         refine Run.seq ?_
         have hres : flB es m n is ni os no nx nn ly nl = false := flB_at hltk (by unfold flAt; rw [if_neg (by rw [hno]; decide)]; first | (rw [hz1]; rfl) | (rw [hz2]; simp; done) | (rw [hut, hz3]; simp; done) | (rw [hut, hz4]; simp; done) | (rw [hut, hz5]; simp; done) | (simp only [hut, hw1, hw2, hw3, Bool.not_false, Bool.true_and]; exact hz6))
         refine Run.region ?_
         refine Run.p (.bool false) rfl rfl ?_
         refine Run.done ?_
         refine Run.ret ?_
         refine ⟨.bool false, [], Out.one rfl rfl, (Some'.weak (.nil _)), ?_⟩
         show _ = _; rw [hres]
        ·refine Lex.q (v := .bool false) rfl (OpQ.y (OpY.moveB rfl h55)) ?_
         have p55 := h55; try simp only [bs] at p55
         have hw3 : (ngK es k m).testBit u = true := by rw [← bitN, ← hut]; exact bitI_ne p55
         refine Lex.q (v := .agg #[.int .i64 (((n : Nat) : Int)), ve, vi, vo]) rfl (OpQ.y (OpY.loadN (cs := [.int .i64 (((n : Nat) : Int)), ve, vi, vo]) Tagg_26 rfl (Cells.blk (.tail _ (List.Mem.head _)) ⟨rfl, rfl, rfl, rfl, trivial⟩))) ?_
         refine Lex.q (v := .pointer (some ⟨b2, 1, none⟩)) rfl (OpQ.y (OpY.fieldAddr Tfo_29_1 rfl rfl)) ?_
         refine Lex.q (v := .slice Ay nl cy_) rfl (OpQ.y (OpY.load1 Tone_24 rfl (Cells.blk (.head _) ⟨rfl, trivial⟩))) ?_
         refine Lex.q (v := .int .i64 (((k : Nat) : Int))) rfl (OpQ.y (OpY.pure rfl)) ?_
         refine Lex.q (v := .int .i64 (ix nx (k))) rfl (OpQ.y (OpY.pure rfl)) ?_
         refine Lex.q (v := .int .i64 (((q1 : Nat) : Int))) rfl (OpQ.y (OpY.shlOne rfl rfl hu (by omega) hq1)) ?_
         refine Lex.q (v := .bool (befB ly k (q1) n)) rfl (OpQ.call (vs := [.agg #[.int .i64 (((n : Nat) : Int)), ve, vi, vo], .slice Ay nl cy_, .int .i64 (((k : Nat) : Int)), .int .i64 (((q1 : Nat) : Int))]) (caps := []) Tcall_65 rfl rfl (fun w hs => (by have h := isBefore_spec (v := k) (set := q1) (ve := ve) (vi := vi) (vo := vo) hn10 hkn (by omega) (Sl.cnt hnl (hs.sl hy)); exact h))) ?_
         refine Lex.q (v := .bool (!(befB ly k (q1) n))) rfl (OpQ.y (OpY.pure rfl)) ?_
         refine Lex.q (v := .bool (!(befB ly k (q1) n))) rfl (OpQ.y (OpY.pure rfl)) ?_
         rcases Bool.eq_false_or_eq_true (!(befB ly k (q1) n)) with h65 | h65
         ·refine Lex.q (v := .bool true) rfl (OpQ.y (OpY.moveB rfl h65)) ?_
          have p65 := h65; try simp only [bs] at p65
          have hz4 : befB ly k (2 ^ u) n = false := by rw [← hq1]; simpa using p65
          refine Lex.pass rfl ?_
          refine Lex.pass rfl ?_
          refine Lex.pass rfl ?_
          refine Lex.pass rfl ?_
          refine Lex.pass rfl ?_
          refine Lex.pass rfl ?_
          refine Lex.pass rfl ?_
          refine Lex.pass rfl ?_
          refine Lex.pass rfl ?_
          refine Lex.pass rfl ?_
          refine Lex.pass rfl ?_
          refine Lex.pass rfl ?_
          refine Lex.q (v := .bool true) rfl (OpQ.y (OpY.pure rfl)) ?_
          refine Lex.done ?_
          refine Run.cond (b := true) rfl (fun _ => ?_) (fun h => nomatch h)
          refine Run.seq ?_
          have hres : flB es m n is ni os no nx nn ly nl = false := flB_at hltk (by unfold flAt; rw [if_neg (by rw [hno]; decide)]; first | (rw [hz1]; rfl) | (rw [hz2]; simp; done) | (rw [hut, hz3]; simp; done) | (rw [hut, hz4]; simp; done) | (rw [hut, hz5]; simp; done) | (simp only [hut, hw1, hw2, hw3, Bool.not_false, Bool.true_and]; exact hz6))
          refine Run.region ?_
          refine Run.p (.bool false) rfl rfl ?_
          refine Run.done ?_
          refine Run.ret ?_
          refine ⟨.bool false, [], Out.one rfl rfl, (Some'.weak (.nil _)), ?_⟩
          show _ = _; rw [hres]
         ·refine Lex.q (v := .bool false) rfl (OpQ.y (OpY.moveB rfl h65)) ?_
          have p65 := h65; try simp only [bs] at p65
          have hw4 : befB ly k (2 ^ u) n = true := by rw [← hq1]; simpa using p65
          refine Lex.q (v := .agg #[.int .i64 (((n : Nat) : Int)), ve, vi, vo]) rfl (OpQ.y (OpY.loadN (cs := [.int .i64 (((n : Nat) : Int)), ve, vi, vo]) Tagg_26 rfl (Cells.blk (.tail _ (List.Mem.head _)) ⟨rfl, rfl, rfl, rfl, trivial⟩))) ?_
          refine Lex.q (v := .pointer (some ⟨b2, 1, none⟩)) rfl (OpQ.y (OpY.fieldAddr Tfo_29_1 rfl rfl)) ?_
          refine Lex.q (v := .slice Ay nl cy_) rfl (OpQ.y (OpY.load1 Tone_24 rfl (Cells.blk (.head _) ⟨rfl, trivial⟩))) ?_
          refine Lex.q (v := .int .i64 (((k : Nat) : Int))) rfl (OpQ.y (OpY.pure rfl)) ?_
          refine Lex.q (v := .agg #[.int .i64 (((n : Nat) : Int)), ve, vi, vo]) rfl (OpQ.y (OpY.loadN (cs := [.int .i64 (((n : Nat) : Int)), ve, vi, vo]) Tagg_26 rfl (Cells.blk (.tail _ (List.Mem.head _)) ⟨rfl, rfl, rfl, rfl, trivial⟩))) ?_
          refine Lex.q (v := .int .i64 (ix nx (k))) rfl (OpQ.y (OpY.pure rfl)) ?_
          refine Lex.q (v := .int .i64 (((ngK es u m : Nat) : Int))) rfl (OpQ.call (vs := [.agg #[.int .i64 (((n : Nat) : Int)), ve, vi, vo], .int .i64 (ix nx (k))]) (caps := []) Tcall_29 rfl rfl (fun w hs => (by have h := around_spec (v := u) (ve := ve) (vi := vi) (vo := vo) hn10 hes (hs.sl he); rw [← hu] at h; exact h))) ?_
          refine Lex.q (v := .int .i64 (((k : Nat) : Int))) rfl (OpQ.y (OpY.pure rfl)) ?_
          refine Lex.q (v := .int .i64 (((q2 : Nat) : Int))) rfl (OpQ.y (OpY.shlOne rfl rfl rfl (by omega) hq2)) ?_
          refine Lex.q (v := .int .i64 (((clr (ngK es u m) k : Nat) : Int))) rfl (OpQ.y (OpY.andNotNat rfl rfl (by omega) (by omega) hcl)) ?_
          refine Lex.q (v := .bool (befB ly k (clr (ngK es u m) k) n)) rfl (OpQ.call (vs := [.agg #[.int .i64 (((n : Nat) : Int)), ve, vi, vo], .slice Ay nl cy_, .int .i64 (((k : Nat) : Int)), .int .i64 (((clr (ngK es u m) k : Nat) : Int))]) (caps := []) Tcall_65 rfl rfl (fun w hs => (by have h := isBefore_spec (v := k) (set := clr (ngK es u m) k) (ve := ve) (vi := vi) (vo := vo) hn10 hkn (by omega) (Sl.cnt hnl (hs.sl hy)); exact h))) ?_
          refine Lex.q (v := .bool (!(befB ly k (clr (ngK es u m) k) n))) rfl (OpQ.y (OpY.pure rfl)) ?_
          refine Lex.q (v := .bool (!(befB ly k (clr (ngK es u m) k) n))) rfl (OpQ.y (OpY.pure rfl)) ?_
          refine Lex.done ?_
          refine Run.cond (b := !(befB ly k (clr (ngK es u m) k) n)) rfl (fun h78 => ?_) (fun h78 => ?_)
          ·have p78 := h78; try simp only [bs] at p78
           have hz5 : befB ly k (clr (ngK es u m) k) n = false := by simpa using p78
           refine Run.seq ?_
           have hres : flB es m n is ni os no nx nn ly nl = false := flB_at hltk (by unfold flAt; rw [if_neg (by rw [hno]; decide)]; first | (rw [hz1]; rfl) | (rw [hz2]; simp; done) | (rw [hut, hz3]; simp; done) | (rw [hut, hz4]; simp; done) | (rw [hut, hz5]; simp; done) | (simp only [hut, hw1, hw2, hw3, Bool.not_false, Bool.true_and]; exact hz6))
           refine Run.region ?_
           refine Run.p (.bool false) rfl rfl ?_
           refine Run.done ?_
           refine Run.ret ?_
           refine ⟨.bool false, [], Out.one rfl rfl, (Some'.weak (.nil _)), ?_⟩
           show _ = _; rw [hres]
          ·have p78 := h78; try simp only [bs] at p78
           have hw5 : befB ly k (clr (ngK es u m) k) n = true := by simpa using p78
           have hgood : flAt es m n is ni os no nx ly k = true := by unfold flAt; rw [if_neg (by rw [hno]; decide)]; simp only [hut, hw1, hw2, hw3, hw4, hw5, Bool.not_false, Bool.and_self]
           refine Run.skip ?_
           refine Run.blockEnd ?_
           refine Run.region ?_
           refine Run.y (.int .i64 ((((k : Nat) : Int)) + 1)) rfl (OpY.add rfl rfl rfl (by omega) (by omega)) ?_
           refine Run.p (.int .i64 ((((k : Nat) : Int)) + 1)) rfl rfl ?_
           refine Run.done ?_
           refine Run.goal ⟨(by repeat (first | exact Same.refl _ _ | refine Same.put rfl ?_ | refine Same.over rfl rfl ?_)), k + 1, ?_, ?_, ?_, ?_⟩
           ·refine ⟨by omega, ?_⟩
            intro i hi
            rcases Nat.lt_succ_iff_lt_or_eq.1 hi with h | h
            ·exact hinv.2 i h
            ·rw [h]; exact hgood
           ·omega
           ·exact ⟨(by first | rfl | (congr 1; omega) | simp), trivial⟩
           ·exact (Some'.weak (.takeEq (by first | rfl | simp) (.take (.nil _))))
    ·have p24 := h24; try simp only [bs] at p24
     have hknk : k = nn := by omega
     have hres : flB es m n is ni os no nx nn ly nl = true := by
      unfold flB; rw [decide_eq_true hnn, hlay, Bool.true_and, Bool.true_and]; exact allI_iff.2 (by rw [← hknk]; exact hinv.2)
     refine Run.exit rfl ?_
     refine Run.sr ?_
     refine Run.p (.bool true) rfl rfl ?_
     refine Run.done ?_
     refine Run.ret ?_
     refine ⟨.bool true, [], Out.one rfl rfl, (Some'.weak (.nil _)), ?_⟩
     show _ = _; rw [hres]

set_option maxHeartbeats 2000000 in
set_option maxRecDepth 20000 in
theorem l19Flow_spec {ve vi vo vx vy : Value} {n m ni no nn nl : Nat} {es is os nx ly : List Int} {w : World} (hn1 : 1 ≤ n) (hn10 : n ≤ 10) (hes : edgesOk (n : Int) es m = true) (hri : risB is n ni = true) (he : Sl w ve 2 m (ints es)) (hi : Sl w vi 1 ni (ints is)) (ho : Sl w vo 1 no (ints os)) (hx : Sl w vx 1 nn (ints nx)) (hy : Sl w vy 1 nl (ints ly)) : Calls Try.prog 36 #[.agg #[.int .i64 (n : Int), ve, vi, vo], .agg #[vx, vy]] w (Post No w fun v _ => v = .bool (flB es m n is ni os no nx nn ly nl)) := by
 have hp10 := pow10 hn10
 obtain ⟨Ax, cx_, rfl, _, _⟩ := hx.form0
 have hxl := hx.len
 obtain ⟨Ay, cy_, rfl, _, _⟩ := hy.form0
 refine enter (n := 76) (args := [.agg #[.int .i64 (((n : Nat) : Int)), ve, vi, vo], .agg #[.slice Ax nn cx_, .slice Ay nl cy_]]) Try.func36 rfl rfl (St.empty _ _) ?_
 refine Run.sr ?_
 refine Run.step rfl (OpStep.box (us := [.int .i64 (((n : Nat) : Int)), ve, vi, vo]) rfl fun b1 => ?_)
 refine Run.step rfl (OpStep.box (us := [.slice Ax nn cx_, .slice Ay nl cy_]) rfl fun b2 => ?_)
 refine Run.p (.bool false) rfl rfl ?_
 refine Run.done ?_
 refine Run.seq ?_
 refine Run.sr ?_
 refine Run.y (.pointer (some ⟨b2, 0, none⟩)) rfl (OpY.fieldAddr Tfo_29_0 rfl rfl) ?_
 refine Run.y (.slice Ax nn cx_) rfl (OpY.load1 Tone_24 rfl (Cells.blk (.head _) ⟨rfl, trivial⟩)) ?_
 refine Run.y (.int .i64 (((nn : Nat) : Int))) rfl (OpY.len Tsl_24 rfl) ?_
 refine Run.y (.pointer (some ⟨b1, 0, none⟩)) rfl (OpY.fieldAddr Tfo_26_0 rfl rfl) ?_
 refine Run.y (.int .i64 (((n : Nat) : Int))) rfl (OpY.load1 Tone_3 rfl (Cells.blk (.tail _ (List.Mem.head _)) ⟨rfl, trivial⟩)) ?_
 refine Run.p (.bool ((((nn : Nat) : Int)) != (((n : Nat) : Int)))) rfl rfl ?_
 rcases Bool.eq_false_or_eq_true ((((nn : Nat) : Int)) != (((n : Nat) : Int))) with h13 | h13
 ·refine Run.q (v := .bool true) rfl (OpQ.y (OpY.moveB rfl h13)) ?_
  have p13 := h13; try simp only [bs] at p13
  refine Run.pass rfl ?_
  refine Run.pass rfl ?_
  refine Run.pass rfl ?_
  refine Run.pass rfl ?_
  refine Run.pass rfl ?_
  refine Run.pass rfl ?_
  refine Run.p (.bool true) rfl rfl ?_
  refine Run.p (.bool true) rfl rfl ?_
  refine Run.pass rfl ?_
  refine Run.pass rfl ?_
  refine Run.pass rfl ?_
  refine Run.pass rfl ?_
  refine Run.p (.bool true) rfl rfl ?_
  refine Run.done ?_
  refine Run.cond (b := true) rfl (fun _ => ?_) (fun h => nomatch h)
  refine Run.seq ?_
  have hres : flB es m n is ni os no nx nn ly nl = false := by
   unfold flB layB
   first | (rw [decide_eq_false (show ¬ nn = n by omega)]; rfl) | (rw [decide_eq_false (show ¬ nl = n by omega)]; simp; done) | (rw [show allI (fun i => within (ix ly i) 0 100) nl = false by simpa using p26]; simp)
  refine Run.region ?_
  refine Run.p (.bool false) rfl rfl ?_
  refine Run.done ?_
  refine Run.ret ?_
  refine ⟨.bool false, [], Out.one rfl rfl, (Some'.weak (.nil _)), ?_⟩
  show _ = _; rw [hres]
 ·refine Run.q (v := .bool false) rfl (OpQ.y (OpY.moveB rfl h13)) ?_
  have p13 := h13; try simp only [bs] at p13
  refine Run.y (.pointer (some ⟨b2, 1, none⟩)) rfl (OpY.fieldAddr Tfo_29_1 rfl rfl) ?_
  refine Run.y (.slice Ay nl cy_) rfl (OpY.load1 Tone_24 rfl (Cells.blk (.head _) ⟨rfl, trivial⟩)) ?_
  refine Run.y (.int .i64 (((nl : Nat) : Int))) rfl (OpY.len Tsl_24 rfl) ?_
  refine Run.y (.pointer (some ⟨b1, 0, none⟩)) rfl (OpY.fieldAddr Tfo_26_0 rfl rfl) ?_
  refine Run.y (.int .i64 (((n : Nat) : Int))) rfl (OpY.load1 Tone_3 rfl (Cells.blk (.tail _ (List.Mem.head _)) ⟨rfl, trivial⟩)) ?_
  refine Run.p (.bool ((((nl : Nat) : Int)) != (((n : Nat) : Int)))) rfl rfl ?_
  refine Run.p (.bool ((((nl : Nat) : Int)) != (((n : Nat) : Int)))) rfl rfl ?_
  rcases Bool.eq_false_or_eq_true ((((nl : Nat) : Int)) != (((n : Nat) : Int))) with h21 | h21
  ·refine Run.q (v := .bool true) rfl (OpQ.y (OpY.moveB rfl h21)) ?_
   have p21 := h21; try simp only [bs] at p21
   refine Run.pass rfl ?_
   refine Run.pass rfl ?_
   refine Run.pass rfl ?_
   refine Run.pass rfl ?_
   refine Run.p (.bool true) rfl rfl ?_
   refine Run.done ?_
   refine Run.cond (b := true) rfl (fun _ => ?_) (fun h => nomatch h)
   refine Run.seq ?_
   have hres : flB es m n is ni os no nx nn ly nl = false := by
    unfold flB layB
    first | (rw [decide_eq_false (show ¬ nn = n by omega)]; rfl) | (rw [decide_eq_false (show ¬ nl = n by omega)]; simp; done) | (rw [show allI (fun i => within (ix ly i) 0 100) nl = false by simpa using p26]; simp)
   refine Run.region ?_
   refine Run.p (.bool false) rfl rfl ?_
   refine Run.done ?_
   refine Run.ret ?_
   refine ⟨.bool false, [], Out.one rfl rfl, (Some'.weak (.nil _)), ?_⟩
   show _ = _; rw [hres]
  ·refine Run.q (v := .bool false) rfl (OpQ.y (OpY.moveB rfl h21)) ?_
   have p21 := h21; try simp only [bs] at p21
   refine Run.y (.pointer (some ⟨b2, 1, none⟩)) rfl (OpY.fieldAddr Tfo_29_1 rfl rfl) ?_
   refine Run.y (.slice Ay nl cy_) rfl (OpY.load1 Tone_24 rfl (Cells.blk (.head _) ⟨rfl, trivial⟩)) ?_
   refine Run.q (v := .bool (allI (fun i => within (ix ly i) 0 100) nl)) rfl (OpQ.call (vs := [.slice Ay nl cy_, .int .i64 0, .int .i64 100]) (caps := []) Tcall_66 rfl rfl (fun w hs => (by have h := l1All_spec (lo := 0) (hi := 100) (hs.sl hy); rw [not_any] at h; exact h))) ?_
   refine Run.p (.bool (!(allI (fun i => within (ix ly i) 0 100) nl))) rfl rfl ?_
   refine Run.p (.bool (!(allI (fun i => within (ix ly i) 0 100) nl))) rfl rfl ?_
   refine Run.done ?_
   refine Run.cond (b := !(allI (fun i => within (ix ly i) 0 100) nl)) rfl (fun h26 => ?_) (fun h26 => ?_)
   ·have p26 := h26; try simp only [bs] at p26
    refine Run.seq ?_
    have hres : flB es m n is ni os no nx nn ly nl = false := by
     unfold flB layB
     first | (rw [decide_eq_false (show ¬ nn = n by omega)]; rfl) | (rw [decide_eq_false (show ¬ nl = n by omega)]; simp; done) | (rw [show allI (fun i => within (ix ly i) 0 100) nl = false by simpa using p26]; simp)
    refine Run.region ?_
    refine Run.p (.bool false) rfl rfl ?_
    refine Run.done ?_
    refine Run.ret ?_
    refine ⟨.bool false, [], Out.one rfl rfl, (Some'.weak (.nil _)), ?_⟩
    show _ = _; rw [hres]
   ·have p26 := h26; try simp only [bs] at p26
    have hnn : nn = n := by omega
    have hnl : nl = n := by omega
    have hlay : layB ly nl n = true := by unfold layB; rw [decide_eq_true hnl, Bool.true_and]; simpa using p26
    refine Run.skip ?_
    refine Run.seq ?_
    refine Run.sr ?_
    refine Run.y (.pointer (some ⟨b2, 0, none⟩)) rfl (OpY.fieldAddr Tfo_29_0 rfl rfl) ?_
    refine Run.y (.slice Ax nn cx_) rfl (OpY.load1 Tone_24 rfl (Cells.blk (.head _) ⟨rfl, trivial⟩)) ?_
    refine Run.y (.int .i64 (((nn : Nat) : Int))) rfl (OpY.len Tsl_24 rfl) ?_
    refine Run.p (.int .i64 0) rfl rfl ?_
    refine Run.done ?_
    refine Run.block ?_
    refine Run.loop (ι := Nat) [4, 5, 6, 30, 31, 32, 33, 34, 35, 36, 37, 38, 39, 40, 41, 42, 43, 44, 45, 46, 47, 48, 49, 50, 51, 52, 53, 54, 55, 56, 57, 58, 59, 60, 61, 62, 63, 64, 65, 66, 67, 68, 69, 70, 71, 72, 73, 74, 75] (fun k => [(30, .int .i64 (((k : Nat) : Int)))]) (fun k => [.blk b2 29 [.slice Ax nn cx_, .slice Ay nl cy_], .blk b1 26 [.int .i64 (((n : Nat) : Int)), ve, vi, vo]]) (fun k => k ≤ nn ∧ (∀ i, i < k → flAt es m n is ni os no nx ly i = true)) (fun k => nn - k) 0 ?_ ?_ ?_ ?_
    ·exact ⟨Nat.zero_le _, by first | trivial | (intro i hi; omega)⟩
    ·exact ⟨rfl, trivial⟩
    ·exact (Some'.weak (.take (.take (.nil _))))
    ·rintro k fr hinv
     show Run _ _ (over _ _ [(30, .int .i64 (((k : Nat) : Int)))] fr) [.blk b2 29 [.slice Ax nn cx_, .slice Ay nl cy_], .blk b1 26 [.int .i64 (((n : Nat) : Int)), ve, vi, vo]]
     try dsimp only at hinv
     refine Run.sr ?_
     refine Run.p (.bool (decide ((((k : Nat) : Int)) < (((nn : Nat) : Int))))) rfl rfl ?_
     refine Run.done ?_
     refine Run.seq ?_
     refine Run.cond (b := decide ((((k : Nat) : Int)) < (((nn : Nat) : Int)))) rfl (fun h31 => ?_) (fun h31 => ?_)
     ·have p31 := h31; try simp only [bs] at p31
      have hltk : k < nn := by omega
      obtain ⟨bq, oq, rfl⟩ := hx.opn (by omega)
      have hkn : k < n := by omega
      have hngk := ng_lt hes k m (Nat.le_refl m)
      obtain ⟨q2, hq2, hq21, hq22⟩ := pow_q (k := k) hn10 hkn
      refine Run.skip ?_
      refine Run.seq ?_
      refine Run.block ?_
      refine Run.sr ?_
      refine Run.p (.int .i64 (((k : Nat) : Int))) rfl rfl ?_
      refine Run.y (.pointer (some ⟨bq, oq + k, none⟩)) rfl (OpY.index (kk := k) Tsl_24 rfl rfl (by omega) (by omega) (by first | rfl | omega)) ?_
      refine Run.y (.int .i64 (ix nx (k))) rfl (OpY.load1 Tone_3 rfl (Cells.arg (k := k) hx rfl (by omega) (pre1 (by omega)))) ?_
      refine Run.p (.int .i64 (((k : Nat) : Int))) rfl rfl ?_
      refine Run.p (.int .i64 (ix nx (k))) rfl rfl ?_
      refine Run.done ?_
      refine Run.seq ?_
      refine Run.sr ?_
      refine Run.y (.pointer (some ⟨b1, 3, none⟩)) rfl (OpY.fieldAddr Tfo_26_3 rfl rfl) ?_
      refine Run.y (vo) rfl (OpY.load1 Tone_24 rfl (Cells.blk (.tail _ (List.Mem.head _)) ⟨rfl, trivial⟩)) ?_
      refine Run.p (.int .i64 (((k : Nat) : Int))) rfl rfl ?_
      refine Run.q (v := .bool (hasI os (k : Int) no)) rfl (OpQ.call (vs := [vo, .int .i64 (((k : Nat) : Int))]) (caps := []) Tcall_62 rfl rfl (fun w hs => l1Has_spec (hs.sl ho))) ?_
      refine Run.done ?_
      refine Run.cond (b := hasI os (k : Int) no) rfl (fun h38 => ?_) (fun h38 => ?_)
      ·have p38 := h38; try simp only [bs] at p38
       have hno : hasI os (k : Int) no = true := by simpa using p38
       refine Run.seq ?_
       refine Run.sr ?_
       refine Run.p (.int .i64 (ix nx (k))) rfl rfl ?_
       refine Run.p (.bool ((ix nx (k)) != (-1))) rfl rfl ?_
       refine Run.done ?_
       refine Run.cond (b := (ix nx (k)) != (-1)) rfl (fun h40 => ?_) (fun h40 => ?_)
       ·have p40 := h40; try simp only [bs] at p40
        have hres : flB es m n is ni os no nx nn ly nl = false := flB_at hltk (by unfold flAt; rw [if_pos hno]; exact decide_eq_false (by omega))
        refine Run.sr ?_
        refine Run.p (.bool false) rfl rfl ?_
        refine Run.done ?_
        refine Run.ret ?_
        refine ⟨.bool false, [], Out.one rfl rfl, (Some'.weak (.nil _)), ?_⟩
        show _ = _; rw [hres]
       ·have p40 := h40; try simp only [bs] at p40
        have hgood : flAt es m n is ni os no nx ly k = true := by unfold flAt; rw [if_pos hno]; exact decide_eq_true (by omega)
        refine Run.skip ?_
        refine Run.exit rfl ?_
        refine Run.region ?_
        refine Run.y (.int .i64 ((((k : Nat) : Int)) + 1)) rfl (OpY.add rfl rfl rfl (by omega) (by omega)) ?_
        refine Run.p (.int .i64 ((((k : Nat) : Int)) + 1)) rfl rfl ?_
        refine Run.done ?_
        refine Run.goal ⟨(by repeat (first | exact Same.refl _ _ | refine Same.put rfl ?_ | refine Same.over rfl rfl ?_)), k + 1, ?_, ?_, ?_, ?_⟩
        ·refine ⟨by omega, ?_⟩
         intro i hi
         rcases Nat.lt_succ_iff_lt_or_eq.1 hi with h | h
         ·exact hinv.2 i h
         ·rw [h]; exact hgood
        ·omega
        ·exact ⟨(by first | rfl | (congr 1; omega) | simp), trivial⟩
        ·exact (Some'.weak (.takeEq (by first | rfl | simp) (.take (.nil _))))
      ·have p38 := h38; try simp only [bs] at p38
       have hno : hasI os (k : Int) no = false := by simpa using p38
       refine Run.skip ?_
       refine Run.seq ?_
       refine Run.sr ?_
       refine Run.p (.int .i64 (ix nx (k))) rfl rfl ?_
       refine Run.y (.pointer (some ⟨b1, 0, none⟩)) rfl (OpY.fieldAddr Tfo_26_0 rfl rfl) ?_
       refine Run.y (.int .i64 (((n : Nat) : Int))) rfl (OpY.load1 Tone_3 rfl (Cells.blk (.tail _ (List.Mem.head _)) ⟨rfl, trivial⟩)) ?_
       refine Run.y (.int .i64 ((((n : Nat) : Int)) - 1)) rfl (OpY.sub rfl rfl rfl (by omega) (by omega)) ?_
       refine Run.q (v := .bool (within (ix nx k) 0 ((n : Int) - 1))) rfl (OpQ.call (vs := [.int .i64 (ix nx (k)), .int .i64 0, .int .i64 ((((n : Nat) : Int)) - 1)]) (caps := []) Tcall_55 rfl rfl (fun w hs => l1In_spec _ _ _ w)) ?_
       refine Run.p (.bool (!(within (ix nx k) 0 ((n : Int) - 1)))) rfl rfl ?_
       rcases Bool.eq_false_or_eq_true (!(within (ix nx k) 0 ((n : Int) - 1))) with h47 | h47
       ·refine Run.q (v := .bool true) rfl (OpQ.y (OpY.moveB rfl h47)) ?_
        have p47 := h47; try simp only [bs] at p47
        have hz1 : within (ix nx k) 0 ((n : Int) - 1) = false := by simpa using p47
        refine Run.pass rfl ?_
        refine Run.pass rfl ?_
        refine Run.pass rfl ?_
        refine Run.pass rfl ?_
        refine Run.p (.bool true) rfl rfl ?_
        refine Run.p (.bool true) rfl rfl ?_
        refine Run.pass rfl ?_
        refine Run.pass rfl ?_
        refine Run.pass rfl ?_
        refine Run.pass rfl ?_
        refine Run.pass rfl ?_
        refine Run.pass rfl ?_
        refine Run.pass rfl ?_
        refine Run.pass rfl ?_
        refine Run.p (.bool true) rfl rfl ?_
        refine Run.done ?_
        refine Run.cond (b := true) rfl (fun _ => ?_) (fun h => nomatch h)
        refine Run.seq ?_
        have hres : flB es m n is ni os no nx nn ly nl = false := flB_at hltk (by unfold flAt; rw [if_neg (by rw [hno]; decide)]; first | (rw [hz1]; rfl) | (rw [hz2]; simp; done) | (rw [hut, hz3]; simp; done) | (rw [hut, hz4]; simp; done) | (rw [hut, hz5]; simp; done) | (simp only [hut, hw1, hw2, hw3, Bool.not_false, Bool.true_and]; exact hz6))
        refine Run.region ?_
        refine Run.p (.bool false) rfl rfl ?_
        refine Run.done ?_
        refine Run.ret ?_
        refine ⟨.bool false, [], Out.one rfl rfl, (Some'.weak (.nil _)), ?_⟩
        show _ = _; rw [hres]
       ·refine Run.q (v := .bool false) rfl (OpQ.y (OpY.moveB rfl h47)) ?_
        have p47 := h47; try simp only [bs] at p47
        have hw1 : within (ix nx k) 0 ((n : Int) - 1) = true := by simpa using p47
        have hw1i := within_iff.1 hw1
        obtain ⟨u, hu⟩ : ∃ u : Nat, ix nx k = (u : Int) := ⟨(ix nx k).toNat, by omega⟩
        have hut : (ix nx k).toNat = u := by rw [hu, Int.toNat_natCast]
        obtain ⟨q1, hq1, hq11, hq12⟩ := pow_q (k := u) hn10 (by omega)
        have hngu := ng_lt hes u m (Nat.le_refl m)
        have hq1n : q1 < 2 ^ n := by rw [hq1]; exact Nat.pow_lt_pow_right (by omega) (by omega)
        refine Run.y (.pointer (some ⟨b1, 2, none⟩)) rfl (OpY.fieldAddr Tfo_26_2 rfl rfl) ?_
        refine Run.y (vi) rfl (OpY.load1 Tone_24 rfl (Cells.blk (.tail _ (List.Mem.head _)) ⟨rfl, trivial⟩)) ?_
        refine Run.p (.int .i64 (ix nx (k))) rfl rfl ?_
        refine Run.q (v := .bool (hasI is (ix nx k) ni)) rfl (OpQ.call (vs := [vi, .int .i64 (ix nx (k))]) (caps := []) Tcall_62 rfl rfl (fun w hs => l1Has_spec (hs.sl hi))) ?_
        refine Run.p (.bool (hasI is (ix nx k) ni)) rfl rfl ?_
        rcases Bool.eq_false_or_eq_true (hasI is (ix nx k) ni) with h53 | h53
        ·refine Run.q (v := .bool true) rfl (OpQ.y (OpY.moveB rfl h53)) ?_
         have p53 := h53; try simp only [bs] at p53
         have hz2 : hasI is (ix nx k) ni = true := by simpa using p53
         refine Run.pass rfl ?_
         refine Run.pass rfl ?_
         refine Run.pass rfl ?_
         refine Run.pass rfl ?_
         refine Run.pass rfl ?_
         refine Run.pass rfl ?_
         refine Run.pass rfl ?_
         refine Run.pass rfl ?_
         refine Run.p (.bool true) rfl rfl ?_
         refine Run.done ?_
         refine Run.cond (b := true) rfl (fun _ => ?_) (fun h => nomatch h)
         refine Run.seq ?_
         have hres : flB es m n is ni os no nx nn ly nl = false := flB_at hltk (by unfold flAt; rw [if_neg (by rw [hno]; decide)]; first | (rw [hz1]; rfl) | (rw [hz2]; simp; done) | (rw [hut, hz3]; simp; done) | (rw [hut, hz4]; simp; done) | (rw [hut, hz5]; simp; done) | (simp only [hut, hw1, hw2, hw3, Bool.not_false, Bool.true_and]; exact hz6))
         refine Run.region ?_
         refine Run.p (.bool false) rfl rfl ?_
         refine Run.done ?_
         refine Run.ret ?_
         refine ⟨.bool false, [], Out.one rfl rfl, (Some'.weak (.nil _)), ?_⟩
         show _ = _; rw [hres]
        ·refine Run.q (v := .bool false) rfl (OpQ.y (OpY.moveB rfl h53)) ?_
         have p53 := h53; try simp only [bs] at p53
         have hw2 : hasI is (ix nx k) ni = false := by simpa using p53
         refine Run.y (.agg #[.int .i64 (((n : Nat) : Int)), ve, vi, vo]) rfl (OpY.loadN (cs := [.int .i64 (((n : Nat) : Int)), ve, vi, vo]) Tagg_26 rfl (Cells.blk (.tail _ (List.Mem.head _)) ⟨rfl, rfl, rfl, rfl, trivial⟩)) ?_
         refine Run.p (.int .i64 (((k : Nat) : Int))) rfl rfl ?_
         refine Run.q (v := .int .i64 (((ngK es k m : Nat) : Int))) rfl (OpQ.call (vs := [.agg #[.int .i64 (((n : Nat) : Int)), ve, vi, vo], .int .i64 (((k : Nat) : Int))]) (caps := []) Tcall_61 rfl rfl (fun w hs => l19Near_spec (v := k) hn10 hes (hs.sl he))) ?_
         refine Run.p (.int .i64 (ix nx (k))) rfl rfl ?_
         refine Run.y (.int .u64 (((u : Nat) : Int))) rfl (OpY.convIntEq Tsome_3 Tint_52 rfl (by rw [hu, IntKind.wrap_u64]; omega)) ?_
         refine Run.y (.int .i64 ((((ngK es k m : Nat) : Int)) >>> u)) rfl (OpY.shr rfl rfl (by first | rfl | omega) (by omega)) ?_
         refine Run.y (.int .i64 (((((ngK es k m : Nat) : Int)) >>> u) % 2)) rfl (OpY.and1 rfl rfl) ?_
         refine Run.p (.bool ((((((ngK es k m : Nat) : Int)) >>> u) % 2) == 0)) rfl rfl ?_
         refine Run.p (.bool ((((((ngK es k m : Nat) : Int)) >>> u) % 2) == 0)) rfl rfl ?_
         refine Run.done ?_
         refine Run.cond (b := (((((ngK es k m : Nat) : Int)) >>> u) % 2) == 0) rfl (fun h62 => ?_) (fun h62 => ?_)
         ·have p62 := h62; try simp only [bs] at p62
          have hz3 : (ngK es k m).testBit u = false := by rw [← bitN]; exact bitI_false p62
          refine Run.seq ?_
          have hres : flB es m n is ni os no nx nn ly nl = false := flB_at hltk (by unfold flAt; rw [if_neg (by rw [hno]; decide)]; first | (rw [hz1]; rfl) | (rw [hz2]; simp; done) | (rw [hut, hz3]; simp; done) | (rw [hut, hz4]; simp; done) | (rw [hut, hz5]; simp; done) | (simp only [hut, hw1, hw2, hw3, Bool.not_false, Bool.true_and]; exact hz6))
          refine Run.region ?_
          refine Run.p (.bool false) rfl rfl ?_
          refine Run.done ?_
          refine Run.ret ?_
          refine ⟨.bool false, [], Out.one rfl rfl, (Some'.weak (.nil _)), ?_⟩
          show _ = _; rw [hres]
         ·have p62 := h62; try simp only [bs] at p62
          have hw3 : (ngK es k m).testBit u = true := by rw [← bitN]; exact bitI_ne p62
          have hor : q1 ||| ngK es u m < 2 ^ n := Nat.or_lt_two_pow hq1n hngu
          have hbo := bef_or (ly := ly) hes hw3
          rw [← hq1] at hbo
          refine Run.skip ?_
          refine Run.seq ?_
          refine Run.draws (by kernel_rfl) (by kernel_rfl) ?_
          refine Lex.q (v := .pointer (some ⟨b2, 1, none⟩)) rfl (OpQ.y (OpY.fieldAddr Tfo_29_1 rfl rfl)) ?_
          refine Lex.q (v := .slice Ay nl cy_) rfl (OpQ.y (OpY.load1 Tone_24 rfl (Cells.blk (.head _) ⟨rfl, trivial⟩))) ?_
          refine Lex.q (v := .int .i64 (((k : Nat) : Int))) rfl (OpQ.y (OpY.pure rfl)) ?_
          refine Lex.q (v := .int .i64 (ix nx (k))) rfl (OpQ.y (OpY.pure rfl)) ?_
          refine Lex.q (v := .int .u64 (((u : Nat) : Int))) rfl (OpQ.y (OpY.convIntEq Tsome_3 Tint_52 rfl (by rw [hu, IntKind.wrap_u64]; omega))) ?_
          refine Lex.q (v := .int .i64 (((q1 : Nat) : Int))) rfl (OpQ.y (OpY.shlOne rfl rfl rfl (by omega) hq1)) ?_
          refine Lex.q (v := .agg #[.int .i64 (((n : Nat) : Int)), ve, vi, vo]) rfl (OpQ.y (OpY.loadN (cs := [.int .i64 (((n : Nat) : Int)), ve, vi, vo]) Tagg_26 rfl (Cells.blk (.tail _ (List.Mem.head _)) ⟨rfl, rfl, rfl, rfl, trivial⟩))) ?_
          refine Lex.q (v := .int .i64 (ix nx (k))) rfl (OpQ.y (OpY.pure rfl)) ?_
          refine Lex.q (v := .int .i64 (((ngK es u m : Nat) : Int))) rfl (OpQ.call (vs := [.agg #[.int .i64 (((n : Nat) : Int)), ve, vi, vo], .int .i64 (ix nx (k))]) (caps := []) Tcall_61 rfl rfl (fun w hs => (by have h := l19Near_spec (v := u) (ve := ve) (vi := vi) (vo := vo) hn10 hes (hs.sl he); rw [← hu] at h; exact h))) ?_
          refine Lex.q (v := .int .i64 (((q1 ||| ngK es u m : Nat) : Int))) rfl (OpQ.y (OpY.orNat rfl rfl rfl rfl (by omega) (by omega))) ?_
          refine Lex.q (v := .bool (befB ly k (clr (q1 ||| ngK es u m) k) n)) rfl (OpQ.call (vs := [.slice Ay nl cy_, .int .i64 (((k : Nat) : Int)), .int .i64 (((q1 ||| ngK es u m : Nat) : Int))]) (caps := []) Tcall_67 rfl rfl (fun w hs => (by have h := l19Before_spec (v := k) (set := q1 ||| ngK es u m) hn10 hkn hor (Sl.cnt hnl (hs.sl hy)); exact h))) ?_
          refine Lex.q (v := .bool (!(befB ly k (clr (q1 ||| ngK es u m) k) n))) rfl (OpQ.y (OpY.pure rfl)) ?_
          refine Lex.done ?_
          refine Run.cond (b := !(befB ly k (clr (q1 ||| ngK es u m) k) n)) rfl (fun h74 => ?_) (fun h74 => ?_)
          ·have p74 := h74; try simp only [bs] at p74
           have hz6 : (befB ly k (2 ^ u) n && befB ly k (clr (ngK es u m) k) n) = false := by rw [hbo] at p74; rw [← hq1]; simpa using p74
           refine Run.seq ?_
           have hres : flB es m n is ni os no nx nn ly nl = false := flB_at hltk (by unfold flAt; rw [if_neg (by rw [hno]; decide)]; first | (rw [hz1]; rfl) | (rw [hz2]; simp; done) | (rw [hut, hz3]; simp; done) | (rw [hut, hz4]; simp; done) | (rw [hut, hz5]; simp; done) | (simp only [hut, hw1, hw2, hw3, Bool.not_false, Bool.true_and]; exact hz6))
           refine Run.region ?_
           refine Run.p (.bool false) rfl rfl ?_
           refine Run.done ?_
           refine Run.ret ?_
           refine ⟨.bool false, [], Out.one rfl rfl, (Some'.weak (.nil _)), ?_⟩
           show _ = _; rw [hres]
          ·have p74 := h74; try simp only [bs] at p74
           have hw6 : (befB ly k (2 ^ u) n && befB ly k (clr (ngK es u m) k) n) = true := by rw [hbo] at p74; rw [← hq1]; simpa using p74
           have hgood : flAt es m n is ni os no nx ly k = true := by unfold flAt; rw [if_neg (by rw [hno]; decide)]; simp only [hut, hw1, hw2, hw3, Bool.not_false, Bool.true_and]; exact hw6
           refine Run.skip ?_
           refine Run.blockEnd ?_
           refine Run.region ?_
           refine Run.y (.int .i64 ((((k : Nat) : Int)) + 1)) rfl (OpY.add rfl rfl rfl (by omega) (by omega)) ?_
           refine Run.p (.int .i64 ((((k : Nat) : Int)) + 1)) rfl rfl ?_
           refine Run.done ?_
           refine Run.goal ⟨(by repeat (first | exact Same.refl _ _ | refine Same.put rfl ?_ | refine Same.over rfl rfl ?_)), k + 1, ?_, ?_, ?_, ?_⟩
           ·refine ⟨by omega, ?_⟩
            intro i hi
            rcases Nat.lt_succ_iff_lt_or_eq.1 hi with h | h
            ·exact hinv.2 i h
            ·rw [h]; exact hgood
           ·omega
           ·exact ⟨(by first | rfl | (congr 1; omega) | simp), trivial⟩
           ·exact (Some'.weak (.takeEq (by first | rfl | simp) (.take (.nil _))))
     ·have p31 := h31; try simp only [bs] at p31
      have hknk : k = nn := by omega
      have hres : flB es m n is ni os no nx nn ly nl = true := by
       unfold flB; rw [decide_eq_true hnn, hlay, Bool.true_and, Bool.true_and]; exact allI_iff.2 (by rw [← hknk]; exact hinv.2)
      refine Run.exit rfl ?_
      refine Run.sr ?_
      refine Run.p (.bool true) rfl rfl ?_
      refine Run.done ?_
      refine Run.ret ?_
      refine ⟨.bool true, [], Out.one rfl rfl, (Some'.weak (.nil _)), ?_⟩
      show _ = _; rw [hres]

end Go.Proofs.Ytoiaibgcjfgbcaa
