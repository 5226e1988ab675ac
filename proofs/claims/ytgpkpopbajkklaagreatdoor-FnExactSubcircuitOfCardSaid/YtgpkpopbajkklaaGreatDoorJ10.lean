/- Walks: the reference reads a line of a circuit text. -/
import Derived.Test.YtgpkpopbajkklaaGreatDoorJ9
import Derived.Test.YtgpkpopbajkklaaGreatDoorProg
set_option linter.unusedSimpArgs false
set_option linter.unusedVariables false
namespace Go.Proofs.YtgpkpopbajkklaaGreatDoor
open Go Go.RowKit
namespace TxoT
theorem Tagg_77 : aggOf Tryz.prog 77 = some 7 := by kernel_rfl
theorem Tbool_4 : Tryz.prog.underlying 4 = some .bool := by kernel_rfl
theorem Tcall_101 : callable Tryz.prog 101 = true := by kernel_rfl
theorem Tcall_68 : callable Tryz.prog 68 = true := by kernel_rfl
theorem Tcall_79 : callable Tryz.prog 79 = true := by kernel_rfl
theorem Tcall_80 : callable Tryz.prog 80 = true := by kernel_rfl
theorem Tcall_81 : callable Tryz.prog 81 = true := by kernel_rfl
theorem Tcall_82 : callable Tryz.prog 82 = true := by kernel_rfl
theorem Tcall_83 : callable Tryz.prog 83 = true := by kernel_rfl
theorem Tfo_69_1 : fieldOff Tryz.prog 69 1 = some 1 := by kernel_rfl
theorem Tfo_69_2 : fieldOff Tryz.prog 69 2 = some 2 := by kernel_rfl
theorem Tfo_77_1 : fieldOff Tryz.prog 77 1 = some 1 := by kernel_rfl
theorem Tone_3 : oneOf Tryz.prog 3 = true := by kernel_rfl
theorem Tone_9 : oneOf Tryz.prog 9 = true := by kernel_rfl
theorem Tsize_3 : (Tryz.prog.info? 3).map (·.size) = some 1 := by kernel_rfl
theorem Tsize_77 : (Tryz.prog.info? 77).map (·.size) = some 7 := by kernel_rfl
theorem Tsl_40 : sliceOf Tryz.prog 40 = some (9, 1, 16, [sv ([])]) := by kernel_rfl
theorem Tsl_75 : sliceOf Tryz.prog 75 = some (3, 1, 8, [.int .i64 0]) := by kernel_rfl
theorem Tzero_77 : zeroOf Tryz.prog 77 = some [sv ([]), .int .i64 0, .int .i64 0, .int .i64 0, .int .i64 0, sv ([]), .slice none 0 0] := by kernel_rfl
end TxoT
open TxoT
/-- The gate of a line, and the qubits of a call. -/
def Li.g3 : Li → G3
  | .gate k q => gateG k q
  | _ => (0, 0, 0)
def Li.ar : Li → List Int
  | .call _ q => q
  | _ => []
/-- What the reference reads of a line. -/
def LnR (o : Option Li) (b : Bool) (c0 : Bs) (c1 c2 c3 c4 : Int) (c5 : Bs) (ar : List Int) : Prop := b = o.isSome ∧ ∀ x, o = some x → c0 = x.word ∧ ((c1, c2, c3) : G3) = x.g3 ∧ c4 = x.num ∧ c5 = x.nm ∧ ar = x.ar
theorem LnR.no {o : Option Li} {c0 c5 : Bs} {c1 c2 c3 c4 : Int} {ar : List Int} (h : o = none) : LnR o false c0 c1 c2 c3 c4 c5 ar := ⟨by rw [h]; rfl, fun x hx => by rw [h] at hx; cases hx⟩
theorem LnR.yes {o : Option Li} {x : Li} (h : o = some x) : LnR o true x.word x.g3.1 x.g3.2.1 x.g3.2.2 x.num x.nm x.ar := ⟨by rw [h]; rfl, fun y hy => by rw [h] at hy; injection hy with hy; subst hy; exact ⟨rfl, rfl, rfl, rfl, rfl⟩⟩
theorem gateW_word {W : List Bs} {x : Li} (h : gateW W = some x) : x.word = wG := by
  unfold gateW at h
  split at h
  · injection h with h; subst h; rfl
  · cases h
theorem lineW_q2 {W : List Bs} {x : Li} (h : lineW W = some x) : (x.word == wQ) = (stx W 0 == wQ) := by
  by_cases hq : stx W 0 = wQ
  · rw [lineW_q hq] at h
    split at h
    · injection h with h; subst h; rw [hq]; rfl
    · cases h
  · have h1 : (stx W 0 == wQ) = false := beq_eq_false_iff_ne.2 hq
    rw [h1, beq_eq_false_iff_ne]
    unfold lineW at h
    rw [if_neg hq] at h
    split at h
    · split at h
      · injection h with h; subst h; exact (show wR ≠ wQ by decide)
      · cases h
    · split at h
      · split at h
        · injection h with h; subst h; exact (show wD ≠ wQ by decide)
        · cases h
      · split at h
        · split at h
          · injection h with h; subst h; exact (show wC ≠ wQ by decide)
          · cases h
        · split at h
          · split at h
            · injection h with h; subst h; exact (show wE ≠ wQ by decide)
            · cases h
          · rw [gateW_word h]; decide
/-- A line by its words, at a place. -/
def lineF (W : List Bs) (i : Nat) : Option Li := if (i == 0) = (stx W 0 == wQ) then lineW W else none
theorem lnAt_F {l : Bs} {W : List Bs} (h : splitC 32 l = W) (i : Nat) : lnAt i l = lineF W i := by
  cases hx : lineB l with
  | none =>
    rw [lnAt_bad hx, lineF]
    have : lineW W = none := by rw [← h]; exact hx
    rw [this]; simp
  | some x =>
    have h1 : lineW W = some x := by rw [← h]; exact hx
    have h2 := lineW_q2 h1
    by_cases h3 : (i == 0) = (stx W 0 == wQ)
    · rw [lnAt_ok hx (h2.trans h3.symm), lineF, if_pos h3, h1]
    · rw [lnAt_no hx (fun e => h3 (e.symm.trans h2)), lineF, if_neg h3]
theorem lrG (W : List Bs) (b : Bool) (c0 : Bs) (c1 c2 c3 : Int) (h : LnR (gateW W) b c0 c1 c2 c3 0 [] []) (h1 : ¬ stx W 0 = wQ) (h2 : ¬ stx W 0 = wR) (h3 : ¬ stx W 0 = wD) (h4 : ¬ stx W 0 = wC) (h5 : ¬ stx W 0 = wE) : LnR (lineW W) b c0 c1 c2 c3 0 [] [] := by rw [lineW_g h1 h2 h3 h4 h5]; exact h
section
variable {W : List Bs} {c0 c5 : Bs} {c1 c2 c3 c4 : Int} {ar : List Int}
theorem lrQ (h : stx W 0 = wQ) (hl : ((W.length : Nat) : Int) = 2) (hn : within (num2 (stx W 1)) 1 5 = true) : LnR (lineW W) true wQ 0 0 0 (num2 (stx W 1)) [] [] := LnR.yes (x := .qb (num2 (stx W 1))) (by rw [lineW_q h, if_pos ⟨by omega, hn⟩])
theorem lrQ0 (h : stx W 0 = wQ) (hn : ¬ ((W.length : Nat) : Int) = 2 ∨ within (num2 (stx W 1)) 1 5 = false) : LnR (lineW W) false c0 c1 c2 c3 c4 c5 ar := LnR.no (by rw [lineW_q h, if_neg]; rintro ⟨ha, hb⟩; rcases hn with hn | hn <;> first | omega | (rw [hb] at hn; cases hn))
theorem lrR (h : stx W 0 = wR) (hl : ((W.length : Nat) : Int) = 3) (ho : stx W 2 = wO) (hn : within (num2 (stx W 1)) 2 99 = true) : LnR (lineW W) true wR 0 0 0 (num2 (stx W 1)) [] [] := LnR.yes (x := .rep (num2 (stx W 1))) (by rw [lineW_r h, if_pos ⟨by omega, ho, hn⟩])
theorem lrR0 (h : stx W 0 = wR) (hn : ¬ ((W.length : Nat) : Int) = 3 ∨ ¬ stx W 2 = wO ∨ within (num2 (stx W 1)) 2 99 = false) : LnR (lineW W) false c0 c1 c2 c3 c4 c5 ar := LnR.no (by
  rw [lineW_r h, if_neg]; rintro ⟨ha, hb, hc⟩; rcases hn with hn | hn | hn
  · omega
  · exact hn hb
  · rw [hc] at hn; cases hn)
theorem lrD (h : stx W 0 = wD) (hl : ((W.length : Nat) : Int) = 4) (ho : stx W 3 = wO) (hm : nameB (stx W 1) = true) (hn : within (num2 (stx W 2)) 1 5 = true) : LnR (lineW W) true wD 0 0 0 (num2 (stx W 2)) (stx W 1) [] := LnR.yes (x := .df (stx W 1) (num2 (stx W 2))) (by rw [lineW_d h, if_pos ⟨by omega, ho, hm, hn⟩])
theorem lrD0 (h : stx W 0 = wD) (hn : ¬ ((W.length : Nat) : Int) = 4 ∨ ¬ stx W 3 = wO ∨ nameB (stx W 1) = false ∨ within (num2 (stx W 2)) 1 5 = false) : LnR (lineW W) false c0 c1 c2 c3 c4 c5 ar := LnR.no (by
  rw [lineW_d h, if_neg]; rintro ⟨ha, hb, hc, hd⟩; rcases hn with hn | hn | hn | hn
  · omega
  · exact hn hb
  · rw [hc] at hn; cases hn
  · rw [hd] at hn; cases hn)
theorem lrC (h : stx W 0 = wC) (hl : 3 ≤ ((W.length : Nat) : Int)) (hm : nameB (stx W 1) = true) : LnR (lineW W) (allNum (W.drop 2)) wC 0 0 0 0 (stx W 1) (nums (W.drop 2)) := by
  cases ha : allNum (W.drop 2) with
  | true => exact LnR.yes (x := .call (stx W 1) (nums (W.drop 2))) (by rw [lineW_c h, if_pos ⟨by omega, hm, ha⟩])
  | false => exact LnR.no (by rw [lineW_c h, if_neg]; rintro ⟨_, _, h3⟩; rw [ha] at h3; cases h3)
theorem lrC0 (h : stx W 0 = wC) (hn : ¬ 3 ≤ ((W.length : Nat) : Int) ∨ nameB (stx W 1) = false) : LnR (lineW W) false c0 c1 c2 c3 c4 c5 ar := LnR.no (by
  rw [lineW_c h, if_neg]; rintro ⟨ha, hb, hc⟩; rcases hn with hn | hn
  · omega
  · rw [hb] at hn; cases hn)
theorem lrE (h : stx W 0 = wE) : LnR (lineW W) (((W.length : Nat) : Int) == 1) wE 0 0 0 0 [] [] := by
  by_cases h1 : W.length = 1
  · have e : (((W.length : Nat) : Int) == 1) = true := by rw [h1]; rfl
    rw [e]; exact LnR.yes (x := .cl) (by rw [lineW_e h, if_pos h1])
  · have e : (((W.length : Nat) : Int) == 1) = false := by rw [beq_eq_false_iff_ne]; omega
    rw [e]; exact LnR.no (by rw [lineW_e h, if_neg h1])
end
theorem lgNo {W : List Bs} {k : Int} {q : List Int} {an : Bool} (hk : kindB (stx W 0) = k) (hq : nums (W.drop 1) = q) (han : allNum (W.drop 1) = an) (h : ¬ (an = true ∧ 0 < k ∧ ((q.length : Nat) : Int) = cntK k)) : gateW W = none := by
  subst hk; subst hq; subst han
  rw [gateW, if_neg]
  simpa using h
theorem lgYes {W : List Bs} {k : Int} {q : List Int} {an : Bool} (hk : kindB (stx W 0) = k) (hq : nums (W.drop 1) = q) (han : allNum (W.drop 1) = an) (h : an = true ∧ 0 < k ∧ ((q.length : Nat) : Int) = cntK k) : gateW W = some (.gate k q) := by
  subst hk; subst hq; subst han
  rw [gateW, if_pos]
  simpa using h
theorem LnR.gate {W : List Bs} {k c1 c2 c3 : Int} {q : List Int} (h : gateW W = some (.gate k q)) (h1 : c1 = k) (h2 : c2 = if 0 < q.length then ix q 0 else 0) (h3 : c3 = if 1 < q.length then ix q 1 else 0) : LnR (gateW W) true wG c1 c2 c3 0 [] [] := by
  subst h1; subst h2; subst h3; exact LnR.yes (x := .gate c1 q) h
theorem lrF {W : List Bs} {i : Nat} {b : Bool} {c0 c5 : Bs} {c1 c2 c3 c4 : Int} {ar : List Int} (h : (i == 0) = (stx W 0 == wQ)) (hh : LnR (lineW W) b c0 c1 c2 c3 c4 c5 ar) : LnR (lineF W i) b c0 c1 c2 c3 c4 c5 ar := by rw [lineF, if_pos h]; exact hh

set_option maxHeartbeats 4000000 in
set_option maxRecDepth 20000 in
theorem l5Gate_spec {va : Value} {n : Nat} {W : List Bs} {w : World} (ha : Sl w va 1 n (strs W)) (h1 : 1 ≤ n) (hW : ∀ s ∈ W, s.length ≤ 281474976710656) (hn16 : n ≤ 16777216) : Calls Tryz.prog 83 #[va] w (Post No w fun v H => ∃ c0 c1 c2 c3 b, v = .tuple #[.agg #[sv c0, .int .i64 c1, .int .i64 c2, .int .i64 c3, .int .i64 0, sv [], .slice none 0 0], .bool b] ∧ H = [] ∧ LnR (gateW W) b c0 c1 c2 c3 0 [] []) := by
 have hWn := ha.lenS
 have hn := ha.le
 have hkr := kindB_range (stx W 0)
 obtain ⟨A, c, rfl, hnc, _⟩ := ha.form0
 obtain ⟨q, hq⟩ : ∃ q, nums (W.drop 1) = q := ⟨_, rfl⟩
 obtain ⟨k, hk⟩ : ∃ k, kindB (stx W 0) = k := ⟨_, rfl⟩
 obtain ⟨an, han⟩ : ∃ an, allNum (W.drop 1) = an := ⟨_, rfl⟩
 rw [hk] at hkr
 refine enter (n := 54) (args := [.slice A n c]) Tryz.func83 rfl rfl (St.empty _ _) ?_
 refine Run.sr ?_
 refine Run.step rfl (OpStep.alloc (zs := [sv ([]), .int .i64 0, .int .i64 0, .int .i64 0, .int .i64 0, sv ([]), .slice none 0 0]) Tzero_77 fun b1 => ?_)
 refine Run.p (.bool false) rfl rfl ?_
 refine Run.done ?_
 refine Run.seq ?_
 obtain ⟨b, o, rfl⟩ := ha.opn (by omega)
 refine Run.region ?_
 refine Run.p (.slice (some ⟨b, o, none⟩) n c) rfl rfl ?_
 refine Run.y (.pointer (some ⟨b, o, none⟩)) rfl (OpY.index (kk := 0) Tsl_40 rfl rfl (by omega) (by omega) (by first | rfl | omega)) ?_
 refine Run.y (sv (stx W 0)) rfl (OpY.load1 Tone_9 rfl (Cells.arg (k := 0) ha rfl (by omega) (preS (by omega)))) ?_
 refine Run.q (v := .int .i64 k) rfl (OpQ.call (vs := [sv (stx W 0)]) (caps := []) Tcall_101 rfl rfl (fun w hs => (by have h := l5Kind_spec (l := stx W 0) w; rw [hk] at h; exact h))) ?_
 refine Run.p (.int .i64 k) rfl rfl ?_
 refine Run.dsr ?_
 refine Run.p (.slice (some ⟨b, o, none⟩) n c) rfl rfl ?_
 refine Run.y ((sliced (some ⟨b, o, none⟩) 1 n c 1)) rfl (OpY.sliceL (l := 1) Tsl_40 rfl rfl (by decide) (by omega)) ?_
 refine Run.step rfl (OpStep.call (vs := [(sliced (some ⟨b, o, none⟩) 1 n c 1)]) (caps := []) Tcall_82 rfl rfl (fun w hs => (by have h := l5Args_spec ((hs.sl ha).drop1 (l := 1) (by omega)) (fun s hs => hW s (List.mem_of_mem_drop hs)) (by omega); rw [hq, han] at h; exact h)) ?_)
 rintro _ _ ⟨v1, rfl, rfl⟩
 show Run _ _ (putF _ _ _ (.tuple #[v1, .bool an])) [.own v1 3 1 (q.length) (ints q), .blk b1 77 [sv ([]), .int .i64 0, .int .i64 0, .int .i64 0, .int .i64 0, sv ([]), .slice none 0 0]]
 refine Run.p (.tuple #[v1, .bool an]) rfl rfl ?_
 refine Run.p (v1) rfl rfl ?_
 refine Run.p (.bool an) rfl rfl ?_
 refine Run.p (v1) rfl rfl ?_
 refine Run.p (.bool an) rfl rfl ?_
 refine Run.dsr ?_
 refine Run.p (.int .i64 1) rfl rfl ?_
 refine Run.done ?_
 refine Run.seq ?_
 refine Run.sr ?_
 refine Run.p (.int .i64 k) rfl rfl ?_
 refine Run.p (.bool (decide (k ≥ 9))) rfl rfl ?_
 refine Run.done ?_
 refine Run.cond (b := decide (k ≥ 9)) rfl (fun h20 => ?_) (fun h20 => ?_)
 ·have p20 := h20; try simp only [bs] at p20
  refine Run.region ?_
  refine Run.p (.int .i64 2) rfl rfl ?_
  refine Run.done ?_
  refine Run.seq ?_
  refine Run.sr ?_
  refine Run.p (.int .i64 k) rfl rfl ?_
  refine Run.p (.bool (k == 12)) rfl rfl ?_
  refine Run.done ?_
  refine Run.cond (b := k == 12) rfl (fun h22 => ?_) (fun h22 => ?_)
  ·have p22 := h22; try simp only [bs] at p22
   refine Run.region ?_
   refine Run.p (.int .i64 0) rfl rfl ?_
   refine Run.done ?_
   refine Run.seq ?_
   refine Run.sr ?_
   refine Run.p (.int .i64 k) rfl rfl ?_
   refine Run.p (.bool (k == 0)) rfl rfl ?_
   rcases Bool.eq_false_or_eq_true (k == 0) with h25 | h25
   ·refine Run.q (v := .bool true) rfl (OpQ.y (OpY.moveB rfl h25)) ?_
    have p25 := h25; try simp only [bs] at p25
    refine Run.pass rfl ?_
    refine Run.pass rfl ?_
    refine Run.p (.bool true) rfl rfl ?_
    refine Run.p (.bool true) rfl rfl ?_
    refine Run.pass rfl ?_
    refine Run.pass rfl ?_
    refine Run.pass rfl ?_
    refine Run.pass rfl ?_
    refine Run.p (.bool true) rfl rfl ?_
    refine Run.done ?_
    refine Run.cond (b := true) rfl (fun _ => ?_) (fun h => nomatch h)
    refine Run.sr ?_
    refine Run.y (.agg #[sv ([]), .int .i64 0, .int .i64 0, .int .i64 0, .int .i64 0, sv ([]), .slice none 0 0]) rfl (OpY.build (cs := [sv ([]), .int .i64 0, .int .i64 0, .int .i64 0, .int .i64 0, sv ([]), .slice none 0 0]) (by kernel_rfl)) ?_
    refine Run.step rfl (OpStep.storeAll (us := [sv ([]), .int .i64 0, .int .i64 0, .int .i64 0, .int .i64 0, sv ([]), .slice none 0 0]) Tsize_77 rfl rfl rfl (.there _ (.here _)) rfl ?_)
    refine Run.p (.bool false) rfl rfl ?_
    refine Run.done ?_
    refine Run.ret ?_
    refine ⟨.tuple #[.agg #[sv ([]), .int .i64 0, .int .i64 0, .int .i64 0, .int .i64 0, sv ([]), .slice none 0 0], .bool false], [], Out.cell2 (cs := [sv ([]), .int .i64 0, .int .i64 0, .int .i64 0, .int .i64 0, sv ([]), .slice none 0 0]) rfl Tagg_77 rfl (Cells.blk (.tail _ (List.Mem.head _)) ⟨rfl, rfl, rfl, rfl, rfl, rfl, rfl, trivial⟩) rfl, (Some'.weak (.nil _)), ?_⟩
    have hcn : cntK k = 0 := by unfold cntK; split <;> (try split) <;> omega
    refine ⟨_, _, _, _, _, rfl, rfl, ?_⟩
    exact LnR.no (lgNo hk hq han (by rw [hcn]; rintro ⟨h1, h2, h3⟩; first | omega | simp_all))
   ·refine Run.q (v := .bool false) rfl (OpQ.y (OpY.moveB rfl h25)) ?_
    have p25 := h25; try simp only [bs] at p25
    refine Run.p (.bool an) rfl rfl ?_
    refine Run.p (.bool (!an)) rfl rfl ?_
    refine Run.p (.bool (!an)) rfl rfl ?_
    rcases Bool.eq_false_or_eq_true (!an) with h29 | h29
    ·refine Run.q (v := .bool true) rfl (OpQ.y (OpY.moveB rfl h29)) ?_
     have p29 := h29; try simp only [bs] at p29
     refine Run.pass rfl ?_
     refine Run.pass rfl ?_
     refine Run.pass rfl ?_
     refine Run.pass rfl ?_
     refine Run.p (.bool true) rfl rfl ?_
     refine Run.done ?_
     refine Run.cond (b := true) rfl (fun _ => ?_) (fun h => nomatch h)
     refine Run.sr ?_
     refine Run.y (.agg #[sv ([]), .int .i64 0, .int .i64 0, .int .i64 0, .int .i64 0, sv ([]), .slice none 0 0]) rfl (OpY.build (cs := [sv ([]), .int .i64 0, .int .i64 0, .int .i64 0, .int .i64 0, sv ([]), .slice none 0 0]) (by kernel_rfl)) ?_
     refine Run.step rfl (OpStep.storeAll (us := [sv ([]), .int .i64 0, .int .i64 0, .int .i64 0, .int .i64 0, sv ([]), .slice none 0 0]) Tsize_77 rfl rfl rfl (.there _ (.here _)) rfl ?_)
     refine Run.p (.bool false) rfl rfl ?_
     refine Run.done ?_
     refine Run.ret ?_
     refine ⟨.tuple #[.agg #[sv ([]), .int .i64 0, .int .i64 0, .int .i64 0, .int .i64 0, sv ([]), .slice none 0 0], .bool false], [], Out.cell2 (cs := [sv ([]), .int .i64 0, .int .i64 0, .int .i64 0, .int .i64 0, sv ([]), .slice none 0 0]) rfl Tagg_77 rfl (Cells.blk (.tail _ (List.Mem.head _)) ⟨rfl, rfl, rfl, rfl, rfl, rfl, rfl, trivial⟩) rfl, (Some'.weak (.nil _)), ?_⟩
     have hcn : cntK k = 0 := by unfold cntK; split <;> (try split) <;> omega
     refine ⟨_, _, _, _, _, rfl, rfl, ?_⟩
     exact LnR.no (lgNo hk hq han (by rw [hcn]; rintro ⟨h1, h2, h3⟩; first | omega | simp_all))
    ·refine Run.q (v := .bool false) rfl (OpQ.y (OpY.moveB rfl h29)) ?_
     have p29 := h29; try simp only [bs] at p29
     refine Run.p (v1) rfl rfl ?_
     refine Run.formOwn (.head _) (fun A_v11 c_v11 hv hcapc_v11 hmaxc_v11 => ?_) (fun _ _ _ => ⟨nofun, nofun, nofun⟩)
     subst hv
     refine Run.y (.int .i64 (((q.length : Nat) : Int))) rfl (OpY.len Tsl_75 rfl) ?_
     refine Run.p (.int .i64 0) rfl rfl ?_
     refine Run.p (.bool ((((q.length : Nat) : Int)) != 0)) rfl rfl ?_
     refine Run.p (.bool ((((q.length : Nat) : Int)) != 0)) rfl rfl ?_
     refine Run.done ?_
     refine Run.cond (b := (((q.length : Nat) : Int)) != 0) rfl (fun h34 => ?_) (fun h34 => ?_)
     ·have p34 := h34; try simp only [bs] at p34
      refine Run.sr ?_
      refine Run.y (.agg #[sv ([]), .int .i64 0, .int .i64 0, .int .i64 0, .int .i64 0, sv ([]), .slice none 0 0]) rfl (OpY.build (cs := [sv ([]), .int .i64 0, .int .i64 0, .int .i64 0, .int .i64 0, sv ([]), .slice none 0 0]) (by kernel_rfl)) ?_
      refine Run.step rfl (OpStep.storeAll (us := [sv ([]), .int .i64 0, .int .i64 0, .int .i64 0, .int .i64 0, sv ([]), .slice none 0 0]) Tsize_77 rfl rfl rfl (.there _ (.here _)) rfl ?_)
      refine Run.p (.bool false) rfl rfl ?_
      refine Run.done ?_
      refine Run.ret ?_
      refine ⟨.tuple #[.agg #[sv ([]), .int .i64 0, .int .i64 0, .int .i64 0, .int .i64 0, sv ([]), .slice none 0 0], .bool false], [], Out.cell2 (cs := [sv ([]), .int .i64 0, .int .i64 0, .int .i64 0, .int .i64 0, sv ([]), .slice none 0 0]) rfl Tagg_77 rfl (Cells.blk (.tail _ (List.Mem.head _)) ⟨rfl, rfl, rfl, rfl, rfl, rfl, rfl, trivial⟩) rfl, (Some'.weak (.nil _)), ?_⟩
      have hcn : cntK k = 0 := by unfold cntK; split <;> (try split) <;> omega
      refine ⟨_, _, _, _, _, rfl, rfl, ?_⟩
      exact LnR.no (lgNo hk hq han (by rw [hcn]; rintro ⟨h1, h2, h3⟩; first | omega | simp_all))
     ·have p34 := h34; try simp only [bs] at p34
      refine Run.skip ?_
      refine Run.sr ?_
      refine Run.p (.int .i64 k) rfl rfl ?_
      refine Run.y (.agg #[.int .i64 k, .int .i64 0, .int .i64 0]) rfl (OpY.build (cs := [.int .i64 k, .int .i64 0, .int .i64 0]) (by kernel_rfl)) ?_
      refine Run.y (.agg #[sv wG, .int .i64 k, .int .i64 0, .int .i64 0, .int .i64 0, sv ([]), .slice none 0 0]) rfl (OpY.build (cs := [sv wG, .int .i64 k, .int .i64 0, .int .i64 0, .int .i64 0, sv ([]), .slice none 0 0]) (by kernel_rfl)) ?_
      refine Run.step rfl (OpStep.alloc (zs := [sv ([]), .int .i64 0, .int .i64 0, .int .i64 0, .int .i64 0, sv ([]), .slice none 0 0]) Tzero_77 fun b2 => ?_)
      refine Run.step rfl (OpStep.storeAll (us := [sv wG, .int .i64 k, .int .i64 0, .int .i64 0, .int .i64 0, sv ([]), .slice none 0 0]) Tsize_77 rfl rfl rfl (.here _) rfl ?_)
      refine Run.done ?_
      refine Run.seq ?_
      refine Run.sr ?_
      refine Run.p (.int .i64 0) rfl rfl ?_
      refine Run.p (.bool false) rfl rfl ?_
      refine Run.done ?_
      refine Run.cond (b := false) rfl (fun h => nomatch h) (fun _ => ?_)
      refine Run.skip ?_
      refine Run.seq ?_
      refine Run.sr ?_
      refine Run.p (.int .i64 0) rfl rfl ?_
      refine Run.p (.bool false) rfl rfl ?_
      refine Run.done ?_
      refine Run.cond (b := false) rfl (fun h => nomatch h) (fun _ => ?_)
      refine Run.skip ?_
      refine Run.sr ?_
      refine Run.y (.agg #[sv wG, .int .i64 k, .int .i64 0, .int .i64 0, .int .i64 0, sv ([]), .slice none 0 0]) rfl (OpY.loadN (cs := [sv wG, .int .i64 k, .int .i64 0, .int .i64 0, .int .i64 0, sv ([]), .slice none 0 0]) Tagg_77 rfl (Cells.blk (.head _) ⟨rfl, rfl, rfl, rfl, rfl, rfl, rfl, trivial⟩)) ?_
      refine Run.step rfl (OpStep.storeAll (us := [sv wG, .int .i64 k, .int .i64 0, .int .i64 0, .int .i64 0, sv ([]), .slice none 0 0]) Tsize_77 rfl rfl rfl (.there _ (.there _ (.here _))) rfl ?_)
      refine Run.p (.bool true) rfl rfl ?_
      refine Run.done ?_
      refine Run.ret ?_
      refine ⟨.tuple #[.agg #[sv wG, .int .i64 k, .int .i64 0, .int .i64 0, .int .i64 0, sv ([]), .slice none 0 0], .bool true], [], Out.cell2 (cs := [sv wG, .int .i64 k, .int .i64 0, .int .i64 0, .int .i64 0, sv ([]), .slice none 0 0]) rfl Tagg_77 rfl (Cells.blk (.tail _ (.tail _ (List.Mem.head _))) ⟨rfl, rfl, rfl, rfl, rfl, rfl, rfl, trivial⟩) rfl, (Some'.weak (.nil _)), ?_⟩
      have hcn : cntK k = 0 := by unfold cntK; split <;> (try split) <;> omega
      refine ⟨_, _, _, _, _, rfl, rfl, ?_⟩
      exact LnR.gate (lgYes hk hq han (by rw [hcn]; exact ⟨by simp_all, by omega, by omega⟩)) rfl (by first | exact (if_pos (show 0 < q.length by omega)).symm | exact (if_neg (show ¬ 0 < q.length by omega)).symm) (by first | exact (if_pos (show 1 < q.length by omega)).symm | exact (if_neg (show ¬ 1 < q.length by omega)).symm)
  ·have p22 := h22; try simp only [bs] at p22
   refine Run.skip ?_
   refine Run.seq ?_
   refine Run.sr ?_
   refine Run.p (.int .i64 k) rfl rfl ?_
   refine Run.p (.bool (k == 0)) rfl rfl ?_
   rcases Bool.eq_false_or_eq_true (k == 0) with h25 | h25
   ·refine Run.q (v := .bool true) rfl (OpQ.y (OpY.moveB rfl h25)) ?_
    have p25 := h25; try simp only [bs] at p25
    refine Run.pass rfl ?_
    refine Run.pass rfl ?_
    refine Run.p (.bool true) rfl rfl ?_
    refine Run.p (.bool true) rfl rfl ?_
    refine Run.pass rfl ?_
    refine Run.pass rfl ?_
    refine Run.pass rfl ?_
    refine Run.pass rfl ?_
    refine Run.p (.bool true) rfl rfl ?_
    refine Run.done ?_
    refine Run.cond (b := true) rfl (fun _ => ?_) (fun h => nomatch h)
    refine Run.sr ?_
    refine Run.y (.agg #[sv ([]), .int .i64 0, .int .i64 0, .int .i64 0, .int .i64 0, sv ([]), .slice none 0 0]) rfl (OpY.build (cs := [sv ([]), .int .i64 0, .int .i64 0, .int .i64 0, .int .i64 0, sv ([]), .slice none 0 0]) (by kernel_rfl)) ?_
    refine Run.step rfl (OpStep.storeAll (us := [sv ([]), .int .i64 0, .int .i64 0, .int .i64 0, .int .i64 0, sv ([]), .slice none 0 0]) Tsize_77 rfl rfl rfl (.there _ (.here _)) rfl ?_)
    refine Run.p (.bool false) rfl rfl ?_
    refine Run.done ?_
    refine Run.ret ?_
    refine ⟨.tuple #[.agg #[sv ([]), .int .i64 0, .int .i64 0, .int .i64 0, .int .i64 0, sv ([]), .slice none 0 0], .bool false], [], Out.cell2 (cs := [sv ([]), .int .i64 0, .int .i64 0, .int .i64 0, .int .i64 0, sv ([]), .slice none 0 0]) rfl Tagg_77 rfl (Cells.blk (.tail _ (List.Mem.head _)) ⟨rfl, rfl, rfl, rfl, rfl, rfl, rfl, trivial⟩) rfl, (Some'.weak (.nil _)), ?_⟩
    have hcn : cntK k = 2 := by unfold cntK; split <;> (try split) <;> omega
    refine ⟨_, _, _, _, _, rfl, rfl, ?_⟩
    exact LnR.no (lgNo hk hq han (by rw [hcn]; rintro ⟨h1, h2, h3⟩; first | omega | simp_all))
   ·refine Run.q (v := .bool false) rfl (OpQ.y (OpY.moveB rfl h25)) ?_
    have p25 := h25; try simp only [bs] at p25
    refine Run.p (.bool an) rfl rfl ?_
    refine Run.p (.bool (!an)) rfl rfl ?_
    refine Run.p (.bool (!an)) rfl rfl ?_
    rcases Bool.eq_false_or_eq_true (!an) with h29 | h29
    ·refine Run.q (v := .bool true) rfl (OpQ.y (OpY.moveB rfl h29)) ?_
     have p29 := h29; try simp only [bs] at p29
     refine Run.pass rfl ?_
     refine Run.pass rfl ?_
     refine Run.pass rfl ?_
     refine Run.pass rfl ?_
     refine Run.p (.bool true) rfl rfl ?_
     refine Run.done ?_
     refine Run.cond (b := true) rfl (fun _ => ?_) (fun h => nomatch h)
     refine Run.sr ?_
     refine Run.y (.agg #[sv ([]), .int .i64 0, .int .i64 0, .int .i64 0, .int .i64 0, sv ([]), .slice none 0 0]) rfl (OpY.build (cs := [sv ([]), .int .i64 0, .int .i64 0, .int .i64 0, .int .i64 0, sv ([]), .slice none 0 0]) (by kernel_rfl)) ?_
     refine Run.step rfl (OpStep.storeAll (us := [sv ([]), .int .i64 0, .int .i64 0, .int .i64 0, .int .i64 0, sv ([]), .slice none 0 0]) Tsize_77 rfl rfl rfl (.there _ (.here _)) rfl ?_)
     refine Run.p (.bool false) rfl rfl ?_
     refine Run.done ?_
     refine Run.ret ?_
     refine ⟨.tuple #[.agg #[sv ([]), .int .i64 0, .int .i64 0, .int .i64 0, .int .i64 0, sv ([]), .slice none 0 0], .bool false], [], Out.cell2 (cs := [sv ([]), .int .i64 0, .int .i64 0, .int .i64 0, .int .i64 0, sv ([]), .slice none 0 0]) rfl Tagg_77 rfl (Cells.blk (.tail _ (List.Mem.head _)) ⟨rfl, rfl, rfl, rfl, rfl, rfl, rfl, trivial⟩) rfl, (Some'.weak (.nil _)), ?_⟩
     have hcn : cntK k = 2 := by unfold cntK; split <;> (try split) <;> omega
     refine ⟨_, _, _, _, _, rfl, rfl, ?_⟩
     exact LnR.no (lgNo hk hq han (by rw [hcn]; rintro ⟨h1, h2, h3⟩; first | omega | simp_all))
    ·refine Run.q (v := .bool false) rfl (OpQ.y (OpY.moveB rfl h29)) ?_
     have p29 := h29; try simp only [bs] at p29
     refine Run.p (v1) rfl rfl ?_
     refine Run.formOwn (.head _) (fun A_v12 c_v12 hv hcapc_v12 hmaxc_v12 => ?_) (fun _ _ _ => ⟨nofun, nofun, nofun⟩)
     subst hv
     refine Run.y (.int .i64 (((q.length : Nat) : Int))) rfl (OpY.len Tsl_75 rfl) ?_
     refine Run.p (.int .i64 2) rfl rfl ?_
     refine Run.p (.bool ((((q.length : Nat) : Int)) != 2)) rfl rfl ?_
     refine Run.p (.bool ((((q.length : Nat) : Int)) != 2)) rfl rfl ?_
     refine Run.done ?_
     refine Run.cond (b := (((q.length : Nat) : Int)) != 2) rfl (fun h34 => ?_) (fun h34 => ?_)
     ·have p34 := h34; try simp only [bs] at p34
      refine Run.sr ?_
      refine Run.y (.agg #[sv ([]), .int .i64 0, .int .i64 0, .int .i64 0, .int .i64 0, sv ([]), .slice none 0 0]) rfl (OpY.build (cs := [sv ([]), .int .i64 0, .int .i64 0, .int .i64 0, .int .i64 0, sv ([]), .slice none 0 0]) (by kernel_rfl)) ?_
      refine Run.step rfl (OpStep.storeAll (us := [sv ([]), .int .i64 0, .int .i64 0, .int .i64 0, .int .i64 0, sv ([]), .slice none 0 0]) Tsize_77 rfl rfl rfl (.there _ (.here _)) rfl ?_)
      refine Run.p (.bool false) rfl rfl ?_
      refine Run.done ?_
      refine Run.ret ?_
      refine ⟨.tuple #[.agg #[sv ([]), .int .i64 0, .int .i64 0, .int .i64 0, .int .i64 0, sv ([]), .slice none 0 0], .bool false], [], Out.cell2 (cs := [sv ([]), .int .i64 0, .int .i64 0, .int .i64 0, .int .i64 0, sv ([]), .slice none 0 0]) rfl Tagg_77 rfl (Cells.blk (.tail _ (List.Mem.head _)) ⟨rfl, rfl, rfl, rfl, rfl, rfl, rfl, trivial⟩) rfl, (Some'.weak (.nil _)), ?_⟩
      have hcn : cntK k = 2 := by unfold cntK; split <;> (try split) <;> omega
      refine ⟨_, _, _, _, _, rfl, rfl, ?_⟩
      exact LnR.no (lgNo hk hq han (by rw [hcn]; rintro ⟨h1, h2, h3⟩; first | omega | simp_all))
     ·have p34 := h34; try simp only [bs] at p34
      refine Run.skip ?_
      refine Run.sr ?_
      refine Run.p (.int .i64 k) rfl rfl ?_
      refine Run.y (.agg #[.int .i64 k, .int .i64 0, .int .i64 0]) rfl (OpY.build (cs := [.int .i64 k, .int .i64 0, .int .i64 0]) (by kernel_rfl)) ?_
      refine Run.y (.agg #[sv wG, .int .i64 k, .int .i64 0, .int .i64 0, .int .i64 0, sv ([]), .slice none 0 0]) rfl (OpY.build (cs := [sv wG, .int .i64 k, .int .i64 0, .int .i64 0, .int .i64 0, sv ([]), .slice none 0 0]) (by kernel_rfl)) ?_
      refine Run.step rfl (OpStep.alloc (zs := [sv ([]), .int .i64 0, .int .i64 0, .int .i64 0, .int .i64 0, sv ([]), .slice none 0 0]) Tzero_77 fun b3 => ?_)
      refine Run.step rfl (OpStep.storeAll (us := [sv wG, .int .i64 k, .int .i64 0, .int .i64 0, .int .i64 0, sv ([]), .slice none 0 0]) Tsize_77 rfl rfl rfl (.here _) rfl ?_)
      refine Run.done ?_
      refine Run.seq ?_
      refine Run.sr ?_
      refine Run.p (.int .i64 2) rfl rfl ?_
      refine Run.p (.bool true) rfl rfl ?_
      refine Run.done ?_
      refine Run.cond (b := true) rfl (fun _ => ?_) (fun h => nomatch h)
      refine Run.openOwn (.tail _ (List.Mem.head _)) (by omega) (fun gq cq hvgq hcapgq _ => ?_) (fun _ _ _ => ⟨nofun, nofun, nofun⟩)
      injection hvgq with hAgq _ hcgq; subst hAgq; subst hcgq
      refine Run.region ?_
      refine Run.p (.slice (some ⟨gq, 0, none⟩) (q.length) c_v12) rfl rfl ?_
      refine Run.y (.pointer (some ⟨gq, 0, none⟩)) rfl (OpY.index (kk := 0) Tsl_75 rfl rfl (by omega) (by omega) (by first | rfl | omega)) ?_
      refine Run.y (.int .i64 (ix q (0))) rfl (OpY.load1 Tone_3 rfl (Cells.own0 (.tail _ (List.Mem.head _)) (pre1 (by omega)))) ?_
      refine Run.y (.pointer (some ⟨b3, 1, none⟩)) rfl (OpY.fieldAddr Tfo_77_1 rfl rfl) ?_
      refine Run.y (.pointer (some ⟨b3, 2, none⟩)) rfl (OpY.fieldAddr Tfo_69_1 rfl rfl) ?_
      refine Run.step rfl (OpStep.store (us := [.int .i64 (ix q (0))]) Tsize_3 rfl rfl rfl (.here _) (by simp only [List.length_cons, List.length_nil]; omega) ?_)
      show Run _ _ _ [.blk b3 77 [sv wG, .int .i64 k, .int .i64 (ix q (0)), .int .i64 0, .int .i64 0, sv ([]), .slice none 0 0], .own (.slice (some ⟨gq, 0, none⟩) (q.length) c_v12) 3 1 (q.length) (ints q), .blk b1 77 [sv ([]), .int .i64 0, .int .i64 0, .int .i64 0, .int .i64 0, sv ([]), .slice none 0 0]]
      refine Run.done ?_
      refine Run.seq ?_
      refine Run.sr ?_
      refine Run.p (.int .i64 2) rfl rfl ?_
      refine Run.p (.bool true) rfl rfl ?_
      refine Run.done ?_
      refine Run.cond (b := true) rfl (fun _ => ?_) (fun h => nomatch h)
      refine Run.region ?_
      refine Run.p (.slice (some ⟨gq, 0, none⟩) (q.length) c_v12) rfl rfl ?_
      refine Run.y (.pointer (some ⟨gq, 1, none⟩)) rfl (OpY.index (kk := 1) Tsl_75 rfl rfl (by omega) (by omega) (by first | rfl | omega)) ?_
      refine Run.y (.int .i64 (ix q (1))) rfl (OpY.load1 Tone_3 rfl (Cells.own0 (.tail _ (List.Mem.head _)) (pre1 (by omega)))) ?_
      refine Run.y (.pointer (some ⟨b3, 1, none⟩)) rfl (OpY.fieldAddr Tfo_77_1 rfl rfl) ?_
      refine Run.y (.pointer (some ⟨b3, 3, none⟩)) rfl (OpY.fieldAddr Tfo_69_2 rfl rfl) ?_
      refine Run.step rfl (OpStep.store (us := [.int .i64 (ix q (1))]) Tsize_3 rfl rfl rfl (.here _) (by simp only [List.length_cons, List.length_nil]; omega) ?_)
      show Run _ _ _ [.blk b3 77 [sv wG, .int .i64 k, .int .i64 (ix q (0)), .int .i64 (ix q (1)), .int .i64 0, sv ([]), .slice none 0 0], .own (.slice (some ⟨gq, 0, none⟩) (q.length) c_v12) 3 1 (q.length) (ints q), .blk b1 77 [sv ([]), .int .i64 0, .int .i64 0, .int .i64 0, .int .i64 0, sv ([]), .slice none 0 0]]
      refine Run.dsr ?_
      refine Run.y (.agg #[sv wG, .int .i64 k, .int .i64 (ix q (0)), .int .i64 (ix q (1)), .int .i64 0, sv ([]), .slice none 0 0]) rfl (OpY.loadN (cs := [sv wG, .int .i64 k, .int .i64 (ix q (0)), .int .i64 (ix q (1)), .int .i64 0, sv ([]), .slice none 0 0]) Tagg_77 rfl (Cells.blk (.head _) ⟨rfl, rfl, rfl, rfl, rfl, rfl, rfl, trivial⟩)) ?_
      refine Run.step rfl (OpStep.storeAll (us := [sv wG, .int .i64 k, .int .i64 (ix q (0)), .int .i64 (ix q (1)), .int .i64 0, sv ([]), .slice none 0 0]) Tsize_77 rfl rfl rfl (.there _ (.there _ (.here _))) rfl ?_)
      refine Run.p (.bool true) rfl rfl ?_
      refine Run.done ?_
      refine Run.ret ?_
      refine ⟨.tuple #[.agg #[sv wG, .int .i64 k, .int .i64 (ix q (0)), .int .i64 (ix q (1)), .int .i64 0, sv ([]), .slice none 0 0], .bool true], [], Out.cell2 (cs := [sv wG, .int .i64 k, .int .i64 (ix q (0)), .int .i64 (ix q (1)), .int .i64 0, sv ([]), .slice none 0 0]) rfl Tagg_77 rfl (Cells.blk (.tail _ (.tail _ (List.Mem.head _))) ⟨rfl, rfl, rfl, rfl, rfl, rfl, rfl, trivial⟩) rfl, (Some'.weak (.nil _)), ?_⟩
      have hcn : cntK k = 2 := by unfold cntK; split <;> (try split) <;> omega
      refine ⟨_, _, _, _, _, rfl, rfl, ?_⟩
      exact LnR.gate (lgYes hk hq han (by rw [hcn]; exact ⟨by simp_all, by omega, by omega⟩)) rfl (by first | exact (if_pos (show 0 < q.length by omega)).symm | exact (if_neg (show ¬ 0 < q.length by omega)).symm) (by first | exact (if_pos (show 1 < q.length by omega)).symm | exact (if_neg (show ¬ 1 < q.length by omega)).symm)
 ·have p20 := h20; try simp only [bs] at p20
  refine Run.skip ?_
  refine Run.seq ?_
  refine Run.sr ?_
  refine Run.p (.int .i64 k) rfl rfl ?_
  refine Run.p (.bool (k == 12)) rfl rfl ?_
  refine Run.done ?_
  refine Run.cond (b := k == 12) rfl (fun h22 => ?_) (fun h22 => ?_)
  ·have p22 := h22; try simp only [bs] at p22
   refine Run.region ?_
   refine Run.p (.int .i64 0) rfl rfl ?_
   refine Run.done ?_
   refine Run.seq ?_
   refine Run.sr ?_
   refine Run.p (.int .i64 k) rfl rfl ?_
   refine Run.p (.bool (k == 0)) rfl rfl ?_
   rcases Bool.eq_false_or_eq_true (k == 0) with h25 | h25
   ·refine Run.q (v := .bool true) rfl (OpQ.y (OpY.moveB rfl h25)) ?_
    have p25 := h25; try simp only [bs] at p25
    refine Run.pass rfl ?_
    refine Run.pass rfl ?_
    refine Run.p (.bool true) rfl rfl ?_
    refine Run.p (.bool true) rfl rfl ?_
    refine Run.pass rfl ?_
    refine Run.pass rfl ?_
    refine Run.pass rfl ?_
    refine Run.pass rfl ?_
    refine Run.p (.bool true) rfl rfl ?_
    refine Run.done ?_
    refine Run.cond (b := true) rfl (fun _ => ?_) (fun h => nomatch h)
    refine Run.sr ?_
    refine Run.y (.agg #[sv ([]), .int .i64 0, .int .i64 0, .int .i64 0, .int .i64 0, sv ([]), .slice none 0 0]) rfl (OpY.build (cs := [sv ([]), .int .i64 0, .int .i64 0, .int .i64 0, .int .i64 0, sv ([]), .slice none 0 0]) (by kernel_rfl)) ?_
    refine Run.step rfl (OpStep.storeAll (us := [sv ([]), .int .i64 0, .int .i64 0, .int .i64 0, .int .i64 0, sv ([]), .slice none 0 0]) Tsize_77 rfl rfl rfl (.there _ (.here _)) rfl ?_)
    refine Run.p (.bool false) rfl rfl ?_
    refine Run.done ?_
    refine Run.ret ?_
    refine ⟨.tuple #[.agg #[sv ([]), .int .i64 0, .int .i64 0, .int .i64 0, .int .i64 0, sv ([]), .slice none 0 0], .bool false], [], Out.cell2 (cs := [sv ([]), .int .i64 0, .int .i64 0, .int .i64 0, .int .i64 0, sv ([]), .slice none 0 0]) rfl Tagg_77 rfl (Cells.blk (.tail _ (List.Mem.head _)) ⟨rfl, rfl, rfl, rfl, rfl, rfl, rfl, trivial⟩) rfl, (Some'.weak (.nil _)), ?_⟩
    have hcn : cntK k = 0 := by unfold cntK; split <;> (try split) <;> omega
    refine ⟨_, _, _, _, _, rfl, rfl, ?_⟩
    exact LnR.no (lgNo hk hq han (by rw [hcn]; rintro ⟨h1, h2, h3⟩; first | omega | simp_all))
   ·refine Run.q (v := .bool false) rfl (OpQ.y (OpY.moveB rfl h25)) ?_
    have p25 := h25; try simp only [bs] at p25
    refine Run.p (.bool an) rfl rfl ?_
    refine Run.p (.bool (!an)) rfl rfl ?_
    refine Run.p (.bool (!an)) rfl rfl ?_
    rcases Bool.eq_false_or_eq_true (!an) with h29 | h29
    ·refine Run.q (v := .bool true) rfl (OpQ.y (OpY.moveB rfl h29)) ?_
     have p29 := h29; try simp only [bs] at p29
     refine Run.pass rfl ?_
     refine Run.pass rfl ?_
     refine Run.pass rfl ?_
     refine Run.pass rfl ?_
     refine Run.p (.bool true) rfl rfl ?_
     refine Run.done ?_
     refine Run.cond (b := true) rfl (fun _ => ?_) (fun h => nomatch h)
     refine Run.sr ?_
     refine Run.y (.agg #[sv ([]), .int .i64 0, .int .i64 0, .int .i64 0, .int .i64 0, sv ([]), .slice none 0 0]) rfl (OpY.build (cs := [sv ([]), .int .i64 0, .int .i64 0, .int .i64 0, .int .i64 0, sv ([]), .slice none 0 0]) (by kernel_rfl)) ?_
     refine Run.step rfl (OpStep.storeAll (us := [sv ([]), .int .i64 0, .int .i64 0, .int .i64 0, .int .i64 0, sv ([]), .slice none 0 0]) Tsize_77 rfl rfl rfl (.there _ (.here _)) rfl ?_)
     refine Run.p (.bool false) rfl rfl ?_
     refine Run.done ?_
     refine Run.ret ?_
     refine ⟨.tuple #[.agg #[sv ([]), .int .i64 0, .int .i64 0, .int .i64 0, .int .i64 0, sv ([]), .slice none 0 0], .bool false], [], Out.cell2 (cs := [sv ([]), .int .i64 0, .int .i64 0, .int .i64 0, .int .i64 0, sv ([]), .slice none 0 0]) rfl Tagg_77 rfl (Cells.blk (.tail _ (List.Mem.head _)) ⟨rfl, rfl, rfl, rfl, rfl, rfl, rfl, trivial⟩) rfl, (Some'.weak (.nil _)), ?_⟩
     have hcn : cntK k = 0 := by unfold cntK; split <;> (try split) <;> omega
     refine ⟨_, _, _, _, _, rfl, rfl, ?_⟩
     exact LnR.no (lgNo hk hq han (by rw [hcn]; rintro ⟨h1, h2, h3⟩; first | omega | simp_all))
    ·refine Run.q (v := .bool false) rfl (OpQ.y (OpY.moveB rfl h29)) ?_
     have p29 := h29; try simp only [bs] at p29
     refine Run.p (v1) rfl rfl ?_
     refine Run.formOwn (.head _) (fun A_v13 c_v13 hv hcapc_v13 hmaxc_v13 => ?_) (fun _ _ _ => ⟨nofun, nofun, nofun⟩)
     subst hv
     refine Run.y (.int .i64 (((q.length : Nat) : Int))) rfl (OpY.len Tsl_75 rfl) ?_
     refine Run.p (.int .i64 0) rfl rfl ?_
     refine Run.p (.bool ((((q.length : Nat) : Int)) != 0)) rfl rfl ?_
     refine Run.p (.bool ((((q.length : Nat) : Int)) != 0)) rfl rfl ?_
     refine Run.done ?_
     refine Run.cond (b := (((q.length : Nat) : Int)) != 0) rfl (fun h34 => ?_) (fun h34 => ?_)
     ·have p34 := h34; try simp only [bs] at p34
      refine Run.sr ?_
      refine Run.y (.agg #[sv ([]), .int .i64 0, .int .i64 0, .int .i64 0, .int .i64 0, sv ([]), .slice none 0 0]) rfl (OpY.build (cs := [sv ([]), .int .i64 0, .int .i64 0, .int .i64 0, .int .i64 0, sv ([]), .slice none 0 0]) (by kernel_rfl)) ?_
      refine Run.step rfl (OpStep.storeAll (us := [sv ([]), .int .i64 0, .int .i64 0, .int .i64 0, .int .i64 0, sv ([]), .slice none 0 0]) Tsize_77 rfl rfl rfl (.there _ (.here _)) rfl ?_)
      refine Run.p (.bool false) rfl rfl ?_
      refine Run.done ?_
      refine Run.ret ?_
      refine ⟨.tuple #[.agg #[sv ([]), .int .i64 0, .int .i64 0, .int .i64 0, .int .i64 0, sv ([]), .slice none 0 0], .bool false], [], Out.cell2 (cs := [sv ([]), .int .i64 0, .int .i64 0, .int .i64 0, .int .i64 0, sv ([]), .slice none 0 0]) rfl Tagg_77 rfl (Cells.blk (.tail _ (List.Mem.head _)) ⟨rfl, rfl, rfl, rfl, rfl, rfl, rfl, trivial⟩) rfl, (Some'.weak (.nil _)), ?_⟩
      have hcn : cntK k = 0 := by unfold cntK; split <;> (try split) <;> omega
      refine ⟨_, _, _, _, _, rfl, rfl, ?_⟩
      exact LnR.no (lgNo hk hq han (by rw [hcn]; rintro ⟨h1, h2, h3⟩; first | omega | simp_all))
     ·have p34 := h34; try simp only [bs] at p34
      refine Run.skip ?_
      refine Run.sr ?_
      refine Run.p (.int .i64 k) rfl rfl ?_
      refine Run.y (.agg #[.int .i64 k, .int .i64 0, .int .i64 0]) rfl (OpY.build (cs := [.int .i64 k, .int .i64 0, .int .i64 0]) (by kernel_rfl)) ?_
      refine Run.y (.agg #[sv wG, .int .i64 k, .int .i64 0, .int .i64 0, .int .i64 0, sv ([]), .slice none 0 0]) rfl (OpY.build (cs := [sv wG, .int .i64 k, .int .i64 0, .int .i64 0, .int .i64 0, sv ([]), .slice none 0 0]) (by kernel_rfl)) ?_
      refine Run.step rfl (OpStep.alloc (zs := [sv ([]), .int .i64 0, .int .i64 0, .int .i64 0, .int .i64 0, sv ([]), .slice none 0 0]) Tzero_77 fun b4 => ?_)
      refine Run.step rfl (OpStep.storeAll (us := [sv wG, .int .i64 k, .int .i64 0, .int .i64 0, .int .i64 0, sv ([]), .slice none 0 0]) Tsize_77 rfl rfl rfl (.here _) rfl ?_)
      refine Run.done ?_
      refine Run.seq ?_
      refine Run.sr ?_
      refine Run.p (.int .i64 0) rfl rfl ?_
      refine Run.p (.bool false) rfl rfl ?_
      refine Run.done ?_
      refine Run.cond (b := false) rfl (fun h => nomatch h) (fun _ => ?_)
      refine Run.skip ?_
      refine Run.seq ?_
      refine Run.sr ?_
      refine Run.p (.int .i64 0) rfl rfl ?_
      refine Run.p (.bool false) rfl rfl ?_
      refine Run.done ?_
      refine Run.cond (b := false) rfl (fun h => nomatch h) (fun _ => ?_)
      refine Run.skip ?_
      refine Run.sr ?_
      refine Run.y (.agg #[sv wG, .int .i64 k, .int .i64 0, .int .i64 0, .int .i64 0, sv ([]), .slice none 0 0]) rfl (OpY.loadN (cs := [sv wG, .int .i64 k, .int .i64 0, .int .i64 0, .int .i64 0, sv ([]), .slice none 0 0]) Tagg_77 rfl (Cells.blk (.head _) ⟨rfl, rfl, rfl, rfl, rfl, rfl, rfl, trivial⟩)) ?_
      refine Run.step rfl (OpStep.storeAll (us := [sv wG, .int .i64 k, .int .i64 0, .int .i64 0, .int .i64 0, sv ([]), .slice none 0 0]) Tsize_77 rfl rfl rfl (.there _ (.there _ (.here _))) rfl ?_)
      refine Run.p (.bool true) rfl rfl ?_
      refine Run.done ?_
      refine Run.ret ?_
      refine ⟨.tuple #[.agg #[sv wG, .int .i64 k, .int .i64 0, .int .i64 0, .int .i64 0, sv ([]), .slice none 0 0], .bool true], [], Out.cell2 (cs := [sv wG, .int .i64 k, .int .i64 0, .int .i64 0, .int .i64 0, sv ([]), .slice none 0 0]) rfl Tagg_77 rfl (Cells.blk (.tail _ (.tail _ (List.Mem.head _))) ⟨rfl, rfl, rfl, rfl, rfl, rfl, rfl, trivial⟩) rfl, (Some'.weak (.nil _)), ?_⟩
      have hcn : cntK k = 0 := by unfold cntK; split <;> (try split) <;> omega
      refine ⟨_, _, _, _, _, rfl, rfl, ?_⟩
      exact LnR.gate (lgYes hk hq han (by rw [hcn]; exact ⟨by simp_all, by omega, by omega⟩)) rfl (by first | exact (if_pos (show 0 < q.length by omega)).symm | exact (if_neg (show ¬ 0 < q.length by omega)).symm) (by first | exact (if_pos (show 1 < q.length by omega)).symm | exact (if_neg (show ¬ 1 < q.length by omega)).symm)
  ·have p22 := h22; try simp only [bs] at p22
   refine Run.skip ?_
   refine Run.seq ?_
   refine Run.sr ?_
   refine Run.p (.int .i64 k) rfl rfl ?_
   refine Run.p (.bool (k == 0)) rfl rfl ?_
   rcases Bool.eq_false_or_eq_true (k == 0) with h25 | h25
   ·refine Run.q (v := .bool true) rfl (OpQ.y (OpY.moveB rfl h25)) ?_
    have p25 := h25; try simp only [bs] at p25
    refine Run.pass rfl ?_
    refine Run.pass rfl ?_
    refine Run.p (.bool true) rfl rfl ?_
    refine Run.p (.bool true) rfl rfl ?_
    refine Run.pass rfl ?_
    refine Run.pass rfl ?_
    refine Run.pass rfl ?_
    refine Run.pass rfl ?_
    refine Run.p (.bool true) rfl rfl ?_
    refine Run.done ?_
    refine Run.cond (b := true) rfl (fun _ => ?_) (fun h => nomatch h)
    refine Run.sr ?_
    refine Run.y (.agg #[sv ([]), .int .i64 0, .int .i64 0, .int .i64 0, .int .i64 0, sv ([]), .slice none 0 0]) rfl (OpY.build (cs := [sv ([]), .int .i64 0, .int .i64 0, .int .i64 0, .int .i64 0, sv ([]), .slice none 0 0]) (by kernel_rfl)) ?_
    refine Run.step rfl (OpStep.storeAll (us := [sv ([]), .int .i64 0, .int .i64 0, .int .i64 0, .int .i64 0, sv ([]), .slice none 0 0]) Tsize_77 rfl rfl rfl (.there _ (.here _)) rfl ?_)
    refine Run.p (.bool false) rfl rfl ?_
    refine Run.done ?_
    refine Run.ret ?_
    refine ⟨.tuple #[.agg #[sv ([]), .int .i64 0, .int .i64 0, .int .i64 0, .int .i64 0, sv ([]), .slice none 0 0], .bool false], [], Out.cell2 (cs := [sv ([]), .int .i64 0, .int .i64 0, .int .i64 0, .int .i64 0, sv ([]), .slice none 0 0]) rfl Tagg_77 rfl (Cells.blk (.tail _ (List.Mem.head _)) ⟨rfl, rfl, rfl, rfl, rfl, rfl, rfl, trivial⟩) rfl, (Some'.weak (.nil _)), ?_⟩
    have hcn : cntK k = 1 := by unfold cntK; split <;> (try split) <;> omega
    refine ⟨_, _, _, _, _, rfl, rfl, ?_⟩
    exact LnR.no (lgNo hk hq han (by rw [hcn]; rintro ⟨h1, h2, h3⟩; first | omega | simp_all))
   ·refine Run.q (v := .bool false) rfl (OpQ.y (OpY.moveB rfl h25)) ?_
    have p25 := h25; try simp only [bs] at p25
    refine Run.p (.bool an) rfl rfl ?_
    refine Run.p (.bool (!an)) rfl rfl ?_
    refine Run.p (.bool (!an)) rfl rfl ?_
    rcases Bool.eq_false_or_eq_true (!an) with h29 | h29
    ·refine Run.q (v := .bool true) rfl (OpQ.y (OpY.moveB rfl h29)) ?_
     have p29 := h29; try simp only [bs] at p29
     refine Run.pass rfl ?_
     refine Run.pass rfl ?_
     refine Run.pass rfl ?_
     refine Run.pass rfl ?_
     refine Run.p (.bool true) rfl rfl ?_
     refine Run.done ?_
     refine Run.cond (b := true) rfl (fun _ => ?_) (fun h => nomatch h)
     refine Run.sr ?_
     refine Run.y (.agg #[sv ([]), .int .i64 0, .int .i64 0, .int .i64 0, .int .i64 0, sv ([]), .slice none 0 0]) rfl (OpY.build (cs := [sv ([]), .int .i64 0, .int .i64 0, .int .i64 0, .int .i64 0, sv ([]), .slice none 0 0]) (by kernel_rfl)) ?_
     refine Run.step rfl (OpStep.storeAll (us := [sv ([]), .int .i64 0, .int .i64 0, .int .i64 0, .int .i64 0, sv ([]), .slice none 0 0]) Tsize_77 rfl rfl rfl (.there _ (.here _)) rfl ?_)
     refine Run.p (.bool false) rfl rfl ?_
     refine Run.done ?_
     refine Run.ret ?_
     refine ⟨.tuple #[.agg #[sv ([]), .int .i64 0, .int .i64 0, .int .i64 0, .int .i64 0, sv ([]), .slice none 0 0], .bool false], [], Out.cell2 (cs := [sv ([]), .int .i64 0, .int .i64 0, .int .i64 0, .int .i64 0, sv ([]), .slice none 0 0]) rfl Tagg_77 rfl (Cells.blk (.tail _ (List.Mem.head _)) ⟨rfl, rfl, rfl, rfl, rfl, rfl, rfl, trivial⟩) rfl, (Some'.weak (.nil _)), ?_⟩
     have hcn : cntK k = 1 := by unfold cntK; split <;> (try split) <;> omega
     refine ⟨_, _, _, _, _, rfl, rfl, ?_⟩
     exact LnR.no (lgNo hk hq han (by rw [hcn]; rintro ⟨h1, h2, h3⟩; first | omega | simp_all))
    ·refine Run.q (v := .bool false) rfl (OpQ.y (OpY.moveB rfl h29)) ?_
     have p29 := h29; try simp only [bs] at p29
     refine Run.p (v1) rfl rfl ?_
     refine Run.formOwn (.head _) (fun A_v14 c_v14 hv hcapc_v14 hmaxc_v14 => ?_) (fun _ _ _ => ⟨nofun, nofun, nofun⟩)
     subst hv
     refine Run.y (.int .i64 (((q.length : Nat) : Int))) rfl (OpY.len Tsl_75 rfl) ?_
     refine Run.p (.int .i64 1) rfl rfl ?_
     refine Run.p (.bool ((((q.length : Nat) : Int)) != 1)) rfl rfl ?_
     refine Run.p (.bool ((((q.length : Nat) : Int)) != 1)) rfl rfl ?_
     refine Run.done ?_
     refine Run.cond (b := (((q.length : Nat) : Int)) != 1) rfl (fun h34 => ?_) (fun h34 => ?_)
     ·have p34 := h34; try simp only [bs] at p34
      refine Run.sr ?_
      refine Run.y (.agg #[sv ([]), .int .i64 0, .int .i64 0, .int .i64 0, .int .i64 0, sv ([]), .slice none 0 0]) rfl (OpY.build (cs := [sv ([]), .int .i64 0, .int .i64 0, .int .i64 0, .int .i64 0, sv ([]), .slice none 0 0]) (by kernel_rfl)) ?_
      refine Run.step rfl (OpStep.storeAll (us := [sv ([]), .int .i64 0, .int .i64 0, .int .i64 0, .int .i64 0, sv ([]), .slice none 0 0]) Tsize_77 rfl rfl rfl (.there _ (.here _)) rfl ?_)
      refine Run.p (.bool false) rfl rfl ?_
      refine Run.done ?_
      refine Run.ret ?_
      refine ⟨.tuple #[.agg #[sv ([]), .int .i64 0, .int .i64 0, .int .i64 0, .int .i64 0, sv ([]), .slice none 0 0], .bool false], [], Out.cell2 (cs := [sv ([]), .int .i64 0, .int .i64 0, .int .i64 0, .int .i64 0, sv ([]), .slice none 0 0]) rfl Tagg_77 rfl (Cells.blk (.tail _ (List.Mem.head _)) ⟨rfl, rfl, rfl, rfl, rfl, rfl, rfl, trivial⟩) rfl, (Some'.weak (.nil _)), ?_⟩
      have hcn : cntK k = 1 := by unfold cntK; split <;> (try split) <;> omega
      refine ⟨_, _, _, _, _, rfl, rfl, ?_⟩
      exact LnR.no (lgNo hk hq han (by rw [hcn]; rintro ⟨h1, h2, h3⟩; first | omega | simp_all))
     ·have p34 := h34; try simp only [bs] at p34
      refine Run.skip ?_
      refine Run.sr ?_
      refine Run.p (.int .i64 k) rfl rfl ?_
      refine Run.y (.agg #[.int .i64 k, .int .i64 0, .int .i64 0]) rfl (OpY.build (cs := [.int .i64 k, .int .i64 0, .int .i64 0]) (by kernel_rfl)) ?_
      refine Run.y (.agg #[sv wG, .int .i64 k, .int .i64 0, .int .i64 0, .int .i64 0, sv ([]), .slice none 0 0]) rfl (OpY.build (cs := [sv wG, .int .i64 k, .int .i64 0, .int .i64 0, .int .i64 0, sv ([]), .slice none 0 0]) (by kernel_rfl)) ?_
      refine Run.step rfl (OpStep.alloc (zs := [sv ([]), .int .i64 0, .int .i64 0, .int .i64 0, .int .i64 0, sv ([]), .slice none 0 0]) Tzero_77 fun b5 => ?_)
      refine Run.step rfl (OpStep.storeAll (us := [sv wG, .int .i64 k, .int .i64 0, .int .i64 0, .int .i64 0, sv ([]), .slice none 0 0]) Tsize_77 rfl rfl rfl (.here _) rfl ?_)
      refine Run.done ?_
      refine Run.seq ?_
      refine Run.sr ?_
      refine Run.p (.int .i64 1) rfl rfl ?_
      refine Run.p (.bool true) rfl rfl ?_
      refine Run.done ?_
      refine Run.cond (b := true) rfl (fun _ => ?_) (fun h => nomatch h)
      refine Run.openOwn (.tail _ (List.Mem.head _)) (by omega) (fun gq cq hvgq hcapgq _ => ?_) (fun _ _ _ => ⟨nofun, nofun, nofun⟩)
      injection hvgq with hAgq _ hcgq; subst hAgq; subst hcgq
      refine Run.region ?_
      refine Run.p (.slice (some ⟨gq, 0, none⟩) (q.length) c_v14) rfl rfl ?_
      refine Run.y (.pointer (some ⟨gq, 0, none⟩)) rfl (OpY.index (kk := 0) Tsl_75 rfl rfl (by omega) (by omega) (by first | rfl | omega)) ?_
      refine Run.y (.int .i64 (ix q (0))) rfl (OpY.load1 Tone_3 rfl (Cells.own0 (.tail _ (List.Mem.head _)) (pre1 (by omega)))) ?_
      refine Run.y (.pointer (some ⟨b5, 1, none⟩)) rfl (OpY.fieldAddr Tfo_77_1 rfl rfl) ?_
      refine Run.y (.pointer (some ⟨b5, 2, none⟩)) rfl (OpY.fieldAddr Tfo_69_1 rfl rfl) ?_
      refine Run.step rfl (OpStep.store (us := [.int .i64 (ix q (0))]) Tsize_3 rfl rfl rfl (.here _) (by simp only [List.length_cons, List.length_nil]; omega) ?_)
      show Run _ _ _ [.blk b5 77 [sv wG, .int .i64 k, .int .i64 (ix q (0)), .int .i64 0, .int .i64 0, sv ([]), .slice none 0 0], .own (.slice (some ⟨gq, 0, none⟩) (q.length) c_v14) 3 1 (q.length) (ints q), .blk b1 77 [sv ([]), .int .i64 0, .int .i64 0, .int .i64 0, .int .i64 0, sv ([]), .slice none 0 0]]
      refine Run.done ?_
      refine Run.seq ?_
      refine Run.sr ?_
      refine Run.p (.int .i64 1) rfl rfl ?_
      refine Run.p (.bool false) rfl rfl ?_
      refine Run.done ?_
      refine Run.cond (b := false) rfl (fun h => nomatch h) (fun _ => ?_)
      refine Run.skip ?_
      refine Run.sr ?_
      refine Run.y (.agg #[sv wG, .int .i64 k, .int .i64 (ix q (0)), .int .i64 0, .int .i64 0, sv ([]), .slice none 0 0]) rfl (OpY.loadN (cs := [sv wG, .int .i64 k, .int .i64 (ix q (0)), .int .i64 0, .int .i64 0, sv ([]), .slice none 0 0]) Tagg_77 rfl (Cells.blk (.head _) ⟨rfl, rfl, rfl, rfl, rfl, rfl, rfl, trivial⟩)) ?_
      refine Run.step rfl (OpStep.storeAll (us := [sv wG, .int .i64 k, .int .i64 (ix q (0)), .int .i64 0, .int .i64 0, sv ([]), .slice none 0 0]) Tsize_77 rfl rfl rfl (.there _ (.there _ (.here _))) rfl ?_)
      refine Run.p (.bool true) rfl rfl ?_
      refine Run.done ?_
      refine Run.ret ?_
      refine ⟨.tuple #[.agg #[sv wG, .int .i64 k, .int .i64 (ix q (0)), .int .i64 0, .int .i64 0, sv ([]), .slice none 0 0], .bool true], [], Out.cell2 (cs := [sv wG, .int .i64 k, .int .i64 (ix q (0)), .int .i64 0, .int .i64 0, sv ([]), .slice none 0 0]) rfl Tagg_77 rfl (Cells.blk (.tail _ (.tail _ (List.Mem.head _))) ⟨rfl, rfl, rfl, rfl, rfl, rfl, rfl, trivial⟩) rfl, (Some'.weak (.nil _)), ?_⟩
      have hcn : cntK k = 1 := by unfold cntK; split <;> (try split) <;> omega
      refine ⟨_, _, _, _, _, rfl, rfl, ?_⟩
      exact LnR.gate (lgYes hk hq han (by rw [hcn]; exact ⟨by simp_all, by omega, by omega⟩)) rfl (by first | exact (if_pos (show 0 < q.length by omega)).symm | exact (if_neg (show ¬ 0 < q.length by omega)).symm) (by first | exact (if_pos (show 1 < q.length by omega)).symm | exact (if_neg (show ¬ 1 < q.length by omega)).symm)

set_option maxHeartbeats 8000000 in
set_option maxRecDepth 20000 in
theorem l5Parse_spec {l : Bs} {i : Nat} {w : World} (hl : l.length ≤ 16777000) : Calls Tryz.prog 50 #[sv l, .bool (i == 0)] w (Post No w fun v H => ∃ c0 c1 c2 c3 c4 c5 v1 ar b, v = .tuple #[.agg #[sv c0, .int .i64 c1, .int .i64 c2, .int .i64 c3, .int .i64 c4, sv c5, v1], .bool b] ∧ H = [.own v1 3 1 ar.length (ints ar)] ∧ LnR (lnAt i l) b c0 c1 c2 c3 c4 c5 ar) := by
 obtain ⟨W, hW⟩ : ∃ W, splitC 32 l = W := ⟨_, rfl⟩
 have hW1 : 1 ≤ W.length := by rw [← hW]; exact List.length_pos_iff.2 (splitC_ne 32 l)
 have hW16 : W.length ≤ 16777216 := by rw [← hW]; have := splitC_length 32 l; omega
 have hWl : ∀ s ∈ W, s.length ≤ 281474976710656 := fun s hs => by rw [← hW] at hs; have := splitC_le s hs; omega
 refine enter (n := 127) (args := [sv l, .bool ((i == 0))]) Tryz.func50 rfl rfl (St.empty _ _) ?_
 refine Run.sr ?_
 refine Run.step rfl (OpStep.alloc (zs := [sv ([]), .int .i64 0, .int .i64 0, .int .i64 0, .int .i64 0, sv ([]), .slice none 0 0]) Tzero_77 fun b1 => ?_)
 refine Run.p (.bool false) rfl rfl ?_
 refine Run.dsr ?_
 refine Run.p (sv l) rfl rfl ?_
 refine Run.step rfl (OpStep.call (vs := [sv l, .int .u8 32]) (caps := []) Tcall_79 rfl rfl (fun w hs => (by have h := l1Split_spec (l := l) (c := 32) (w := w) (by omega); rw [hW] at h; exact h)) ?_)
 rintro wv _ rfl
 show Run _ _ (putF _ _ _ wv) [.own wv 9 1 (W.length) (strs W), .blk b1 77 [sv ([]), .int .i64 0, .int .i64 0, .int .i64 0, .int .i64 0, sv ([]), .slice none 0 0]]
 refine Run.p (wv) rfl rfl ?_
 refine Run.done ?_
 refine Run.seq ?_
 refine Run.seq ?_
 refine Run.openOwn (.head _) (by omega) (fun gw cw hvgw hcapgw _ => ?_) (fun _ _ _ => ⟨nofun, nofun, nofun⟩)
 subst hvgw
 refine Run.region ?_
 refine Run.p (.bool ((i == 0))) rfl rfl ?_
 refine Run.p (.slice (some ⟨gw, 0, none⟩) (W.length) cw) rfl rfl ?_
 refine Run.y (.pointer (some ⟨gw, 0, none⟩)) rfl (OpY.index (kk := 0) Tsl_40 rfl rfl (by omega) (by omega) (by first | rfl | omega)) ?_
 refine Run.y (sv (stx W 0)) rfl (OpY.load1 Tone_9 rfl (Cells.own0 (.head _) (preS (by omega)))) ?_
 refine Run.y (.bool ((stx W 0) == wQ)) rfl (OpY.eqS rfl rfl) ?_
 refine Run.y (.bool (((i == 0)) != ((stx W 0) == wQ))) rfl (OpY.eqBn Tbool_4 rfl rfl) ?_
 refine Run.done ?_
 refine Run.cond (b := ((i == 0)) != ((stx W 0) == wQ)) rfl (fun h16 => ?_) (fun h16 => ?_)
 ·have p16 := h16; try simp only [bs] at p16
  refine Run.sr ?_
  refine Run.y (.agg #[sv ([]), .int .i64 0, .int .i64 0, .int .i64 0, .int .i64 0, sv ([]), .slice none 0 0]) rfl (OpY.build (cs := [sv ([]), .int .i64 0, .int .i64 0, .int .i64 0, .int .i64 0, sv ([]), .slice none 0 0]) (by kernel_rfl)) ?_
  refine Run.step rfl (OpStep.storeAll (us := [sv ([]), .int .i64 0, .int .i64 0, .int .i64 0, .int .i64 0, sv ([]), .slice none 0 0]) Tsize_77 rfl rfl rfl (.there _ (.here _)) rfl ?_)
  refine Run.p (.bool false) rfl rfl ?_
  refine Run.done ?_
  refine Run.ret ?_
  refine ⟨.tuple #[.agg #[sv ([]), .int .i64 0, .int .i64 0, .int .i64 0, .int .i64 0, sv ([]), .slice none 0 0], .bool false], [.own (.slice none 0 0) 3 1 0 (ints [])], Out.cell2 (cs := [sv ([]), .int .i64 0, .int .i64 0, .int .i64 0, .int .i64 0, sv ([]), .slice none 0 0]) rfl Tagg_77 rfl (Cells.blk (.tail _ (List.Mem.head _)) ⟨rfl, rfl, rfl, rfl, rfl, rfl, rfl, trivial⟩) rfl, ((Weak.nilOwn 3 1).trans (Some'.weak (.takeEq (by first | rfl | simp [ints]) (.nil _)))), ?_⟩
  refine ⟨_, _, _, _, _, _, _, [], _, rfl, rfl, ?_⟩
  rw [lnAt_F hW]
  first | exact LnR.no (if_neg p16) | (refine lrF p16 ?_; first | exact lrQ p25 p30 p36 | exact lrQ0 p25 (.inl p30) | exact lrQ0 p25 (.inr p36) | exact lrR p42 p47 p53 p59 | exact lrR0 p42 (.inl p47) | exact lrR0 p42 (.inr (.inl p53)) | exact lrR0 p42 (.inr (.inr p59)) | exact lrD p65 p70 p76 p82 p88 | exact lrD0 p65 (.inl p70) | exact lrD0 p65 (.inr (.inl p76)) | exact lrD0 p65 (.inr (.inr (.inl p82))) | exact lrD0 p65 (.inr (.inr (.inr p88))) | exact lrC p97 p102 p107 | exact lrC0 p97 (.inl (by omega)) | exact lrC0 p97 (.inr p107) | exact lrE p120 | exact lrG _ _ _ _ _ _ hgt p25 p42 p65 p97 p120)
 ·have p16 := h16; try simp only [bs] at p16
  refine Run.skip ?_
  refine Run.seq ?_
  refine Run.sr ?_
  refine Run.p (.slice (some ⟨gw, 0, none⟩) (W.length) cw) rfl rfl ?_
  refine Run.y (.pointer (some ⟨gw, 0, none⟩)) rfl (OpY.index (kk := 0) Tsl_40 rfl rfl (by omega) (by omega) (by first | rfl | omega)) ?_
  refine Run.y (sv (stx W 0)) rfl (OpY.load1 Tone_9 rfl (Cells.own0 (.head _) (preS (by omega)))) ?_
  refine Run.done ?_
  refine Run.block ?_
  refine Run.sr ?_
  refine Run.y (.bool ((stx W 0) == wQ)) rfl (OpY.eqS rfl rfl) ?_
  refine Run.p (.bool ((stx W 0) == wQ)) rfl rfl ?_
  refine Run.done ?_
  refine Run.cond (b := (stx W 0) == wQ) rfl (fun h25 => ?_) (fun h25 => ?_)
  ·have p25 := h25; try simp only [bs] at p25
   refine Run.sr ?_
   refine Run.p (.slice (some ⟨gw, 0, none⟩) (W.length) cw) rfl rfl ?_
   refine Run.y (.int .i64 (((W.length : Nat) : Int))) rfl (OpY.len Tsl_40 rfl) ?_
   refine Run.p (.bool ((((W.length : Nat) : Int)) == 2)) rfl rfl ?_
   rcases Bool.eq_false_or_eq_true ((((W.length : Nat) : Int)) == 2) with h30 | h30
   ·refine Run.q (v := .bool true) rfl (OpQ.y (OpY.moveB rfl h30)) ?_
    have p30 := h30; try simp only [bs] at p30
    refine Run.p (.slice (some ⟨gw, 0, none⟩) (W.length) cw) rfl rfl ?_
    refine Run.y (.pointer (some ⟨gw, 1, none⟩)) rfl (OpY.index (kk := 1) Tsl_40 rfl rfl (by omega) (by omega) (by first | rfl | omega)) ?_
    refine Run.y (sv (stx W 1)) rfl (OpY.load1 Tone_9 rfl (Cells.own0 (.head _) (preS (by omega)))) ?_
    refine Run.q (v := .int .i64 (num2 (stx W 1))) rfl (OpQ.call (vs := [sv (stx W 1)]) (caps := []) Tcall_80 rfl rfl (fun w hs => l5Number_spec)) ?_
    refine Run.q (v := .bool (within (num2 (stx W 1)) 1 5)) rfl (OpQ.call (vs := [.int .i64 (num2 (stx W 1)), .int .i64 1, .int .i64 5]) (caps := []) Tcall_68 rfl rfl (fun w hs => l1In_spec _ _ _ w)) ?_
    refine Run.p (.bool (within (num2 (stx W 1)) 1 5)) rfl rfl ?_
    refine Run.done ?_
    refine Run.cond (b := within (num2 (stx W 1)) 1 5) rfl (fun h36 => ?_) (fun h36 => ?_)
    ·have p36 := h36; try simp only [bs] at p36
     refine Run.sr ?_
     refine Run.p (.slice (some ⟨gw, 0, none⟩) (W.length) cw) rfl rfl ?_
     refine Run.y (.pointer (some ⟨gw, 1, none⟩)) rfl (OpY.index (kk := 1) Tsl_40 rfl rfl (by omega) (by omega) (by first | rfl | omega)) ?_
     refine Run.y (sv (stx W 1)) rfl (OpY.load1 Tone_9 rfl (Cells.own0 (.head _) (preS (by omega)))) ?_
     refine Run.q (v := .int .i64 (num2 (stx W 1))) rfl (OpQ.call (vs := [sv (stx W 1)]) (caps := []) Tcall_80 rfl rfl (fun w hs => l5Number_spec)) ?_
     refine Run.y (.agg #[sv wQ, .int .i64 0, .int .i64 0, .int .i64 0, .int .i64 (num2 (stx W 1)), sv ([]), .slice none 0 0]) rfl (OpY.build (cs := [sv wQ, .int .i64 0, .int .i64 0, .int .i64 0, .int .i64 (num2 (stx W 1)), sv ([]), .slice none 0 0]) (by kernel_rfl)) ?_
     refine Run.step rfl (OpStep.storeAll (us := [sv wQ, .int .i64 0, .int .i64 0, .int .i64 0, .int .i64 (num2 (stx W 1)), sv ([]), .slice none 0 0]) Tsize_77 rfl rfl rfl (.there _ (.here _)) rfl ?_)
     refine Run.p (.bool true) rfl rfl ?_
     refine Run.done ?_
     refine Run.ret ?_
     refine ⟨.tuple #[.agg #[sv wQ, .int .i64 0, .int .i64 0, .int .i64 0, .int .i64 (num2 (stx W 1)), sv ([]), .slice none 0 0], .bool true], [.own (.slice none 0 0) 3 1 0 (ints [])], Out.cell2 (cs := [sv wQ, .int .i64 0, .int .i64 0, .int .i64 0, .int .i64 (num2 (stx W 1)), sv ([]), .slice none 0 0]) rfl Tagg_77 rfl (Cells.blk (.tail _ (List.Mem.head _)) ⟨rfl, rfl, rfl, rfl, rfl, rfl, rfl, trivial⟩) rfl, ((Weak.nilOwn 3 1).trans (Some'.weak (.takeEq (by first | rfl | simp [ints]) (.nil _)))), ?_⟩
     refine ⟨_, _, _, _, _, _, _, [], _, rfl, rfl, ?_⟩
     rw [lnAt_F hW]
     first | exact LnR.no (if_neg p16) | (refine lrF p16 ?_; first | exact lrQ p25 p30 p36 | exact lrQ0 p25 (.inl p30) | exact lrQ0 p25 (.inr p36) | exact lrR p42 p47 p53 p59 | exact lrR0 p42 (.inl p47) | exact lrR0 p42 (.inr (.inl p53)) | exact lrR0 p42 (.inr (.inr p59)) | exact lrD p65 p70 p76 p82 p88 | exact lrD0 p65 (.inl p70) | exact lrD0 p65 (.inr (.inl p76)) | exact lrD0 p65 (.inr (.inr (.inl p82))) | exact lrD0 p65 (.inr (.inr (.inr p88))) | exact lrC p97 p102 p107 | exact lrC0 p97 (.inl (by omega)) | exact lrC0 p97 (.inr p107) | exact lrE p120 | exact lrG _ _ _ _ _ _ hgt p25 p42 p65 p97 p120)
    ·have p36 := h36; try simp only [bs] at p36
     refine Run.skip ?_
     refine Run.blockEnd ?_
     refine Run.sr ?_
     refine Run.y (.agg #[sv ([]), .int .i64 0, .int .i64 0, .int .i64 0, .int .i64 0, sv ([]), .slice none 0 0]) rfl (OpY.build (cs := [sv ([]), .int .i64 0, .int .i64 0, .int .i64 0, .int .i64 0, sv ([]), .slice none 0 0]) (by kernel_rfl)) ?_
     refine Run.step rfl (OpStep.storeAll (us := [sv ([]), .int .i64 0, .int .i64 0, .int .i64 0, .int .i64 0, sv ([]), .slice none 0 0]) Tsize_77 rfl rfl rfl (.there _ (.here _)) rfl ?_)
     refine Run.p (.bool false) rfl rfl ?_
     refine Run.done ?_
     refine Run.ret ?_
     refine ⟨.tuple #[.agg #[sv ([]), .int .i64 0, .int .i64 0, .int .i64 0, .int .i64 0, sv ([]), .slice none 0 0], .bool false], [.own (.slice none 0 0) 3 1 0 (ints [])], Out.cell2 (cs := [sv ([]), .int .i64 0, .int .i64 0, .int .i64 0, .int .i64 0, sv ([]), .slice none 0 0]) rfl Tagg_77 rfl (Cells.blk (.tail _ (List.Mem.head _)) ⟨rfl, rfl, rfl, rfl, rfl, rfl, rfl, trivial⟩) rfl, ((Weak.nilOwn 3 1).trans (Some'.weak (.takeEq (by first | rfl | simp [ints]) (.nil _)))), ?_⟩
     refine ⟨_, _, _, _, _, _, _, [], _, rfl, rfl, ?_⟩
     rw [lnAt_F hW]
     first | exact LnR.no (if_neg p16) | (refine lrF p16 ?_; first | exact lrQ p25 p30 p36 | exact lrQ0 p25 (.inl p30) | exact lrQ0 p25 (.inr p36) | exact lrR p42 p47 p53 p59 | exact lrR0 p42 (.inl p47) | exact lrR0 p42 (.inr (.inl p53)) | exact lrR0 p42 (.inr (.inr p59)) | exact lrD p65 p70 p76 p82 p88 | exact lrD0 p65 (.inl p70) | exact lrD0 p65 (.inr (.inl p76)) | exact lrD0 p65 (.inr (.inr (.inl p82))) | exact lrD0 p65 (.inr (.inr (.inr p88))) | exact lrC p97 p102 p107 | exact lrC0 p97 (.inl (by omega)) | exact lrC0 p97 (.inr p107) | exact lrE p120 | exact lrG _ _ _ _ _ _ hgt p25 p42 p65 p97 p120)
   ·refine Run.q (v := .bool false) rfl (OpQ.y (OpY.moveB rfl h30)) ?_
    have p30 := h30; try simp only [bs] at p30
    refine Run.pass rfl ?_
    refine Run.pass rfl ?_
    refine Run.pass rfl ?_
    refine Run.pass rfl ?_
    refine Run.pass rfl ?_
    refine Run.p (.bool false) rfl rfl ?_
    refine Run.done ?_
    refine Run.cond (b := false) rfl (fun h => nomatch h) (fun _ => ?_)
    refine Run.skip ?_
    refine Run.blockEnd ?_
    refine Run.sr ?_
    refine Run.y (.agg #[sv ([]), .int .i64 0, .int .i64 0, .int .i64 0, .int .i64 0, sv ([]), .slice none 0 0]) rfl (OpY.build (cs := [sv ([]), .int .i64 0, .int .i64 0, .int .i64 0, .int .i64 0, sv ([]), .slice none 0 0]) (by kernel_rfl)) ?_
    refine Run.step rfl (OpStep.storeAll (us := [sv ([]), .int .i64 0, .int .i64 0, .int .i64 0, .int .i64 0, sv ([]), .slice none 0 0]) Tsize_77 rfl rfl rfl (.there _ (.here _)) rfl ?_)
    refine Run.p (.bool false) rfl rfl ?_
    refine Run.done ?_
    refine Run.ret ?_
    refine ⟨.tuple #[.agg #[sv ([]), .int .i64 0, .int .i64 0, .int .i64 0, .int .i64 0, sv ([]), .slice none 0 0], .bool false], [.own (.slice none 0 0) 3 1 0 (ints [])], Out.cell2 (cs := [sv ([]), .int .i64 0, .int .i64 0, .int .i64 0, .int .i64 0, sv ([]), .slice none 0 0]) rfl Tagg_77 rfl (Cells.blk (.tail _ (List.Mem.head _)) ⟨rfl, rfl, rfl, rfl, rfl, rfl, rfl, trivial⟩) rfl, ((Weak.nilOwn 3 1).trans (Some'.weak (.takeEq (by first | rfl | simp [ints]) (.nil _)))), ?_⟩
    refine ⟨_, _, _, _, _, _, _, [], _, rfl, rfl, ?_⟩
    rw [lnAt_F hW]
    first | exact LnR.no (if_neg p16) | (refine lrF p16 ?_; first | exact lrQ p25 p30 p36 | exact lrQ0 p25 (.inl p30) | exact lrQ0 p25 (.inr p36) | exact lrR p42 p47 p53 p59 | exact lrR0 p42 (.inl p47) | exact lrR0 p42 (.inr (.inl p53)) | exact lrR0 p42 (.inr (.inr p59)) | exact lrD p65 p70 p76 p82 p88 | exact lrD0 p65 (.inl p70) | exact lrD0 p65 (.inr (.inl p76)) | exact lrD0 p65 (.inr (.inr (.inl p82))) | exact lrD0 p65 (.inr (.inr (.inr p88))) | exact lrC p97 p102 p107 | exact lrC0 p97 (.inl (by omega)) | exact lrC0 p97 (.inr p107) | exact lrE p120 | exact lrG _ _ _ _ _ _ hgt p25 p42 p65 p97 p120)
  ·have p25 := h25; try simp only [bs] at p25
   refine Run.sr ?_
   refine Run.y (.bool ((stx W 0) == wR)) rfl (OpY.eqS rfl rfl) ?_
   refine Run.p (.bool ((stx W 0) == wR)) rfl rfl ?_
   refine Run.done ?_
   refine Run.cond (b := (stx W 0) == wR) rfl (fun h42 => ?_) (fun h42 => ?_)
   ·have p42 := h42; try simp only [bs] at p42
    refine Run.sr ?_
    refine Run.p (.slice (some ⟨gw, 0, none⟩) (W.length) cw) rfl rfl ?_
    refine Run.y (.int .i64 (((W.length : Nat) : Int))) rfl (OpY.len Tsl_40 rfl) ?_
    refine Run.p (.bool ((((W.length : Nat) : Int)) == 3)) rfl rfl ?_
    rcases Bool.eq_false_or_eq_true ((((W.length : Nat) : Int)) == 3) with h47 | h47
    ·refine Run.q (v := .bool true) rfl (OpQ.y (OpY.moveB rfl h47)) ?_
     have p47 := h47; try simp only [bs] at p47
     refine Run.p (.slice (some ⟨gw, 0, none⟩) (W.length) cw) rfl rfl ?_
     refine Run.y (.pointer (some ⟨gw, 2, none⟩)) rfl (OpY.index (kk := 2) Tsl_40 rfl rfl (by omega) (by omega) (by first | rfl | omega)) ?_
     refine Run.y (sv (stx W 2)) rfl (OpY.load1 Tone_9 rfl (Cells.own0 (.head _) (preS (by omega)))) ?_
     refine Run.y (.bool ((stx W 2) == wO)) rfl (OpY.eqS rfl rfl) ?_
     refine Run.p (.bool ((stx W 2) == wO)) rfl rfl ?_
     rcases Bool.eq_false_or_eq_true ((stx W 2) == wO) with h53 | h53
     ·refine Run.q (v := .bool true) rfl (OpQ.y (OpY.moveB rfl h53)) ?_
      have p53 := h53; try simp only [bs] at p53
      refine Run.p (.slice (some ⟨gw, 0, none⟩) (W.length) cw) rfl rfl ?_
      refine Run.y (.pointer (some ⟨gw, 1, none⟩)) rfl (OpY.index (kk := 1) Tsl_40 rfl rfl (by omega) (by omega) (by first | rfl | omega)) ?_
      refine Run.y (sv (stx W 1)) rfl (OpY.load1 Tone_9 rfl (Cells.own0 (.head _) (preS (by omega)))) ?_
      refine Run.q (v := .int .i64 (num2 (stx W 1))) rfl (OpQ.call (vs := [sv (stx W 1)]) (caps := []) Tcall_80 rfl rfl (fun w hs => l5Number_spec)) ?_
      refine Run.q (v := .bool (within (num2 (stx W 1)) 2 99)) rfl (OpQ.call (vs := [.int .i64 (num2 (stx W 1)), .int .i64 2, .int .i64 99]) (caps := []) Tcall_68 rfl rfl (fun w hs => l1In_spec _ _ _ w)) ?_
      refine Run.p (.bool (within (num2 (stx W 1)) 2 99)) rfl rfl ?_
      refine Run.done ?_
      refine Run.cond (b := within (num2 (stx W 1)) 2 99) rfl (fun h59 => ?_) (fun h59 => ?_)
      ·have p59 := h59; try simp only [bs] at p59
       refine Run.sr ?_
       refine Run.p (.slice (some ⟨gw, 0, none⟩) (W.length) cw) rfl rfl ?_
       refine Run.y (.pointer (some ⟨gw, 1, none⟩)) rfl (OpY.index (kk := 1) Tsl_40 rfl rfl (by omega) (by omega) (by first | rfl | omega)) ?_
       refine Run.y (sv (stx W 1)) rfl (OpY.load1 Tone_9 rfl (Cells.own0 (.head _) (preS (by omega)))) ?_
       refine Run.q (v := .int .i64 (num2 (stx W 1))) rfl (OpQ.call (vs := [sv (stx W 1)]) (caps := []) Tcall_80 rfl rfl (fun w hs => l5Number_spec)) ?_
       refine Run.y (.agg #[sv wR, .int .i64 0, .int .i64 0, .int .i64 0, .int .i64 (num2 (stx W 1)), sv ([]), .slice none 0 0]) rfl (OpY.build (cs := [sv wR, .int .i64 0, .int .i64 0, .int .i64 0, .int .i64 (num2 (stx W 1)), sv ([]), .slice none 0 0]) (by kernel_rfl)) ?_
       refine Run.step rfl (OpStep.storeAll (us := [sv wR, .int .i64 0, .int .i64 0, .int .i64 0, .int .i64 (num2 (stx W 1)), sv ([]), .slice none 0 0]) Tsize_77 rfl rfl rfl (.there _ (.here _)) rfl ?_)
       refine Run.p (.bool true) rfl rfl ?_
       refine Run.done ?_
       refine Run.ret ?_
       refine ⟨.tuple #[.agg #[sv wR, .int .i64 0, .int .i64 0, .int .i64 0, .int .i64 (num2 (stx W 1)), sv ([]), .slice none 0 0], .bool true], [.own (.slice none 0 0) 3 1 0 (ints [])], Out.cell2 (cs := [sv wR, .int .i64 0, .int .i64 0, .int .i64 0, .int .i64 (num2 (stx W 1)), sv ([]), .slice none 0 0]) rfl Tagg_77 rfl (Cells.blk (.tail _ (List.Mem.head _)) ⟨rfl, rfl, rfl, rfl, rfl, rfl, rfl, trivial⟩) rfl, ((Weak.nilOwn 3 1).trans (Some'.weak (.takeEq (by first | rfl | simp [ints]) (.nil _)))), ?_⟩
       refine ⟨_, _, _, _, _, _, _, [], _, rfl, rfl, ?_⟩
       rw [lnAt_F hW]
       first | exact LnR.no (if_neg p16) | (refine lrF p16 ?_; first | exact lrQ p25 p30 p36 | exact lrQ0 p25 (.inl p30) | exact lrQ0 p25 (.inr p36) | exact lrR p42 p47 p53 p59 | exact lrR0 p42 (.inl p47) | exact lrR0 p42 (.inr (.inl p53)) | exact lrR0 p42 (.inr (.inr p59)) | exact lrD p65 p70 p76 p82 p88 | exact lrD0 p65 (.inl p70) | exact lrD0 p65 (.inr (.inl p76)) | exact lrD0 p65 (.inr (.inr (.inl p82))) | exact lrD0 p65 (.inr (.inr (.inr p88))) | exact lrC p97 p102 p107 | exact lrC0 p97 (.inl (by omega)) | exact lrC0 p97 (.inr p107) | exact lrE p120 | exact lrG _ _ _ _ _ _ hgt p25 p42 p65 p97 p120)
      ·have p59 := h59; try simp only [bs] at p59
       refine Run.skip ?_
       refine Run.blockEnd ?_
       refine Run.sr ?_
       refine Run.y (.agg #[sv ([]), .int .i64 0, .int .i64 0, .int .i64 0, .int .i64 0, sv ([]), .slice none 0 0]) rfl (OpY.build (cs := [sv ([]), .int .i64 0, .int .i64 0, .int .i64 0, .int .i64 0, sv ([]), .slice none 0 0]) (by kernel_rfl)) ?_
       refine Run.step rfl (OpStep.storeAll (us := [sv ([]), .int .i64 0, .int .i64 0, .int .i64 0, .int .i64 0, sv ([]), .slice none 0 0]) Tsize_77 rfl rfl rfl (.there _ (.here _)) rfl ?_)
       refine Run.p (.bool false) rfl rfl ?_
       refine Run.done ?_
       refine Run.ret ?_
       refine ⟨.tuple #[.agg #[sv ([]), .int .i64 0, .int .i64 0, .int .i64 0, .int .i64 0, sv ([]), .slice none 0 0], .bool false], [.own (.slice none 0 0) 3 1 0 (ints [])], Out.cell2 (cs := [sv ([]), .int .i64 0, .int .i64 0, .int .i64 0, .int .i64 0, sv ([]), .slice none 0 0]) rfl Tagg_77 rfl (Cells.blk (.tail _ (List.Mem.head _)) ⟨rfl, rfl, rfl, rfl, rfl, rfl, rfl, trivial⟩) rfl, ((Weak.nilOwn 3 1).trans (Some'.weak (.takeEq (by first | rfl | simp [ints]) (.nil _)))), ?_⟩
       refine ⟨_, _, _, _, _, _, _, [], _, rfl, rfl, ?_⟩
       rw [lnAt_F hW]
       first | exact LnR.no (if_neg p16) | (refine lrF p16 ?_; first | exact lrQ p25 p30 p36 | exact lrQ0 p25 (.inl p30) | exact lrQ0 p25 (.inr p36) | exact lrR p42 p47 p53 p59 | exact lrR0 p42 (.inl p47) | exact lrR0 p42 (.inr (.inl p53)) | exact lrR0 p42 (.inr (.inr p59)) | exact lrD p65 p70 p76 p82 p88 | exact lrD0 p65 (.inl p70) | exact lrD0 p65 (.inr (.inl p76)) | exact lrD0 p65 (.inr (.inr (.inl p82))) | exact lrD0 p65 (.inr (.inr (.inr p88))) | exact lrC p97 p102 p107 | exact lrC0 p97 (.inl (by omega)) | exact lrC0 p97 (.inr p107) | exact lrE p120 | exact lrG _ _ _ _ _ _ hgt p25 p42 p65 p97 p120)
     ·refine Run.q (v := .bool false) rfl (OpQ.y (OpY.moveB rfl h53)) ?_
      have p53 := h53; try simp only [bs] at p53
      refine Run.pass rfl ?_
      refine Run.pass rfl ?_
      refine Run.pass rfl ?_
      refine Run.pass rfl ?_
      refine Run.pass rfl ?_
      refine Run.p (.bool false) rfl rfl ?_
      refine Run.done ?_
      refine Run.cond (b := false) rfl (fun h => nomatch h) (fun _ => ?_)
      refine Run.skip ?_
      refine Run.blockEnd ?_
      refine Run.sr ?_
      refine Run.y (.agg #[sv ([]), .int .i64 0, .int .i64 0, .int .i64 0, .int .i64 0, sv ([]), .slice none 0 0]) rfl (OpY.build (cs := [sv ([]), .int .i64 0, .int .i64 0, .int .i64 0, .int .i64 0, sv ([]), .slice none 0 0]) (by kernel_rfl)) ?_
      refine Run.step rfl (OpStep.storeAll (us := [sv ([]), .int .i64 0, .int .i64 0, .int .i64 0, .int .i64 0, sv ([]), .slice none 0 0]) Tsize_77 rfl rfl rfl (.there _ (.here _)) rfl ?_)
      refine Run.p (.bool false) rfl rfl ?_
      refine Run.done ?_
      refine Run.ret ?_
      refine ⟨.tuple #[.agg #[sv ([]), .int .i64 0, .int .i64 0, .int .i64 0, .int .i64 0, sv ([]), .slice none 0 0], .bool false], [.own (.slice none 0 0) 3 1 0 (ints [])], Out.cell2 (cs := [sv ([]), .int .i64 0, .int .i64 0, .int .i64 0, .int .i64 0, sv ([]), .slice none 0 0]) rfl Tagg_77 rfl (Cells.blk (.tail _ (List.Mem.head _)) ⟨rfl, rfl, rfl, rfl, rfl, rfl, rfl, trivial⟩) rfl, ((Weak.nilOwn 3 1).trans (Some'.weak (.takeEq (by first | rfl | simp [ints]) (.nil _)))), ?_⟩
      refine ⟨_, _, _, _, _, _, _, [], _, rfl, rfl, ?_⟩
      rw [lnAt_F hW]
      first | exact LnR.no (if_neg p16) | (refine lrF p16 ?_; first | exact lrQ p25 p30 p36 | exact lrQ0 p25 (.inl p30) | exact lrQ0 p25 (.inr p36) | exact lrR p42 p47 p53 p59 | exact lrR0 p42 (.inl p47) | exact lrR0 p42 (.inr (.inl p53)) | exact lrR0 p42 (.inr (.inr p59)) | exact lrD p65 p70 p76 p82 p88 | exact lrD0 p65 (.inl p70) | exact lrD0 p65 (.inr (.inl p76)) | exact lrD0 p65 (.inr (.inr (.inl p82))) | exact lrD0 p65 (.inr (.inr (.inr p88))) | exact lrC p97 p102 p107 | exact lrC0 p97 (.inl (by omega)) | exact lrC0 p97 (.inr p107) | exact lrE p120 | exact lrG _ _ _ _ _ _ hgt p25 p42 p65 p97 p120)
    ·refine Run.q (v := .bool false) rfl (OpQ.y (OpY.moveB rfl h47)) ?_
     have p47 := h47; try simp only [bs] at p47
     refine Run.pass rfl ?_
     refine Run.pass rfl ?_
     refine Run.pass rfl ?_
     refine Run.pass rfl ?_
     refine Run.p (.bool false) rfl rfl ?_
     refine Run.p (.bool false) rfl rfl ?_
     refine Run.pass rfl ?_
     refine Run.pass rfl ?_
     refine Run.pass rfl ?_
     refine Run.pass rfl ?_
     refine Run.pass rfl ?_
     refine Run.p (.bool false) rfl rfl ?_
     refine Run.done ?_
     refine Run.cond (b := false) rfl (fun h => nomatch h) (fun _ => ?_)
     refine Run.skip ?_
     refine Run.blockEnd ?_
     refine Run.sr ?_
     refine Run.y (.agg #[sv ([]), .int .i64 0, .int .i64 0, .int .i64 0, .int .i64 0, sv ([]), .slice none 0 0]) rfl (OpY.build (cs := [sv ([]), .int .i64 0, .int .i64 0, .int .i64 0, .int .i64 0, sv ([]), .slice none 0 0]) (by kernel_rfl)) ?_
     refine Run.step rfl (OpStep.storeAll (us := [sv ([]), .int .i64 0, .int .i64 0, .int .i64 0, .int .i64 0, sv ([]), .slice none 0 0]) Tsize_77 rfl rfl rfl (.there _ (.here _)) rfl ?_)
     refine Run.p (.bool false) rfl rfl ?_
     refine Run.done ?_
     refine Run.ret ?_
     refine ⟨.tuple #[.agg #[sv ([]), .int .i64 0, .int .i64 0, .int .i64 0, .int .i64 0, sv ([]), .slice none 0 0], .bool false], [.own (.slice none 0 0) 3 1 0 (ints [])], Out.cell2 (cs := [sv ([]), .int .i64 0, .int .i64 0, .int .i64 0, .int .i64 0, sv ([]), .slice none 0 0]) rfl Tagg_77 rfl (Cells.blk (.tail _ (List.Mem.head _)) ⟨rfl, rfl, rfl, rfl, rfl, rfl, rfl, trivial⟩) rfl, ((Weak.nilOwn 3 1).trans (Some'.weak (.takeEq (by first | rfl | simp [ints]) (.nil _)))), ?_⟩
     refine ⟨_, _, _, _, _, _, _, [], _, rfl, rfl, ?_⟩
     rw [lnAt_F hW]
     first | exact LnR.no (if_neg p16) | (refine lrF p16 ?_; first | exact lrQ p25 p30 p36 | exact lrQ0 p25 (.inl p30) | exact lrQ0 p25 (.inr p36) | exact lrR p42 p47 p53 p59 | exact lrR0 p42 (.inl p47) | exact lrR0 p42 (.inr (.inl p53)) | exact lrR0 p42 (.inr (.inr p59)) | exact lrD p65 p70 p76 p82 p88 | exact lrD0 p65 (.inl p70) | exact lrD0 p65 (.inr (.inl p76)) | exact lrD0 p65 (.inr (.inr (.inl p82))) | exact lrD0 p65 (.inr (.inr (.inr p88))) | exact lrC p97 p102 p107 | exact lrC0 p97 (.inl (by omega)) | exact lrC0 p97 (.inr p107) | exact lrE p120 | exact lrG _ _ _ _ _ _ hgt p25 p42 p65 p97 p120)
   ·have p42 := h42; try simp only [bs] at p42
    refine Run.sr ?_
    refine Run.y (.bool ((stx W 0) == wD)) rfl (OpY.eqS rfl rfl) ?_
    refine Run.p (.bool ((stx W 0) == wD)) rfl rfl ?_
    refine Run.done ?_
    refine Run.cond (b := (stx W 0) == wD) rfl (fun h65 => ?_) (fun h65 => ?_)
    ·have p65 := h65; try simp only [bs] at p65
     refine Run.sr ?_
     refine Run.p (.slice (some ⟨gw, 0, none⟩) (W.length) cw) rfl rfl ?_
     refine Run.y (.int .i64 (((W.length : Nat) : Int))) rfl (OpY.len Tsl_40 rfl) ?_
     refine Run.p (.bool ((((W.length : Nat) : Int)) == 4)) rfl rfl ?_
     rcases Bool.eq_false_or_eq_true ((((W.length : Nat) : Int)) == 4) with h70 | h70
     ·refine Run.q (v := .bool true) rfl (OpQ.y (OpY.moveB rfl h70)) ?_
      have p70 := h70; try simp only [bs] at p70
      refine Run.p (.slice (some ⟨gw, 0, none⟩) (W.length) cw) rfl rfl ?_
      refine Run.y (.pointer (some ⟨gw, 3, none⟩)) rfl (OpY.index (kk := 3) Tsl_40 rfl rfl (by omega) (by omega) (by first | rfl | omega)) ?_
      refine Run.y (sv (stx W 3)) rfl (OpY.load1 Tone_9 rfl (Cells.own0 (.head _) (preS (by omega)))) ?_
      refine Run.y (.bool ((stx W 3) == wO)) rfl (OpY.eqS rfl rfl) ?_
      refine Run.p (.bool ((stx W 3) == wO)) rfl rfl ?_
      rcases Bool.eq_false_or_eq_true ((stx W 3) == wO) with h76 | h76
      ·refine Run.q (v := .bool true) rfl (OpQ.y (OpY.moveB rfl h76)) ?_
       have p76 := h76; try simp only [bs] at p76
       refine Run.p (.slice (some ⟨gw, 0, none⟩) (W.length) cw) rfl rfl ?_
       refine Run.y (.pointer (some ⟨gw, 1, none⟩)) rfl (OpY.index (kk := 1) Tsl_40 rfl rfl (by omega) (by omega) (by first | rfl | omega)) ?_
       refine Run.y (sv (stx W 1)) rfl (OpY.load1 Tone_9 rfl (Cells.own0 (.head _) (preS (by omega)))) ?_
       refine Run.q (v := .bool (nameB (stx W 1))) rfl (OpQ.call (vs := [sv (stx W 1)]) (caps := []) Tcall_81 rfl rfl (fun w hs => l5Name_spec (by have := stx_len hWl 1; omega) w)) ?_
       refine Run.p (.bool (nameB (stx W 1))) rfl rfl ?_
       rcases Bool.eq_false_or_eq_true (nameB (stx W 1)) with h82 | h82
       ·refine Run.q (v := .bool true) rfl (OpQ.y (OpY.moveB rfl h82)) ?_
        have p82 := h82; try simp only [bs] at p82
        refine Run.p (.slice (some ⟨gw, 0, none⟩) (W.length) cw) rfl rfl ?_
        refine Run.y (.pointer (some ⟨gw, 2, none⟩)) rfl (OpY.index (kk := 2) Tsl_40 rfl rfl (by omega) (by omega) (by first | rfl | omega)) ?_
        refine Run.y (sv (stx W 2)) rfl (OpY.load1 Tone_9 rfl (Cells.own0 (.head _) (preS (by omega)))) ?_
        refine Run.q (v := .int .i64 (num2 (stx W 2))) rfl (OpQ.call (vs := [sv (stx W 2)]) (caps := []) Tcall_80 rfl rfl (fun w hs => l5Number_spec)) ?_
        refine Run.q (v := .bool (within (num2 (stx W 2)) 1 5)) rfl (OpQ.call (vs := [.int .i64 (num2 (stx W 2)), .int .i64 1, .int .i64 5]) (caps := []) Tcall_68 rfl rfl (fun w hs => l1In_spec _ _ _ w)) ?_
        refine Run.p (.bool (within (num2 (stx W 2)) 1 5)) rfl rfl ?_
        refine Run.done ?_
        refine Run.cond (b := within (num2 (stx W 2)) 1 5) rfl (fun h88 => ?_) (fun h88 => ?_)
        ·have p88 := h88; try simp only [bs] at p88
         refine Run.seq ?_
         refine Run.heldB (base := [.own (.slice (some ⟨gw, 0, none⟩) (W.length) cw) 9 1 (W.length) (strs W)]) (by kernel_rfl) ?_
         refine DW.take (i := 0) (v := .slice (some ⟨gw, 0, none⟩) (W.length) cw) rfl (by kernel_rfl) (by kernel_rfl) (by kernel_rfl) (fun _ _ _ h => h) (Some'.weak (.take (.nil _))) rfl (OpY.pure rfl) ?_
         refine DW.take (i := 1) (v := .pointer (some ⟨gw, 1, none⟩)) rfl (by kernel_rfl) (by kernel_rfl) (by kernel_rfl) (fun _ _ _ h => h) (Some'.weak (.take (.nil _))) rfl (OpY.index (kk := 1) Tsl_40 rfl rfl (by omega) (by omega) (by first | rfl | omega)) ?_
         refine DW.take (i := 2) (v := sv (stx W 1)) rfl (by kernel_rfl) (by kernel_rfl) (by kernel_rfl) (fun _ _ _ h => h) (Some'.weak (.take (.nil _))) rfl (OpY.load1 Tone_9 rfl (Cells.own0 (.head _) (preS (by omega)))) ?_
         refine DW.take (i := 3) (v := .slice (some ⟨gw, 0, none⟩) (W.length) cw) rfl (by kernel_rfl) (by kernel_rfl) (by kernel_rfl) (fun _ _ _ h => h) (Some'.weak (.take (.nil _))) rfl (OpY.pure rfl) ?_
         refine DW.take (i := 4) (v := .pointer (some ⟨gw, 2, none⟩)) rfl (by kernel_rfl) (by kernel_rfl) (by kernel_rfl) (fun _ _ _ h => h) (Some'.weak (.take (.nil _))) rfl (OpY.index (kk := 2) Tsl_40 rfl rfl (by omega) (by omega) (by first | rfl | omega)) ?_
         refine DW.take (i := 5) (v := sv (stx W 2)) rfl (by kernel_rfl) (by kernel_rfl) (by kernel_rfl) (fun _ _ _ h => h) (Some'.weak (.take (.nil _))) rfl (OpY.load1 Tone_9 rfl (Cells.own0 (.head _) (preS (by omega)))) ?_
         refine DW.step (i := 6) (by kernel_rfl) rfl rfl (OpStep.q (v := .int .i64 (num2 (stx W 2))) (OpQ.call (vs := [sv (stx W 2)]) (caps := []) Tcall_80 rfl rfl (fun w hs => l5Number_spec)) ?_)
         refine ⟨(Some'.weak (.take (.nil _))), ?_⟩
         refine DW.take (i := 7) (v := .agg #[sv wD, .int .i64 0, .int .i64 0, .int .i64 0, .int .i64 (num2 (stx W 2)), sv (stx W 1), .slice none 0 0]) rfl (by kernel_rfl) (by kernel_rfl) (by kernel_rfl) (fun _ _ _ h => h) (Some'.weak (.take (.nil _))) rfl (OpY.build (cs := [sv wD, .int .i64 0, .int .i64 0, .int .i64 0, .int .i64 (num2 (stx W 2)), sv (stx W 1), .slice none 0 0]) (by kernel_rfl)) ?_
         refine DW.step (i := 8) (by kernel_rfl) rfl rfl (OpStep.storeAll (us := [sv wD, .int .i64 0, .int .i64 0, .int .i64 0, .int .i64 (num2 (stx W 2)), sv (stx W 1), .slice none 0 0]) Tsize_77 rfl rfl rfl (.there _ (.here _)) rfl ?_)
         refine ⟨(Some'.weak (.take (.nil _))), ?_⟩
         refine DW.take (i := 9) (v := .bool true) rfl (by kernel_rfl) (by kernel_rfl) (by kernel_rfl) (fun _ _ _ h => h) (Some'.weak (.take (.nil _))) rfl (OpY.pure rfl) ?_
         refine DW.done (by kernel_rfl) ?_
         refine Run.ret ?_
         refine ⟨.tuple #[.agg #[sv wD, .int .i64 0, .int .i64 0, .int .i64 0, .int .i64 (num2 (stx W 2)), sv (stx W 1), .slice none 0 0], .bool true], [.own (.slice none 0 0) 3 1 0 (ints [])], Out.cell2 (cs := [sv wD, .int .i64 0, .int .i64 0, .int .i64 0, .int .i64 (num2 (stx W 2)), sv (stx W 1), .slice none 0 0]) rfl Tagg_77 rfl (Cells.blk (.tail _ (List.Mem.head _)) ⟨rfl, rfl, rfl, rfl, rfl, rfl, rfl, trivial⟩) rfl, ((Weak.nilOwn 3 1).trans (Some'.weak (.takeEq (by first | rfl | simp [ints]) (.nil _)))), ?_⟩
         refine ⟨_, _, _, _, _, _, _, [], _, rfl, rfl, ?_⟩
         rw [lnAt_F hW]
         first | exact LnR.no (if_neg p16) | (refine lrF p16 ?_; first | exact lrQ p25 p30 p36 | exact lrQ0 p25 (.inl p30) | exact lrQ0 p25 (.inr p36) | exact lrR p42 p47 p53 p59 | exact lrR0 p42 (.inl p47) | exact lrR0 p42 (.inr (.inl p53)) | exact lrR0 p42 (.inr (.inr p59)) | exact lrD p65 p70 p76 p82 p88 | exact lrD0 p65 (.inl p70) | exact lrD0 p65 (.inr (.inl p76)) | exact lrD0 p65 (.inr (.inr (.inl p82))) | exact lrD0 p65 (.inr (.inr (.inr p88))) | exact lrC p97 p102 p107 | exact lrC0 p97 (.inl (by omega)) | exact lrC0 p97 (.inr p107) | exact lrE p120 | exact lrG _ _ _ _ _ _ hgt p25 p42 p65 p97 p120)
        ·have p88 := h88; try simp only [bs] at p88
         refine Run.skip ?_
         refine Run.blockEnd ?_
         refine Run.sr ?_
         refine Run.y (.agg #[sv ([]), .int .i64 0, .int .i64 0, .int .i64 0, .int .i64 0, sv ([]), .slice none 0 0]) rfl (OpY.build (cs := [sv ([]), .int .i64 0, .int .i64 0, .int .i64 0, .int .i64 0, sv ([]), .slice none 0 0]) (by kernel_rfl)) ?_
         refine Run.step rfl (OpStep.storeAll (us := [sv ([]), .int .i64 0, .int .i64 0, .int .i64 0, .int .i64 0, sv ([]), .slice none 0 0]) Tsize_77 rfl rfl rfl (.there _ (.here _)) rfl ?_)
         refine Run.p (.bool false) rfl rfl ?_
         refine Run.done ?_
         refine Run.ret ?_
         refine ⟨.tuple #[.agg #[sv ([]), .int .i64 0, .int .i64 0, .int .i64 0, .int .i64 0, sv ([]), .slice none 0 0], .bool false], [.own (.slice none 0 0) 3 1 0 (ints [])], Out.cell2 (cs := [sv ([]), .int .i64 0, .int .i64 0, .int .i64 0, .int .i64 0, sv ([]), .slice none 0 0]) rfl Tagg_77 rfl (Cells.blk (.tail _ (List.Mem.head _)) ⟨rfl, rfl, rfl, rfl, rfl, rfl, rfl, trivial⟩) rfl, ((Weak.nilOwn 3 1).trans (Some'.weak (.takeEq (by first | rfl | simp [ints]) (.nil _)))), ?_⟩
         refine ⟨_, _, _, _, _, _, _, [], _, rfl, rfl, ?_⟩
         rw [lnAt_F hW]
         first | exact LnR.no (if_neg p16) | (refine lrF p16 ?_; first | exact lrQ p25 p30 p36 | exact lrQ0 p25 (.inl p30) | exact lrQ0 p25 (.inr p36) | exact lrR p42 p47 p53 p59 | exact lrR0 p42 (.inl p47) | exact lrR0 p42 (.inr (.inl p53)) | exact lrR0 p42 (.inr (.inr p59)) | exact lrD p65 p70 p76 p82 p88 | exact lrD0 p65 (.inl p70) | exact lrD0 p65 (.inr (.inl p76)) | exact lrD0 p65 (.inr (.inr (.inl p82))) | exact lrD0 p65 (.inr (.inr (.inr p88))) | exact lrC p97 p102 p107 | exact lrC0 p97 (.inl (by omega)) | exact lrC0 p97 (.inr p107) | exact lrE p120 | exact lrG _ _ _ _ _ _ hgt p25 p42 p65 p97 p120)
       ·refine Run.q (v := .bool false) rfl (OpQ.y (OpY.moveB rfl h82)) ?_
        have p82 := h82; try simp only [bs] at p82
        refine Run.pass rfl ?_
        refine Run.pass rfl ?_
        refine Run.pass rfl ?_
        refine Run.pass rfl ?_
        refine Run.pass rfl ?_
        refine Run.p (.bool false) rfl rfl ?_
        refine Run.done ?_
        refine Run.cond (b := false) rfl (fun h => nomatch h) (fun _ => ?_)
        refine Run.skip ?_
        refine Run.blockEnd ?_
        refine Run.sr ?_
        refine Run.y (.agg #[sv ([]), .int .i64 0, .int .i64 0, .int .i64 0, .int .i64 0, sv ([]), .slice none 0 0]) rfl (OpY.build (cs := [sv ([]), .int .i64 0, .int .i64 0, .int .i64 0, .int .i64 0, sv ([]), .slice none 0 0]) (by kernel_rfl)) ?_
        refine Run.step rfl (OpStep.storeAll (us := [sv ([]), .int .i64 0, .int .i64 0, .int .i64 0, .int .i64 0, sv ([]), .slice none 0 0]) Tsize_77 rfl rfl rfl (.there _ (.here _)) rfl ?_)
        refine Run.p (.bool false) rfl rfl ?_
        refine Run.done ?_
        refine Run.ret ?_
        refine ⟨.tuple #[.agg #[sv ([]), .int .i64 0, .int .i64 0, .int .i64 0, .int .i64 0, sv ([]), .slice none 0 0], .bool false], [.own (.slice none 0 0) 3 1 0 (ints [])], Out.cell2 (cs := [sv ([]), .int .i64 0, .int .i64 0, .int .i64 0, .int .i64 0, sv ([]), .slice none 0 0]) rfl Tagg_77 rfl (Cells.blk (.tail _ (List.Mem.head _)) ⟨rfl, rfl, rfl, rfl, rfl, rfl, rfl, trivial⟩) rfl, ((Weak.nilOwn 3 1).trans (Some'.weak (.takeEq (by first | rfl | simp [ints]) (.nil _)))), ?_⟩
        refine ⟨_, _, _, _, _, _, _, [], _, rfl, rfl, ?_⟩
        rw [lnAt_F hW]
        first | exact LnR.no (if_neg p16) | (refine lrF p16 ?_; first | exact lrQ p25 p30 p36 | exact lrQ0 p25 (.inl p30) | exact lrQ0 p25 (.inr p36) | exact lrR p42 p47 p53 p59 | exact lrR0 p42 (.inl p47) | exact lrR0 p42 (.inr (.inl p53)) | exact lrR0 p42 (.inr (.inr p59)) | exact lrD p65 p70 p76 p82 p88 | exact lrD0 p65 (.inl p70) | exact lrD0 p65 (.inr (.inl p76)) | exact lrD0 p65 (.inr (.inr (.inl p82))) | exact lrD0 p65 (.inr (.inr (.inr p88))) | exact lrC p97 p102 p107 | exact lrC0 p97 (.inl (by omega)) | exact lrC0 p97 (.inr p107) | exact lrE p120 | exact lrG _ _ _ _ _ _ hgt p25 p42 p65 p97 p120)
      ·refine Run.q (v := .bool false) rfl (OpQ.y (OpY.moveB rfl h76)) ?_
       have p76 := h76; try simp only [bs] at p76
       refine Run.pass rfl ?_
       refine Run.pass rfl ?_
       refine Run.pass rfl ?_
       refine Run.pass rfl ?_
       refine Run.p (.bool false) rfl rfl ?_
       refine Run.p (.bool false) rfl rfl ?_
       refine Run.pass rfl ?_
       refine Run.pass rfl ?_
       refine Run.pass rfl ?_
       refine Run.pass rfl ?_
       refine Run.pass rfl ?_
       refine Run.p (.bool false) rfl rfl ?_
       refine Run.done ?_
       refine Run.cond (b := false) rfl (fun h => nomatch h) (fun _ => ?_)
       refine Run.skip ?_
       refine Run.blockEnd ?_
       refine Run.sr ?_
       refine Run.y (.agg #[sv ([]), .int .i64 0, .int .i64 0, .int .i64 0, .int .i64 0, sv ([]), .slice none 0 0]) rfl (OpY.build (cs := [sv ([]), .int .i64 0, .int .i64 0, .int .i64 0, .int .i64 0, sv ([]), .slice none 0 0]) (by kernel_rfl)) ?_
       refine Run.step rfl (OpStep.storeAll (us := [sv ([]), .int .i64 0, .int .i64 0, .int .i64 0, .int .i64 0, sv ([]), .slice none 0 0]) Tsize_77 rfl rfl rfl (.there _ (.here _)) rfl ?_)
       refine Run.p (.bool false) rfl rfl ?_
       refine Run.done ?_
       refine Run.ret ?_
       refine ⟨.tuple #[.agg #[sv ([]), .int .i64 0, .int .i64 0, .int .i64 0, .int .i64 0, sv ([]), .slice none 0 0], .bool false], [.own (.slice none 0 0) 3 1 0 (ints [])], Out.cell2 (cs := [sv ([]), .int .i64 0, .int .i64 0, .int .i64 0, .int .i64 0, sv ([]), .slice none 0 0]) rfl Tagg_77 rfl (Cells.blk (.tail _ (List.Mem.head _)) ⟨rfl, rfl, rfl, rfl, rfl, rfl, rfl, trivial⟩) rfl, ((Weak.nilOwn 3 1).trans (Some'.weak (.takeEq (by first | rfl | simp [ints]) (.nil _)))), ?_⟩
       refine ⟨_, _, _, _, _, _, _, [], _, rfl, rfl, ?_⟩
       rw [lnAt_F hW]
       first | exact LnR.no (if_neg p16) | (refine lrF p16 ?_; first | exact lrQ p25 p30 p36 | exact lrQ0 p25 (.inl p30) | exact lrQ0 p25 (.inr p36) | exact lrR p42 p47 p53 p59 | exact lrR0 p42 (.inl p47) | exact lrR0 p42 (.inr (.inl p53)) | exact lrR0 p42 (.inr (.inr p59)) | exact lrD p65 p70 p76 p82 p88 | exact lrD0 p65 (.inl p70) | exact lrD0 p65 (.inr (.inl p76)) | exact lrD0 p65 (.inr (.inr (.inl p82))) | exact lrD0 p65 (.inr (.inr (.inr p88))) | exact lrC p97 p102 p107 | exact lrC0 p97 (.inl (by omega)) | exact lrC0 p97 (.inr p107) | exact lrE p120 | exact lrG _ _ _ _ _ _ hgt p25 p42 p65 p97 p120)
     ·refine Run.q (v := .bool false) rfl (OpQ.y (OpY.moveB rfl h70)) ?_
      have p70 := h70; try simp only [bs] at p70
      refine Run.pass rfl ?_
      refine Run.pass rfl ?_
      refine Run.pass rfl ?_
      refine Run.pass rfl ?_
      refine Run.p (.bool false) rfl rfl ?_
      refine Run.p (.bool false) rfl rfl ?_
      refine Run.pass rfl ?_
      refine Run.pass rfl ?_
      refine Run.pass rfl ?_
      refine Run.pass rfl ?_
      refine Run.p (.bool false) rfl rfl ?_
      refine Run.p (.bool false) rfl rfl ?_
      refine Run.pass rfl ?_
      refine Run.pass rfl ?_
      refine Run.pass rfl ?_
      refine Run.pass rfl ?_
      refine Run.pass rfl ?_
      refine Run.p (.bool false) rfl rfl ?_
      refine Run.done ?_
      refine Run.cond (b := false) rfl (fun h => nomatch h) (fun _ => ?_)
      refine Run.skip ?_
      refine Run.blockEnd ?_
      refine Run.sr ?_
      refine Run.y (.agg #[sv ([]), .int .i64 0, .int .i64 0, .int .i64 0, .int .i64 0, sv ([]), .slice none 0 0]) rfl (OpY.build (cs := [sv ([]), .int .i64 0, .int .i64 0, .int .i64 0, .int .i64 0, sv ([]), .slice none 0 0]) (by kernel_rfl)) ?_
      refine Run.step rfl (OpStep.storeAll (us := [sv ([]), .int .i64 0, .int .i64 0, .int .i64 0, .int .i64 0, sv ([]), .slice none 0 0]) Tsize_77 rfl rfl rfl (.there _ (.here _)) rfl ?_)
      refine Run.p (.bool false) rfl rfl ?_
      refine Run.done ?_
      refine Run.ret ?_
      refine ⟨.tuple #[.agg #[sv ([]), .int .i64 0, .int .i64 0, .int .i64 0, .int .i64 0, sv ([]), .slice none 0 0], .bool false], [.own (.slice none 0 0) 3 1 0 (ints [])], Out.cell2 (cs := [sv ([]), .int .i64 0, .int .i64 0, .int .i64 0, .int .i64 0, sv ([]), .slice none 0 0]) rfl Tagg_77 rfl (Cells.blk (.tail _ (List.Mem.head _)) ⟨rfl, rfl, rfl, rfl, rfl, rfl, rfl, trivial⟩) rfl, ((Weak.nilOwn 3 1).trans (Some'.weak (.takeEq (by first | rfl | simp [ints]) (.nil _)))), ?_⟩
      refine ⟨_, _, _, _, _, _, _, [], _, rfl, rfl, ?_⟩
      rw [lnAt_F hW]
      first | exact LnR.no (if_neg p16) | (refine lrF p16 ?_; first | exact lrQ p25 p30 p36 | exact lrQ0 p25 (.inl p30) | exact lrQ0 p25 (.inr p36) | exact lrR p42 p47 p53 p59 | exact lrR0 p42 (.inl p47) | exact lrR0 p42 (.inr (.inl p53)) | exact lrR0 p42 (.inr (.inr p59)) | exact lrD p65 p70 p76 p82 p88 | exact lrD0 p65 (.inl p70) | exact lrD0 p65 (.inr (.inl p76)) | exact lrD0 p65 (.inr (.inr (.inl p82))) | exact lrD0 p65 (.inr (.inr (.inr p88))) | exact lrC p97 p102 p107 | exact lrC0 p97 (.inl (by omega)) | exact lrC0 p97 (.inr p107) | exact lrE p120 | exact lrG _ _ _ _ _ _ hgt p25 p42 p65 p97 p120)
    ·have p65 := h65; try simp only [bs] at p65
     refine Run.sr ?_
     refine Run.y (.bool ((stx W 0) == wC)) rfl (OpY.eqS rfl rfl) ?_
     refine Run.p (.bool ((stx W 0) == wC)) rfl rfl ?_
     refine Run.done ?_
     refine Run.cond (b := (stx W 0) == wC) rfl (fun h97 => ?_) (fun h97 => ?_)
     ·have p97 := h97; try simp only [bs] at p97
      refine Run.sr ?_
      refine Run.p (.slice (some ⟨gw, 0, none⟩) (W.length) cw) rfl rfl ?_
      refine Run.y (.int .i64 (((W.length : Nat) : Int))) rfl (OpY.len Tsl_40 rfl) ?_
      refine Run.p (.bool (decide ((((W.length : Nat) : Int)) ≥ 3))) rfl rfl ?_
      rcases Bool.eq_false_or_eq_true (decide ((((W.length : Nat) : Int)) ≥ 3)) with h102 | h102
      ·refine Run.q (v := .bool true) rfl (OpQ.y (OpY.moveB rfl h102)) ?_
       have p102 := h102; try simp only [bs] at p102
       refine Run.p (.slice (some ⟨gw, 0, none⟩) (W.length) cw) rfl rfl ?_
       refine Run.y (.pointer (some ⟨gw, 1, none⟩)) rfl (OpY.index (kk := 1) Tsl_40 rfl rfl (by omega) (by omega) (by first | rfl | omega)) ?_
       refine Run.y (sv (stx W 1)) rfl (OpY.load1 Tone_9 rfl (Cells.own0 (.head _) (preS (by omega)))) ?_
       refine Run.q (v := .bool (nameB (stx W 1))) rfl (OpQ.call (vs := [sv (stx W 1)]) (caps := []) Tcall_81 rfl rfl (fun w hs => l5Name_spec (by have := stx_len hWl 1; omega) w)) ?_
       refine Run.p (.bool (nameB (stx W 1))) rfl rfl ?_
       refine Run.done ?_
       refine Run.cond (b := nameB (stx W 1)) rfl (fun h107 => ?_) (fun h107 => ?_)
       ·have p107 := h107; try simp only [bs] at p107
        refine Run.sr ?_
        refine Run.p (.slice (some ⟨gw, 0, none⟩) (W.length) cw) rfl rfl ?_
        refine Run.y ((sliced (some ⟨gw, 0, none⟩) 2 (W.length) cw 1)) rfl (OpY.sliceL (l := 2) Tsl_40 rfl rfl (by decide) (by omega)) ?_
        refine Run.step rfl (OpStep.call (vs := [(sliced (some ⟨gw, 0, none⟩) 2 (W.length) cw 1)]) (caps := []) Tcall_82 rfl rfl (fun w hs => l5Args_spec ((hs.slOwn (.head _)).drop1 (by omega)) (fun s hs => hWl s (List.mem_of_mem_drop hs)) (by omega)) ?_)
        rintro _ _ ⟨v1, rfl, rfl⟩
        show Run _ _ (putF _ _ _ (.tuple #[v1, .bool (allNum (W.drop 2))])) [.own v1 3 1 ((nums (W.drop 2)).length) (ints (nums (W.drop 2))), .own (.slice (some ⟨gw, 0, none⟩) (W.length) cw) 9 1 (W.length) (strs W), .blk b1 77 [sv ([]), .int .i64 0, .int .i64 0, .int .i64 0, .int .i64 0, sv ([]), .slice none 0 0]]
        refine Run.p (.tuple #[v1, .bool (allNum (W.drop 2))]) rfl rfl ?_
        refine Run.p (v1) rfl rfl ?_
        refine Run.p (.bool (allNum (W.drop 2))) rfl rfl ?_
        refine Run.p (v1) rfl rfl ?_
        refine Run.p (.bool (allNum (W.drop 2))) rfl rfl ?_
        refine Run.dsr ?_
        refine Run.p (.slice (some ⟨gw, 0, none⟩) (W.length) cw) rfl rfl ?_
        refine Run.y (.pointer (some ⟨gw, 1, none⟩)) rfl (OpY.index (kk := 1) Tsl_40 rfl rfl (by omega) (by omega) (by first | rfl | omega)) ?_
        refine Run.y (sv (stx W 1)) rfl (OpY.load1 Tone_9 rfl (Cells.own0 (.tail _ (List.Mem.head _)) (preS (by omega)))) ?_
        refine Run.p (v1) rfl rfl ?_
        refine Run.formOwn (.head _) (fun A_v11 c_v11 hv hcapc_v11 hmaxc_v11 => ?_) (fun _ _ _ => ⟨nofun, nofun, nofun⟩)
        subst hv
        refine Run.y (.agg #[sv wC, .int .i64 0, .int .i64 0, .int .i64 0, .int .i64 0, sv (stx W 1), .slice A_v11 ((nums (W.drop 2)).length) c_v11]) rfl (OpY.build (cs := [sv wC, .int .i64 0, .int .i64 0, .int .i64 0, .int .i64 0, sv (stx W 1), .slice A_v11 ((nums (W.drop 2)).length) c_v11]) (by kernel_rfl)) ?_
        refine Run.p (.bool (allNum (W.drop 2))) rfl rfl ?_
        refine Run.step rfl (OpStep.storeAll (us := [sv wC, .int .i64 0, .int .i64 0, .int .i64 0, .int .i64 0, sv (stx W 1), .slice A_v11 ((nums (W.drop 2)).length) c_v11]) Tsize_77 rfl rfl rfl (.there _ (.there _ (.here _))) rfl ?_)
        refine Run.p (.bool (allNum (W.drop 2))) rfl rfl ?_
        refine Run.done ?_
        refine Run.ret ?_
        refine ⟨.tuple #[.agg #[sv wC, .int .i64 0, .int .i64 0, .int .i64 0, .int .i64 0, sv (stx W 1), .slice A_v11 ((nums (W.drop 2)).length) c_v11], .bool (allNum (W.drop 2))], [.own (.slice A_v11 ((nums (W.drop 2)).length) c_v11) 3 1 ((nums (W.drop 2)).length) (ints (nums (W.drop 2)))], Out.cell2 (cs := [sv wC, .int .i64 0, .int .i64 0, .int .i64 0, .int .i64 0, sv (stx W 1), .slice A_v11 ((nums (W.drop 2)).length) c_v11]) rfl Tagg_77 rfl (Cells.blk (.tail _ (.tail _ (List.Mem.head _))) ⟨rfl, rfl, rfl, rfl, rfl, rfl, rfl, trivial⟩) rfl, (Some'.weak (.take (.nil _))), ?_⟩
        refine ⟨_, _, _, _, _, _, _, nums (W.drop 2), _, rfl, rfl, ?_⟩
        rw [lnAt_F hW]
        first | exact LnR.no (if_neg p16) | (refine lrF p16 ?_; first | exact lrQ p25 p30 p36 | exact lrQ0 p25 (.inl p30) | exact lrQ0 p25 (.inr p36) | exact lrR p42 p47 p53 p59 | exact lrR0 p42 (.inl p47) | exact lrR0 p42 (.inr (.inl p53)) | exact lrR0 p42 (.inr (.inr p59)) | exact lrD p65 p70 p76 p82 p88 | exact lrD0 p65 (.inl p70) | exact lrD0 p65 (.inr (.inl p76)) | exact lrD0 p65 (.inr (.inr (.inl p82))) | exact lrD0 p65 (.inr (.inr (.inr p88))) | exact lrC p97 p102 p107 | exact lrC0 p97 (.inl (by omega)) | exact lrC0 p97 (.inr p107) | exact lrE p120 | exact lrG _ _ _ _ _ _ hgt p25 p42 p65 p97 p120)
       ·have p107 := h107; try simp only [bs] at p107
        refine Run.skip ?_
        refine Run.blockEnd ?_
        refine Run.sr ?_
        refine Run.y (.agg #[sv ([]), .int .i64 0, .int .i64 0, .int .i64 0, .int .i64 0, sv ([]), .slice none 0 0]) rfl (OpY.build (cs := [sv ([]), .int .i64 0, .int .i64 0, .int .i64 0, .int .i64 0, sv ([]), .slice none 0 0]) (by kernel_rfl)) ?_
        refine Run.step rfl (OpStep.storeAll (us := [sv ([]), .int .i64 0, .int .i64 0, .int .i64 0, .int .i64 0, sv ([]), .slice none 0 0]) Tsize_77 rfl rfl rfl (.there _ (.here _)) rfl ?_)
        refine Run.p (.bool false) rfl rfl ?_
        refine Run.done ?_
        refine Run.ret ?_
        refine ⟨.tuple #[.agg #[sv ([]), .int .i64 0, .int .i64 0, .int .i64 0, .int .i64 0, sv ([]), .slice none 0 0], .bool false], [.own (.slice none 0 0) 3 1 0 (ints [])], Out.cell2 (cs := [sv ([]), .int .i64 0, .int .i64 0, .int .i64 0, .int .i64 0, sv ([]), .slice none 0 0]) rfl Tagg_77 rfl (Cells.blk (.tail _ (List.Mem.head _)) ⟨rfl, rfl, rfl, rfl, rfl, rfl, rfl, trivial⟩) rfl, ((Weak.nilOwn 3 1).trans (Some'.weak (.takeEq (by first | rfl | simp [ints]) (.nil _)))), ?_⟩
        refine ⟨_, _, _, _, _, _, _, [], _, rfl, rfl, ?_⟩
        rw [lnAt_F hW]
        first | exact LnR.no (if_neg p16) | (refine lrF p16 ?_; first | exact lrQ p25 p30 p36 | exact lrQ0 p25 (.inl p30) | exact lrQ0 p25 (.inr p36) | exact lrR p42 p47 p53 p59 | exact lrR0 p42 (.inl p47) | exact lrR0 p42 (.inr (.inl p53)) | exact lrR0 p42 (.inr (.inr p59)) | exact lrD p65 p70 p76 p82 p88 | exact lrD0 p65 (.inl p70) | exact lrD0 p65 (.inr (.inl p76)) | exact lrD0 p65 (.inr (.inr (.inl p82))) | exact lrD0 p65 (.inr (.inr (.inr p88))) | exact lrC p97 p102 p107 | exact lrC0 p97 (.inl (by omega)) | exact lrC0 p97 (.inr p107) | exact lrE p120 | exact lrG _ _ _ _ _ _ hgt p25 p42 p65 p97 p120)
      ·refine Run.q (v := .bool false) rfl (OpQ.y (OpY.moveB rfl h102)) ?_
       have p102 := h102; try simp only [bs] at p102
       refine Run.pass rfl ?_
       refine Run.pass rfl ?_
       refine Run.pass rfl ?_
       refine Run.pass rfl ?_
       refine Run.p (.bool false) rfl rfl ?_
       refine Run.done ?_
       refine Run.cond (b := false) rfl (fun h => nomatch h) (fun _ => ?_)
       refine Run.skip ?_
       refine Run.blockEnd ?_
       refine Run.sr ?_
       refine Run.y (.agg #[sv ([]), .int .i64 0, .int .i64 0, .int .i64 0, .int .i64 0, sv ([]), .slice none 0 0]) rfl (OpY.build (cs := [sv ([]), .int .i64 0, .int .i64 0, .int .i64 0, .int .i64 0, sv ([]), .slice none 0 0]) (by kernel_rfl)) ?_
       refine Run.step rfl (OpStep.storeAll (us := [sv ([]), .int .i64 0, .int .i64 0, .int .i64 0, .int .i64 0, sv ([]), .slice none 0 0]) Tsize_77 rfl rfl rfl (.there _ (.here _)) rfl ?_)
       refine Run.p (.bool false) rfl rfl ?_
       refine Run.done ?_
       refine Run.ret ?_
       refine ⟨.tuple #[.agg #[sv ([]), .int .i64 0, .int .i64 0, .int .i64 0, .int .i64 0, sv ([]), .slice none 0 0], .bool false], [.own (.slice none 0 0) 3 1 0 (ints [])], Out.cell2 (cs := [sv ([]), .int .i64 0, .int .i64 0, .int .i64 0, .int .i64 0, sv ([]), .slice none 0 0]) rfl Tagg_77 rfl (Cells.blk (.tail _ (List.Mem.head _)) ⟨rfl, rfl, rfl, rfl, rfl, rfl, rfl, trivial⟩) rfl, ((Weak.nilOwn 3 1).trans (Some'.weak (.takeEq (by first | rfl | simp [ints]) (.nil _)))), ?_⟩
       refine ⟨_, _, _, _, _, _, _, [], _, rfl, rfl, ?_⟩
       rw [lnAt_F hW]
       first | exact LnR.no (if_neg p16) | (refine lrF p16 ?_; first | exact lrQ p25 p30 p36 | exact lrQ0 p25 (.inl p30) | exact lrQ0 p25 (.inr p36) | exact lrR p42 p47 p53 p59 | exact lrR0 p42 (.inl p47) | exact lrR0 p42 (.inr (.inl p53)) | exact lrR0 p42 (.inr (.inr p59)) | exact lrD p65 p70 p76 p82 p88 | exact lrD0 p65 (.inl p70) | exact lrD0 p65 (.inr (.inl p76)) | exact lrD0 p65 (.inr (.inr (.inl p82))) | exact lrD0 p65 (.inr (.inr (.inr p88))) | exact lrC p97 p102 p107 | exact lrC0 p97 (.inl (by omega)) | exact lrC0 p97 (.inr p107) | exact lrE p120 | exact lrG _ _ _ _ _ _ hgt p25 p42 p65 p97 p120)
     ·have p97 := h97; try simp only [bs] at p97
      refine Run.sr ?_
      refine Run.y (.bool ((stx W 0) == wE)) rfl (OpY.eqS rfl rfl) ?_
      refine Run.p (.bool ((stx W 0) == wE)) rfl rfl ?_
      refine Run.done ?_
      refine Run.cond (b := (stx W 0) == wE) rfl (fun h120 => ?_) (fun h120 => ?_)
      ·have p120 := h120; try simp only [bs] at p120
       refine Run.sr ?_
       refine Run.y (.agg #[sv wE, .int .i64 0, .int .i64 0, .int .i64 0, .int .i64 0, sv ([]), .slice none 0 0]) rfl (OpY.build (cs := [sv wE, .int .i64 0, .int .i64 0, .int .i64 0, .int .i64 0, sv ([]), .slice none 0 0]) (by kernel_rfl)) ?_
       refine Run.p (.slice (some ⟨gw, 0, none⟩) (W.length) cw) rfl rfl ?_
       refine Run.y (.int .i64 (((W.length : Nat) : Int))) rfl (OpY.len Tsl_40 rfl) ?_
       refine Run.p (.bool ((((W.length : Nat) : Int)) == 1)) rfl rfl ?_
       refine Run.step rfl (OpStep.storeAll (us := [sv wE, .int .i64 0, .int .i64 0, .int .i64 0, .int .i64 0, sv ([]), .slice none 0 0]) Tsize_77 rfl rfl rfl (.there _ (.here _)) rfl ?_)
       refine Run.p (.bool ((((W.length : Nat) : Int)) == 1)) rfl rfl ?_
       refine Run.done ?_
       refine Run.ret ?_
       refine ⟨.tuple #[.agg #[sv wE, .int .i64 0, .int .i64 0, .int .i64 0, .int .i64 0, sv ([]), .slice none 0 0], .bool ((((W.length : Nat) : Int)) == 1)], [.own (.slice none 0 0) 3 1 0 (ints [])], Out.cell2 (cs := [sv wE, .int .i64 0, .int .i64 0, .int .i64 0, .int .i64 0, sv ([]), .slice none 0 0]) rfl Tagg_77 rfl (Cells.blk (.tail _ (List.Mem.head _)) ⟨rfl, rfl, rfl, rfl, rfl, rfl, rfl, trivial⟩) rfl, ((Weak.nilOwn 3 1).trans (Some'.weak (.takeEq (by first | rfl | simp [ints]) (.nil _)))), ?_⟩
       refine ⟨_, _, _, _, _, _, _, [], _, rfl, rfl, ?_⟩
       rw [lnAt_F hW]
       first | exact LnR.no (if_neg p16) | (refine lrF p16 ?_; first | exact lrQ p25 p30 p36 | exact lrQ0 p25 (.inl p30) | exact lrQ0 p25 (.inr p36) | exact lrR p42 p47 p53 p59 | exact lrR0 p42 (.inl p47) | exact lrR0 p42 (.inr (.inl p53)) | exact lrR0 p42 (.inr (.inr p59)) | exact lrD p65 p70 p76 p82 p88 | exact lrD0 p65 (.inl p70) | exact lrD0 p65 (.inr (.inl p76)) | exact lrD0 p65 (.inr (.inr (.inl p82))) | exact lrD0 p65 (.inr (.inr (.inr p88))) | exact lrC p97 p102 p107 | exact lrC0 p97 (.inl (by omega)) | exact lrC0 p97 (.inr p107) | exact lrE p120 | exact lrG _ _ _ _ _ _ hgt p25 p42 p65 p97 p120)
      ·have p120 := h120; try simp only [bs] at p120
       refine Run.sr ?_
       refine Run.p (.slice (some ⟨gw, 0, none⟩) (W.length) cw) rfl rfl ?_
       refine Run.step rfl (OpStep.call (vs := [.slice (some ⟨gw, 0, none⟩) (W.length) cw]) (caps := []) Tcall_83 rfl rfl (fun w hs => l5Gate_spec (hs.slOwn (.head _)) hW1 hWl hW16) ?_)
       rintro _ _ ⟨c0, c1, c2, c3, bb, rfl, rfl, hgt⟩
       show Run _ _ (putF _ _ _ (.tuple #[.agg #[sv c0, .int .i64 c1, .int .i64 c2, .int .i64 c3, .int .i64 0, sv ([]), .slice none 0 0], .bool bb])) [.own (.slice (some ⟨gw, 0, none⟩) (W.length) cw) 9 1 (W.length) (strs W), .blk b1 77 [sv ([]), .int .i64 0, .int .i64 0, .int .i64 0, .int .i64 0, sv ([]), .slice none 0 0]]
       refine Run.p (.agg #[sv c0, .int .i64 c1, .int .i64 c2, .int .i64 c3, .int .i64 0, sv ([]), .slice none 0 0]) rfl rfl ?_
       refine Run.p (.bool bb) rfl rfl ?_
       refine Run.step rfl (OpStep.storeAll (us := [sv c0, .int .i64 c1, .int .i64 c2, .int .i64 c3, .int .i64 0, sv ([]), .slice none 0 0]) Tsize_77 rfl rfl rfl (.there _ (.here _)) rfl ?_)
       refine Run.p (.bool bb) rfl rfl ?_
       refine Run.done ?_
       refine Run.ret ?_
       refine ⟨.tuple #[.agg #[sv c0, .int .i64 c1, .int .i64 c2, .int .i64 c3, .int .i64 0, sv ([]), .slice none 0 0], .bool bb], [.own (.slice none 0 0) 3 1 0 (ints [])], Out.cell2 (cs := [sv c0, .int .i64 c1, .int .i64 c2, .int .i64 c3, .int .i64 0, sv ([]), .slice none 0 0]) rfl Tagg_77 rfl (Cells.blk (.tail _ (List.Mem.head _)) ⟨rfl, rfl, rfl, rfl, rfl, rfl, rfl, trivial⟩) rfl, ((Weak.nilOwn 3 1).trans (Some'.weak (.takeEq (by first | rfl | simp [ints]) (.nil _)))), ?_⟩
       refine ⟨_, _, _, _, _, _, _, [], _, rfl, rfl, ?_⟩
       rw [lnAt_F hW]
       first | exact LnR.no (if_neg p16) | (refine lrF p16 ?_; first | exact lrQ p25 p30 p36 | exact lrQ0 p25 (.inl p30) | exact lrQ0 p25 (.inr p36) | exact lrR p42 p47 p53 p59 | exact lrR0 p42 (.inl p47) | exact lrR0 p42 (.inr (.inl p53)) | exact lrR0 p42 (.inr (.inr p59)) | exact lrD p65 p70 p76 p82 p88 | exact lrD0 p65 (.inl p70) | exact lrD0 p65 (.inr (.inl p76)) | exact lrD0 p65 (.inr (.inr (.inl p82))) | exact lrD0 p65 (.inr (.inr (.inr p88))) | exact lrC p97 p102 p107 | exact lrC0 p97 (.inl (by omega)) | exact lrC0 p97 (.inr p107) | exact lrE p120 | exact lrG _ _ _ _ _ _ hgt p25 p42 p65 p97 p120)

end Go.Proofs.YtgpkpopbajkklaaGreatDoor
