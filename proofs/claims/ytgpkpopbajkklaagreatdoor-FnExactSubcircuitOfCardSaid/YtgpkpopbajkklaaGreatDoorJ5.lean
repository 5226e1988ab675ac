/- Walks: the program reads a line of a circuit text. -/
import Derived.Test.YtgpkpopbajkklaaGreatDoorJ4
import Derived.Test.YtgpkpopbajkklaaGreatDoorProg
import Derived.Test.YtgpkpopbajkklaaGreatDoorJ2
set_option linter.unusedSimpArgs false
set_option linter.unusedVariables false
namespace Go.Proofs.YtgpkpopbajkklaaGreatDoor
open Go Go.RowKit
namespace TxfT
theorem Tagg_95 : aggOf Tryz.prog 95 = some 5 := by kernel_rfl
theorem Tcall_104 : callable Tryz.prog 104 = true := by kernel_rfl
theorem Tcall_105 : callable Tryz.prog 105 = true := by kernel_rfl
theorem Tcall_106 : callable Tryz.prog 106 = true := by kernel_rfl
theorem Tcall_107 : callable Tryz.prog 107 = true := by kernel_rfl
theorem Tcall_87 : callable Tryz.prog 87 = true := by kernel_rfl
theorem Tfo_95_2 : fieldOff Tryz.prog 95 2 = some 2 := by kernel_rfl
theorem Tfo_95_3 : fieldOff Tryz.prog 95 3 = some 3 := by kernel_rfl
theorem Tfo_95_4 : fieldOff Tryz.prog 95 4 = some 4 := by kernel_rfl
theorem Tone_9 : oneOf Tryz.prog 9 = true := by kernel_rfl
theorem Tsize_3 : (Tryz.prog.info? 3).map (·.size) = some 1 := by kernel_rfl
theorem Tsize_75 : (Tryz.prog.info? 75).map (·.size) = some 1 := by kernel_rfl
theorem Tsize_9 : (Tryz.prog.info? 9).map (·.size) = some 1 := by kernel_rfl
theorem Tsize_95 : (Tryz.prog.info? 95).map (·.size) = some 5 := by kernel_rfl
theorem Tsl_40 : sliceOf Tryz.prog 40 = some (9, 1, 16, [sv ([])]) := by kernel_rfl
theorem Tzero_95 : zeroOf Tryz.prog 95 = some [sv ([]), .int .i64 0, sv ([]), .int .i64 0, .slice none 0 0] := by kernel_rfl
end TxfT
open TxfT
/-- What is handed back of a line: whether it has a form, and then its parts. -/
def LnOk (o : Option Li) (b : Bool) (c0 : Bs) (c1 : Int) (c2 : Bs) (c3 : Int) (qs : List Int) : Prop := b = o.isSome ∧ ∀ x, o = some x → c0 = x.word ∧ c1 = x.kind ∧ c2 = x.nm ∧ c3 = x.num ∧ qs = x.qs
theorem LnOk.no {o : Option Li} {b : Bool} {c0 : Bs} {c1 : Int} {c2 : Bs} {c3 : Int} {qs : List Int} (h : o = none) (hb : b = false) : LnOk o b c0 c1 c2 c3 qs := ⟨by rw [h, hb]; rfl, fun x hx => by rw [h] at hx; cases hx⟩
theorem LnOk.yes {o : Option Li} {x : Li} {b : Bool} {c0 : Bs} {c1 : Int} {c2 : Bs} {c3 : Int} {qs : List Int} (h : o = some x) (hb : b = true) (h0 : c0 = x.word) (h1 : c1 = x.kind) (h2 : c2 = x.nm) (h3 : c3 = x.num) (h4 : qs = x.qs) : LnOk o b c0 c1 c2 c3 qs :=
  ⟨by rw [h, hb]; rfl, fun y hy => by rw [h] at hy; injection hy with hy; subst hy; exact ⟨h0, h1, h2, h3, h4⟩⟩
section
variable {W : List Bs}
theorem lineW_q (h : stx W 0 = wQ) : lineW W = if W.length = 2 ∧ within (num2 (stx W 1)) 1 5 = true then some (.qb (num2 (stx W 1))) else none := by rw [lineW, if_pos h]
theorem lineW_r (h : stx W 0 = wR) : lineW W = if W.length = 3 ∧ stx W 2 = wO ∧ within (num2 (stx W 1)) 2 99 = true then some (.rep (num2 (stx W 1))) else none := by
  rw [lineW, if_neg (by rw [h]; decide), if_pos h]
theorem lineW_d (h : stx W 0 = wD) : lineW W = if W.length = 4 ∧ stx W 3 = wO ∧ nameB (stx W 1) = true ∧ within (num2 (stx W 2)) 1 5 = true then some (.df (stx W 1) (num2 (stx W 2))) else none := by
  rw [lineW, if_neg (by rw [h]; decide), if_neg (by rw [h]; decide), if_pos h]
theorem lineW_c (h : stx W 0 = wC) : lineW W = if 3 ≤ W.length ∧ nameB (stx W 1) = true ∧ allNum (W.drop 2) = true then some (.call (stx W 1) (nums (W.drop 2))) else none := by
  rw [lineW, if_neg (by rw [h]; decide), if_neg (by rw [h]; decide), if_neg (by rw [h]; decide), if_pos h]
theorem lineW_e (h : stx W 0 = wE) : lineW W = if W.length = 1 then some .cl else none := by
  rw [lineW, if_neg (by rw [h]; decide), if_neg (by rw [h]; decide), if_neg (by rw [h]; decide), if_neg (by rw [h]; decide), if_pos h]
theorem lineW_g (h1 : ¬ stx W 0 = wQ) (h2 : ¬ stx W 0 = wR) (h3 : ¬ stx W 0 = wD) (h4 : ¬ stx W 0 = wC) (h5 : ¬ stx W 0 = wE) : lineW W = gateW W := by
  rw [lineW, if_neg h1, if_neg h2, if_neg h3, if_neg h4, if_neg h5]
theorem lnQ {n : Int} (h : stx W 0 = wQ) (hl : ((W.length : Nat) : Int) = 2) (hn : within (num2 (stx W 1)) 1 5 = true → n = num2 (stx W 1)) : LnOk (lineW W) (within (num2 (stx W 1)) 1 5) (stx W 0) 0 [] n [] := by
  cases hw : within (num2 (stx W 1)) 1 5 with
  | true => exact LnOk.yes (by rw [lineW_q h, if_pos ⟨by omega, hw⟩]) rfl (by rw [h]; rfl) rfl rfl (by rw [hn hw]; rfl) rfl
  | false => exact LnOk.no (by rw [lineW_q h, if_neg (by rw [hw]; simp)]) rfl
theorem lnQ0 {c0 : Bs} {c1 : Int} {c2 : Bs} {c3 : Int} {qs : List Int} (h : stx W 0 = wQ) (hl : ¬ ((W.length : Nat) : Int) = 2) : LnOk (lineW W) false c0 c1 c2 c3 qs :=
  LnOk.no (by rw [lineW_q h, if_neg (fun e => hl (by omega))]) rfl
theorem lnR {n : Int} (h : stx W 0 = wR) (hl : ((W.length : Nat) : Int) = 3) (ho : stx W 2 = wO) (hn : within (num2 (stx W 1)) 2 99 = true → n = num2 (stx W 1)) : LnOk (lineW W) (within (num2 (stx W 1)) 2 99) (stx W 0) 0 [] n [] := by
  cases hw : within (num2 (stx W 1)) 2 99 with
  | true => exact LnOk.yes (by rw [lineW_r h, if_pos ⟨by omega, ho, hw⟩]) rfl (by rw [h]; rfl) rfl rfl (by rw [hn hw]; rfl) rfl
  | false => exact LnOk.no (by rw [lineW_r h, if_neg (by rw [hw]; simp)]) rfl
theorem lnR0 {c0 : Bs} {c1 : Int} {c2 : Bs} {c3 : Int} {qs : List Int} (h : stx W 0 = wR) (hl : ¬ ((W.length : Nat) : Int) = 3 ∨ ¬ stx W 2 = wO) : LnOk (lineW W) false c0 c1 c2 c3 qs :=
  LnOk.no (by rw [lineW_r h, if_neg (fun e => hl.elim (fun k => k (by omega)) fun k => k e.2.1)]) rfl
theorem lnD {n : Int} (h : stx W 0 = wD) (hl : ((W.length : Nat) : Int) = 4) (ho : stx W 3 = wO) (hm : nameB (stx W 1) = true) (hn : within (num2 (stx W 2)) 1 5 = true → n = num2 (stx W 2)) : LnOk (lineW W) (within (num2 (stx W 2)) 1 5) (stx W 0) 0 (stx W 1) n [] := by
  cases hw : within (num2 (stx W 2)) 1 5 with
  | true => exact LnOk.yes (by rw [lineW_d h, if_pos ⟨by omega, ho, hm, hw⟩]) rfl (by rw [h]; rfl) rfl rfl (by rw [hn hw]; rfl) rfl
  | false => exact LnOk.no (by rw [lineW_d h, if_neg (by rw [hw]; simp)]) rfl
theorem lnD0 {c0 : Bs} {c1 : Int} {c2 : Bs} {c3 : Int} {qs : List Int} (h : stx W 0 = wD) (hl : ¬ ((W.length : Nat) : Int) = 4 ∨ ¬ stx W 3 = wO ∨ nameB (stx W 1) = false) : LnOk (lineW W) false c0 c1 c2 c3 qs :=
  LnOk.no (by rw [lineW_d h, if_neg (fun e => hl.elim (fun k => k (by omega)) fun k => k.elim (fun k => k e.2.1) fun k => by rw [k] at e; exact absurd e.2.2.1 (by decide))]) rfl
theorem lnC (h : stx W 0 = wC) (hl : 3 ≤ ((W.length : Nat) : Int)) (hm : nameB (stx W 1) = true) : LnOk (lineW W) (allNum (W.drop 2)) (stx W 0) 0 (stx W 1) 0 (nums (W.drop 2)) := by
  cases hw : allNum (W.drop 2) with
  | true => exact LnOk.yes (by rw [lineW_c h, if_pos ⟨by omega, hm, hw⟩]) rfl (by rw [h]; rfl) rfl rfl rfl rfl
  | false => exact LnOk.no (by rw [lineW_c h, if_neg (by rw [hw]; simp)]) rfl
theorem lnC0 {c0 : Bs} {c1 : Int} {c2 : Bs} {c3 : Int} {qs : List Int} (h : stx W 0 = wC) (hl : ¬ 3 ≤ ((W.length : Nat) : Int) ∨ nameB (stx W 1) = false) : LnOk (lineW W) false c0 c1 c2 c3 qs :=
  LnOk.no (by rw [lineW_c h, if_neg (fun e => hl.elim (fun k => k (by omega)) fun k => by rw [k] at e; exact absurd e.2.1 (by decide))]) rfl
theorem lnE (h : stx W 0 = wE) : LnOk (lineW W) (((W.length : Nat) : Int) == 1) (stx W 0) 0 [] 0 [] := by
  by_cases hw : W.length = 1
  · exact LnOk.yes (by rw [lineW_e h, if_pos hw]) (by rw [hw]; rfl) (by rw [h]; rfl) rfl rfl rfl rfl
  · exact LnOk.no (by rw [lineW_e h, if_neg hw]) (by rw [beq_eq_false_iff_ne]; omega)
theorem lnG (h1 : ¬ stx W 0 = wQ) (h2 : ¬ stx W 0 = wR) (h3 : ¬ stx W 0 = wD) (h4 : ¬ stx W 0 = wC) (h5 : ¬ stx W 0 = wE) : LnOk (lineW W) (gateW W).isSome wG (kindB (stx W 0)) [] 0 (nums (W.drop 1)) := by
  rw [lineW_g h1 h2 h3 h4 h5]
  refine ⟨rfl, fun x hx => ?_⟩
  unfold gateW at hx
  split at hx
  · injection hx with hx; subst hx; exact ⟨rfl, rfl, rfl, rfl, rfl⟩
  · cases hx
end
theorem Split_specW {l : Bs} {W : List Bs} (c : UInt8) (hW : splitC c l = W) {w : World} (hg : Gl w) (hl : l.length ≤ 4294967280) : Calls Tryz.prog 87 #[sv l, sv [c]] w
    (Post No w fun v H => ∃ b, v = .slice (some ⟨b, 0, none⟩) W.length W.length ∧ H = [.own v 9 1 W.length (strs W)]) := by
  subst hW; exact Split_spec c hg hl

theorem of_beq_false {a b : Int} (h : (a == b) = false) : ¬ a = b := by simpa using h
theorem of_beq_falseB {a b : Bs} (h : (a == b) = false) : ¬ a = b := by simpa using h

set_option maxHeartbeats 4000000 in
set_option maxRecDepth 20000 in
theorem readLine_spec {l : Bs} {w : World} (hg : Gl w) (hl : l.length ≤ 16777000) : Calls Tryz.prog 89 #[sv l] w (Post No w fun v H => ∃ c0 c1 c2 c3 v1 qs b, v = .tuple #[.agg #[sv c0, .int .i64 c1, sv c2, .int .i64 c3, v1], .bool b] ∧ H = [.own v1 3 1 qs.length (ints qs)] ∧ LnOk (lineB l) b c0 c1 c2 c3 qs) := by
 obtain ⟨W, hW⟩ : ∃ W, splitC 32 l = W := ⟨_, rfl⟩
 have hW1 : 1 ≤ W.length := by rw [← hW]; exact List.length_pos_iff.2 (splitC_ne 32 l)
 have hW16 : W.length ≤ 16777216 := by rw [← hW]; have := splitC_length 32 l; omega
 have hWl : ∀ s ∈ W, s.length ≤ 281474976710656 := fun s hs => by rw [← hW] at hs; have := splitC_le s hs; omega
 refine enter (n := 110) (args := [sv l]) Tryz.func89 rfl rfl (St.empty _ _) ?_
 refine Run.sr ?_
 refine Run.step rfl (OpStep.alloc (zs := [sv ([]), .int .i64 0, sv ([]), .int .i64 0, .slice none 0 0]) Tzero_95 fun b1 => ?_)
 refine Run.p (.bool false) rfl rfl ?_
 refine Run.dsr ?_
 refine Run.p (sv l) rfl rfl ?_
 refine Run.step rfl (OpStep.call (vs := [sv l, sv ([32])]) (caps := []) Tcall_87 rfl rfl (fun w hs => Split_specW 32 hW (hg.go hs) (by omega)) ?_)
 rintro _ _ ⟨b0, rfl, rfl⟩
 show Run _ _ (putF _ _ _ (.slice (some ⟨b0, 0, none⟩) (W.length) (W.length))) [.own (.slice (some ⟨b0, 0, none⟩) (W.length) (W.length)) 9 1 (W.length) (strs W), .blk b1 95 [sv ([]), .int .i64 0, sv ([]), .int .i64 0, .slice none 0 0]]
 refine Run.p (.slice (some ⟨b0, 0, none⟩) (W.length) (W.length)) rfl rfl ?_
 refine Run.dsr ?_
 refine Run.p (.slice (some ⟨b0, 0, none⟩) (W.length) (W.length)) rfl rfl ?_
 refine Run.y (.pointer (some ⟨b0, 0, none⟩)) rfl (OpY.index (kk := 0) Tsl_40 rfl rfl (by omega) (by omega) (by first | rfl | omega)) ?_
 refine Run.y (sv (stx W 0)) rfl (OpY.load1 Tone_9 rfl (Cells.own0 (.head _) (preS (by omega)))) ?_
 refine Run.y (.agg #[sv (stx W 0), .int .i64 0, sv ([]), .int .i64 0, .slice none 0 0]) rfl (OpY.build (cs := [sv (stx W 0), .int .i64 0, sv ([]), .int .i64 0, .slice none 0 0]) (by kernel_rfl)) ?_
 refine Run.step rfl (OpStep.alloc (zs := [sv ([]), .int .i64 0, sv ([]), .int .i64 0, .slice none 0 0]) Tzero_95 fun b2 => ?_)
 refine Run.step rfl (OpStep.storeAll (us := [sv (stx W 0), .int .i64 0, sv ([]), .int .i64 0, .slice none 0 0]) Tsize_95 rfl rfl rfl (.here _) rfl ?_)
 refine Run.dsr ?_
 refine Run.p (.bool false) rfl rfl ?_
 refine Run.done ?_
 refine Run.seq ?_
 refine Run.sr ?_
 refine Run.p (.slice (some ⟨b0, 0, none⟩) (W.length) (W.length)) rfl rfl ?_
 refine Run.y (.pointer (some ⟨b0, 0, none⟩)) rfl (OpY.index (kk := 0) Tsl_40 rfl rfl (by omega) (by omega) (by first | rfl | omega)) ?_
 refine Run.y (sv (stx W 0)) rfl (OpY.load1 Tone_9 rfl (Cells.own0 (.tail _ (List.Mem.head _)) (preS (by omega)))) ?_
 refine Run.done ?_
 refine Run.block ?_
 refine Run.sr ?_
 refine Run.y (.bool ((stx W 0) == ([113, 117, 98, 105, 116, 115]))) rfl (OpY.eqS rfl rfl) ?_
 refine Run.p (.bool ((stx W 0) == ([113, 117, 98, 105, 116, 115]))) rfl rfl ?_
 refine Run.done ?_
 refine Run.cond (b := (stx W 0) == ([113, 117, 98, 105, 116, 115])) rfl (fun h20 => ?_) (fun h20 => ?_)
 ·have p20 := h20; try simp only [bs] at p20
  refine Run.sr ?_
  refine Run.p (.slice (some ⟨b0, 0, none⟩) (W.length) (W.length)) rfl rfl ?_
  refine Run.y (.int .i64 (((W.length : Nat) : Int))) rfl (OpY.len Tsl_40 rfl) ?_
  refine Run.p (.bool ((((W.length : Nat) : Int)) == 2)) rfl rfl ?_
  refine Run.done ?_
  refine Run.cond (b := (((W.length : Nat) : Int)) == 2) rfl (fun h24 => ?_) (fun h24 => ?_)
  ·have p24 := h24; try simp only [bs] at p24
   refine Run.region ?_
   refine Run.p (.slice (some ⟨b0, 0, none⟩) (W.length) (W.length)) rfl rfl ?_
   refine Run.y (.pointer (some ⟨b0, 1, none⟩)) rfl (OpY.index (kk := 1) Tsl_40 rfl rfl (by omega) (by omega) (by first | rfl | omega)) ?_
   refine Run.y (sv (stx W 1)) rfl (OpY.load1 Tone_9 rfl (Cells.own0 (.tail _ (List.Mem.head _)) (preS (by omega)))) ?_
   refine Run.step rfl (OpStep.call (vs := [sv (stx W 1), .int .i64 1, .int .i64 5]) (caps := []) Tcall_104 rfl rfl (fun w hs => numberIn_spec (hg.go hs) (stx_len hWl _) (by decide)) ?_)
   rintro _ _ ⟨n1, rfl, hn1, rfl⟩
   show Run _ _ (putF _ _ _ (.tuple #[.int .i64 n1, .bool (within (num2 (stx W 1)) 1 5)])) [.blk b2 95 [sv (stx W 0), .int .i64 0, sv ([]), .int .i64 0, .slice none 0 0], .own (.slice (some ⟨b0, 0, none⟩) (W.length) (W.length)) 9 1 (W.length) (strs W), .blk b1 95 [sv ([]), .int .i64 0, sv ([]), .int .i64 0, .slice none 0 0]]
   refine Run.p (.tuple #[.int .i64 n1, .bool (within (num2 (stx W 1)) 1 5)]) rfl rfl ?_
   refine Run.p (.int .i64 n1) rfl rfl ?_
   refine Run.p (.bool (within (num2 (stx W 1)) 1 5)) rfl rfl ?_
   refine Run.y (.pointer (some ⟨b2, 3, none⟩)) rfl (OpY.fieldAddr Tfo_95_3 rfl rfl) ?_
   refine Run.step rfl (OpStep.store (us := [.int .i64 n1]) Tsize_3 rfl rfl rfl (.here _) (by simp only [List.length_cons, List.length_nil]; omega) ?_)
   show Run _ _ _ [.blk b2 95 [sv (stx W 0), .int .i64 0, sv ([]), .int .i64 n1, .slice none 0 0], .own (.slice (some ⟨b0, 0, none⟩) (W.length) (W.length)) 9 1 (W.length) (strs W), .blk b1 95 [sv ([]), .int .i64 0, sv ([]), .int .i64 0, .slice none 0 0]]
   refine Run.p (.bool (within (num2 (stx W 1)) 1 5)) rfl rfl ?_
   refine Run.done ?_
   refine Run.blockEnd ?_
   refine Run.sr ?_
   refine Run.y (.agg #[sv (stx W 0), .int .i64 0, sv ([]), .int .i64 n1, .slice none 0 0]) rfl (OpY.loadN (cs := [sv (stx W 0), .int .i64 0, sv ([]), .int .i64 n1, .slice none 0 0]) Tagg_95 rfl (Cells.blk (.head _) ⟨rfl, rfl, rfl, rfl, rfl, trivial⟩)) ?_
   refine Run.p (.bool (within (num2 (stx W 1)) 1 5)) rfl rfl ?_
   refine Run.step rfl (OpStep.storeAll (us := [sv (stx W 0), .int .i64 0, sv ([]), .int .i64 n1, .slice none 0 0]) Tsize_95 rfl rfl rfl (.there _ (.there _ (.here _))) rfl ?_)
   refine Run.p (.bool (within (num2 (stx W 1)) 1 5)) rfl rfl ?_
   refine Run.done ?_
   refine Run.ret ?_
   refine ⟨.tuple #[.agg #[sv (stx W 0), .int .i64 0, sv ([]), .int .i64 n1, .slice none 0 0], .bool (within (num2 (stx W 1)) 1 5)], [.own (.slice none 0 0) 3 1 0 (ints [])], Out.cell2 (cs := [sv (stx W 0), .int .i64 0, sv ([]), .int .i64 n1, .slice none 0 0]) rfl Tagg_95 rfl (Cells.blk (.tail _ (.tail _ (List.Mem.head _))) ⟨rfl, rfl, rfl, rfl, rfl, trivial⟩) rfl, ((Weak.nilOwn 3 1).trans (Some'.weak (.takeEq (by first | rfl | simp [ints]) (.nil _)))), ?_⟩
   refine ⟨_, _, _, _, _, [], _, rfl, rfl, ?_⟩
   rw [lineB, hW]
   first | exact lnQ p20 p24 hn1 | exact lnQ0 p20 p24 | exact lnR p33 p38 p43 hn1 | exact lnR0 p33 (.inl (of_beq_false h38)) | exact lnR0 p33 (.inr p43) | exact lnD p52 p57 p63 p68 hn1 | exact lnD0 p52 (.inl (of_beq_false h57)) | exact lnD0 p52 (.inr (.inl (of_beq_falseB h63))) | exact lnD0 p52 (.inr (.inr h68)) | exact lnC p81 p86 p91 | exact lnC0 p81 (.inl (of_decide_eq_false h86)) | exact lnC0 p81 (.inr h91) | exact lnE p103 | exact lnG p20 p33 p52 p81 p103
  ·have p24 := h24; try simp only [bs] at p24
   refine Run.skip ?_
   refine Run.blockEnd ?_
   refine Run.sr ?_
   refine Run.y (.agg #[sv (stx W 0), .int .i64 0, sv ([]), .int .i64 0, .slice none 0 0]) rfl (OpY.loadN (cs := [sv (stx W 0), .int .i64 0, sv ([]), .int .i64 0, .slice none 0 0]) Tagg_95 rfl (Cells.blk (.head _) ⟨rfl, rfl, rfl, rfl, rfl, trivial⟩)) ?_
   refine Run.p (.bool false) rfl rfl ?_
   refine Run.step rfl (OpStep.storeAll (us := [sv (stx W 0), .int .i64 0, sv ([]), .int .i64 0, .slice none 0 0]) Tsize_95 rfl rfl rfl (.there _ (.there _ (.here _))) rfl ?_)
   refine Run.p (.bool false) rfl rfl ?_
   refine Run.done ?_
   refine Run.ret ?_
   refine ⟨.tuple #[.agg #[sv (stx W 0), .int .i64 0, sv ([]), .int .i64 0, .slice none 0 0], .bool false], [.own (.slice none 0 0) 3 1 0 (ints [])], Out.cell2 (cs := [sv (stx W 0), .int .i64 0, sv ([]), .int .i64 0, .slice none 0 0]) rfl Tagg_95 rfl (Cells.blk (.tail _ (.tail _ (List.Mem.head _))) ⟨rfl, rfl, rfl, rfl, rfl, trivial⟩) rfl, ((Weak.nilOwn 3 1).trans (Some'.weak (.takeEq (by first | rfl | simp [ints]) (.nil _)))), ?_⟩
   refine ⟨_, _, _, _, _, [], _, rfl, rfl, ?_⟩
   rw [lineB, hW]
   first | exact lnQ p20 p24 hn1 | exact lnQ0 p20 p24 | exact lnR p33 p38 p43 hn1 | exact lnR0 p33 (.inl (of_beq_false h38)) | exact lnR0 p33 (.inr p43) | exact lnD p52 p57 p63 p68 hn1 | exact lnD0 p52 (.inl (of_beq_false h57)) | exact lnD0 p52 (.inr (.inl (of_beq_falseB h63))) | exact lnD0 p52 (.inr (.inr h68)) | exact lnC p81 p86 p91 | exact lnC0 p81 (.inl (of_decide_eq_false h86)) | exact lnC0 p81 (.inr h91) | exact lnE p103 | exact lnG p20 p33 p52 p81 p103
 ·have p20 := h20; try simp only [bs] at p20
  refine Run.sr ?_
  refine Run.y (.bool ((stx W 0) == ([114, 101, 112, 101, 97, 116]))) rfl (OpY.eqS rfl rfl) ?_
  refine Run.p (.bool ((stx W 0) == ([114, 101, 112, 101, 97, 116]))) rfl rfl ?_
  refine Run.done ?_
  refine Run.cond (b := (stx W 0) == ([114, 101, 112, 101, 97, 116])) rfl (fun h33 => ?_) (fun h33 => ?_)
  ·have p33 := h33; try simp only [bs] at p33
   refine Run.sr ?_
   refine Run.p (.slice (some ⟨b0, 0, none⟩) (W.length) (W.length)) rfl rfl ?_
   refine Run.y (.int .i64 (((W.length : Nat) : Int))) rfl (OpY.len Tsl_40 rfl) ?_
   refine Run.p (.bool ((((W.length : Nat) : Int)) == 3)) rfl rfl ?_
   rcases Bool.eq_false_or_eq_true ((((W.length : Nat) : Int)) == 3) with h38 | h38
   ·refine Run.q (v := .bool true) rfl (OpQ.y (OpY.moveB rfl h38)) ?_
    have p38 := h38; try simp only [bs] at p38
    refine Run.p (.slice (some ⟨b0, 0, none⟩) (W.length) (W.length)) rfl rfl ?_
    refine Run.y (.pointer (some ⟨b0, 2, none⟩)) rfl (OpY.index (kk := 2) Tsl_40 rfl rfl (by omega) (by omega) (by first | rfl | omega)) ?_
    refine Run.y (sv (stx W 2)) rfl (OpY.load1 Tone_9 rfl (Cells.own0 (.tail _ (List.Mem.head _)) (preS (by omega)))) ?_
    refine Run.y (.bool ((stx W 2) == ([123]))) rfl (OpY.eqS rfl rfl) ?_
    refine Run.p (.bool ((stx W 2) == ([123]))) rfl rfl ?_
    refine Run.done ?_
    refine Run.cond (b := (stx W 2) == ([123])) rfl (fun h43 => ?_) (fun h43 => ?_)
    ·have p43 := h43; try simp only [bs] at p43
     refine Run.region ?_
     refine Run.p (.slice (some ⟨b0, 0, none⟩) (W.length) (W.length)) rfl rfl ?_
     refine Run.y (.pointer (some ⟨b0, 1, none⟩)) rfl (OpY.index (kk := 1) Tsl_40 rfl rfl (by omega) (by omega) (by first | rfl | omega)) ?_
     refine Run.y (sv (stx W 1)) rfl (OpY.load1 Tone_9 rfl (Cells.own0 (.tail _ (List.Mem.head _)) (preS (by omega)))) ?_
     refine Run.step rfl (OpStep.call (vs := [sv (stx W 1), .int .i64 2, .int .i64 99]) (caps := []) Tcall_104 rfl rfl (fun w hs => numberIn_spec (hg.go hs) (stx_len hWl _) (by decide)) ?_)
     rintro _ _ ⟨n1, rfl, hn1, rfl⟩
     show Run _ _ (putF _ _ _ (.tuple #[.int .i64 n1, .bool (within (num2 (stx W 1)) 2 99)])) [.blk b2 95 [sv (stx W 0), .int .i64 0, sv ([]), .int .i64 0, .slice none 0 0], .own (.slice (some ⟨b0, 0, none⟩) (W.length) (W.length)) 9 1 (W.length) (strs W), .blk b1 95 [sv ([]), .int .i64 0, sv ([]), .int .i64 0, .slice none 0 0]]
     refine Run.p (.tuple #[.int .i64 n1, .bool (within (num2 (stx W 1)) 2 99)]) rfl rfl ?_
     refine Run.p (.int .i64 n1) rfl rfl ?_
     refine Run.p (.bool (within (num2 (stx W 1)) 2 99)) rfl rfl ?_
     refine Run.y (.pointer (some ⟨b2, 3, none⟩)) rfl (OpY.fieldAddr Tfo_95_3 rfl rfl) ?_
     refine Run.step rfl (OpStep.store (us := [.int .i64 n1]) Tsize_3 rfl rfl rfl (.here _) (by simp only [List.length_cons, List.length_nil]; omega) ?_)
     show Run _ _ _ [.blk b2 95 [sv (stx W 0), .int .i64 0, sv ([]), .int .i64 n1, .slice none 0 0], .own (.slice (some ⟨b0, 0, none⟩) (W.length) (W.length)) 9 1 (W.length) (strs W), .blk b1 95 [sv ([]), .int .i64 0, sv ([]), .int .i64 0, .slice none 0 0]]
     refine Run.p (.bool (within (num2 (stx W 1)) 2 99)) rfl rfl ?_
     refine Run.done ?_
     refine Run.blockEnd ?_
     refine Run.sr ?_
     refine Run.y (.agg #[sv (stx W 0), .int .i64 0, sv ([]), .int .i64 n1, .slice none 0 0]) rfl (OpY.loadN (cs := [sv (stx W 0), .int .i64 0, sv ([]), .int .i64 n1, .slice none 0 0]) Tagg_95 rfl (Cells.blk (.head _) ⟨rfl, rfl, rfl, rfl, rfl, trivial⟩)) ?_
     refine Run.p (.bool (within (num2 (stx W 1)) 2 99)) rfl rfl ?_
     refine Run.step rfl (OpStep.storeAll (us := [sv (stx W 0), .int .i64 0, sv ([]), .int .i64 n1, .slice none 0 0]) Tsize_95 rfl rfl rfl (.there _ (.there _ (.here _))) rfl ?_)
     refine Run.p (.bool (within (num2 (stx W 1)) 2 99)) rfl rfl ?_
     refine Run.done ?_
     refine Run.ret ?_
     refine ⟨.tuple #[.agg #[sv (stx W 0), .int .i64 0, sv ([]), .int .i64 n1, .slice none 0 0], .bool (within (num2 (stx W 1)) 2 99)], [.own (.slice none 0 0) 3 1 0 (ints [])], Out.cell2 (cs := [sv (stx W 0), .int .i64 0, sv ([]), .int .i64 n1, .slice none 0 0]) rfl Tagg_95 rfl (Cells.blk (.tail _ (.tail _ (List.Mem.head _))) ⟨rfl, rfl, rfl, rfl, rfl, trivial⟩) rfl, ((Weak.nilOwn 3 1).trans (Some'.weak (.takeEq (by first | rfl | simp [ints]) (.nil _)))), ?_⟩
     refine ⟨_, _, _, _, _, [], _, rfl, rfl, ?_⟩
     rw [lineB, hW]
     first | exact lnQ p20 p24 hn1 | exact lnQ0 p20 p24 | exact lnR p33 p38 p43 hn1 | exact lnR0 p33 (.inl (of_beq_false h38)) | exact lnR0 p33 (.inr p43) | exact lnD p52 p57 p63 p68 hn1 | exact lnD0 p52 (.inl (of_beq_false h57)) | exact lnD0 p52 (.inr (.inl (of_beq_falseB h63))) | exact lnD0 p52 (.inr (.inr h68)) | exact lnC p81 p86 p91 | exact lnC0 p81 (.inl (of_decide_eq_false h86)) | exact lnC0 p81 (.inr h91) | exact lnE p103 | exact lnG p20 p33 p52 p81 p103
    ·have p43 := h43; try simp only [bs] at p43
     refine Run.skip ?_
     refine Run.blockEnd ?_
     refine Run.sr ?_
     refine Run.y (.agg #[sv (stx W 0), .int .i64 0, sv ([]), .int .i64 0, .slice none 0 0]) rfl (OpY.loadN (cs := [sv (stx W 0), .int .i64 0, sv ([]), .int .i64 0, .slice none 0 0]) Tagg_95 rfl (Cells.blk (.head _) ⟨rfl, rfl, rfl, rfl, rfl, trivial⟩)) ?_
     refine Run.p (.bool false) rfl rfl ?_
     refine Run.step rfl (OpStep.storeAll (us := [sv (stx W 0), .int .i64 0, sv ([]), .int .i64 0, .slice none 0 0]) Tsize_95 rfl rfl rfl (.there _ (.there _ (.here _))) rfl ?_)
     refine Run.p (.bool false) rfl rfl ?_
     refine Run.done ?_
     refine Run.ret ?_
     refine ⟨.tuple #[.agg #[sv (stx W 0), .int .i64 0, sv ([]), .int .i64 0, .slice none 0 0], .bool false], [.own (.slice none 0 0) 3 1 0 (ints [])], Out.cell2 (cs := [sv (stx W 0), .int .i64 0, sv ([]), .int .i64 0, .slice none 0 0]) rfl Tagg_95 rfl (Cells.blk (.tail _ (.tail _ (List.Mem.head _))) ⟨rfl, rfl, rfl, rfl, rfl, trivial⟩) rfl, ((Weak.nilOwn 3 1).trans (Some'.weak (.takeEq (by first | rfl | simp [ints]) (.nil _)))), ?_⟩
     refine ⟨_, _, _, _, _, [], _, rfl, rfl, ?_⟩
     rw [lineB, hW]
     first | exact lnQ p20 p24 hn1 | exact lnQ0 p20 p24 | exact lnR p33 p38 p43 hn1 | exact lnR0 p33 (.inl (of_beq_false h38)) | exact lnR0 p33 (.inr p43) | exact lnD p52 p57 p63 p68 hn1 | exact lnD0 p52 (.inl (of_beq_false h57)) | exact lnD0 p52 (.inr (.inl (of_beq_falseB h63))) | exact lnD0 p52 (.inr (.inr h68)) | exact lnC p81 p86 p91 | exact lnC0 p81 (.inl (of_decide_eq_false h86)) | exact lnC0 p81 (.inr h91) | exact lnE p103 | exact lnG p20 p33 p52 p81 p103
   ·refine Run.q (v := .bool false) rfl (OpQ.y (OpY.moveB rfl h38)) ?_
    have p38 := h38; try simp only [bs] at p38
    refine Run.pass rfl ?_
    refine Run.pass rfl ?_
    refine Run.pass rfl ?_
    refine Run.pass rfl ?_
    refine Run.p (.bool false) rfl rfl ?_
    refine Run.done ?_
    refine Run.cond (b := false) rfl (fun h => nomatch h) (fun _ => ?_)
    refine Run.skip ?_
    refine Run.blockEnd ?_
    refine Run.sr ?_
    refine Run.y (.agg #[sv (stx W 0), .int .i64 0, sv ([]), .int .i64 0, .slice none 0 0]) rfl (OpY.loadN (cs := [sv (stx W 0), .int .i64 0, sv ([]), .int .i64 0, .slice none 0 0]) Tagg_95 rfl (Cells.blk (.head _) ⟨rfl, rfl, rfl, rfl, rfl, trivial⟩)) ?_
    refine Run.p (.bool false) rfl rfl ?_
    refine Run.step rfl (OpStep.storeAll (us := [sv (stx W 0), .int .i64 0, sv ([]), .int .i64 0, .slice none 0 0]) Tsize_95 rfl rfl rfl (.there _ (.there _ (.here _))) rfl ?_)
    refine Run.p (.bool false) rfl rfl ?_
    refine Run.done ?_
    refine Run.ret ?_
    refine ⟨.tuple #[.agg #[sv (stx W 0), .int .i64 0, sv ([]), .int .i64 0, .slice none 0 0], .bool false], [.own (.slice none 0 0) 3 1 0 (ints [])], Out.cell2 (cs := [sv (stx W 0), .int .i64 0, sv ([]), .int .i64 0, .slice none 0 0]) rfl Tagg_95 rfl (Cells.blk (.tail _ (.tail _ (List.Mem.head _))) ⟨rfl, rfl, rfl, rfl, rfl, trivial⟩) rfl, ((Weak.nilOwn 3 1).trans (Some'.weak (.takeEq (by first | rfl | simp [ints]) (.nil _)))), ?_⟩
    refine ⟨_, _, _, _, _, [], _, rfl, rfl, ?_⟩
    rw [lineB, hW]
    first | exact lnQ p20 p24 hn1 | exact lnQ0 p20 p24 | exact lnR p33 p38 p43 hn1 | exact lnR0 p33 (.inl (of_beq_false h38)) | exact lnR0 p33 (.inr p43) | exact lnD p52 p57 p63 p68 hn1 | exact lnD0 p52 (.inl (of_beq_false h57)) | exact lnD0 p52 (.inr (.inl (of_beq_falseB h63))) | exact lnD0 p52 (.inr (.inr h68)) | exact lnC p81 p86 p91 | exact lnC0 p81 (.inl (of_decide_eq_false h86)) | exact lnC0 p81 (.inr h91) | exact lnE p103 | exact lnG p20 p33 p52 p81 p103
  ·have p33 := h33; try simp only [bs] at p33
   refine Run.sr ?_
   refine Run.y (.bool ((stx W 0) == ([100, 101, 102]))) rfl (OpY.eqS rfl rfl) ?_
   refine Run.p (.bool ((stx W 0) == ([100, 101, 102]))) rfl rfl ?_
   refine Run.done ?_
   refine Run.cond (b := (stx W 0) == ([100, 101, 102])) rfl (fun h52 => ?_) (fun h52 => ?_)
   ·have p52 := h52; try simp only [bs] at p52
    refine Run.sr ?_
    refine Run.p (.slice (some ⟨b0, 0, none⟩) (W.length) (W.length)) rfl rfl ?_
    refine Run.y (.int .i64 (((W.length : Nat) : Int))) rfl (OpY.len Tsl_40 rfl) ?_
    refine Run.p (.bool ((((W.length : Nat) : Int)) == 4)) rfl rfl ?_
    rcases Bool.eq_false_or_eq_true ((((W.length : Nat) : Int)) == 4) with h57 | h57
    ·refine Run.q (v := .bool true) rfl (OpQ.y (OpY.moveB rfl h57)) ?_
     have p57 := h57; try simp only [bs] at p57
     refine Run.p (.slice (some ⟨b0, 0, none⟩) (W.length) (W.length)) rfl rfl ?_
     refine Run.y (.pointer (some ⟨b0, 3, none⟩)) rfl (OpY.index (kk := 3) Tsl_40 rfl rfl (by omega) (by omega) (by first | rfl | omega)) ?_
     refine Run.y (sv (stx W 3)) rfl (OpY.load1 Tone_9 rfl (Cells.own0 (.tail _ (List.Mem.head _)) (preS (by omega)))) ?_
     refine Run.y (.bool ((stx W 3) == ([123]))) rfl (OpY.eqS rfl rfl) ?_
     refine Run.p (.bool ((stx W 3) == ([123]))) rfl rfl ?_
     rcases Bool.eq_false_or_eq_true ((stx W 3) == ([123])) with h63 | h63
     ·refine Run.q (v := .bool true) rfl (OpQ.y (OpY.moveB rfl h63)) ?_
      have p63 := h63; try simp only [bs] at p63
      refine Run.p (.slice (some ⟨b0, 0, none⟩) (W.length) (W.length)) rfl rfl ?_
      refine Run.y (.pointer (some ⟨b0, 1, none⟩)) rfl (OpY.index (kk := 1) Tsl_40 rfl rfl (by omega) (by omega) (by first | rfl | omega)) ?_
      refine Run.y (sv (stx W 1)) rfl (OpY.load1 Tone_9 rfl (Cells.own0 (.tail _ (List.Mem.head _)) (preS (by omega)))) ?_
      refine Run.q (v := .bool (nameB (stx W 1))) rfl (OpQ.call (vs := [sv (stx W 1)]) (caps := []) Tcall_105 rfl rfl (fun w hs => IsSubcircuitName_spec (by have := stx_len hWl 1; omega) w)) ?_
      refine Run.p (.bool (nameB (stx W 1))) rfl rfl ?_
      refine Run.done ?_
      refine Run.cond (b := nameB (stx W 1)) rfl (fun h68 => ?_) (fun h68 => ?_)
      ·have p68 := h68; try simp only [bs] at p68
       refine Run.sr ?_
       refine Run.p (.slice (some ⟨b0, 0, none⟩) (W.length) (W.length)) rfl rfl ?_
       refine Run.y (.pointer (some ⟨b0, 1, none⟩)) rfl (OpY.index (kk := 1) Tsl_40 rfl rfl (by omega) (by omega) (by first | rfl | omega)) ?_
       refine Run.y (sv (stx W 1)) rfl (OpY.load1 Tone_9 rfl (Cells.own0 (.tail _ (List.Mem.head _)) (preS (by omega)))) ?_
       refine Run.y (.pointer (some ⟨b2, 2, none⟩)) rfl (OpY.fieldAddr Tfo_95_2 rfl rfl) ?_
       refine Run.step rfl (OpStep.store (us := [sv (stx W 1)]) Tsize_9 rfl rfl rfl (.here _) (by simp only [List.length_cons, List.length_nil]; omega) ?_)
       show Run _ _ _ [.blk b2 95 [sv (stx W 0), .int .i64 0, sv (stx W 1), .int .i64 0, .slice none 0 0], .own (.slice (some ⟨b0, 0, none⟩) (W.length) (W.length)) 9 1 (W.length) (strs W), .blk b1 95 [sv ([]), .int .i64 0, sv ([]), .int .i64 0, .slice none 0 0]]
       refine Run.dr ?_
       refine Run.p (.slice (some ⟨b0, 0, none⟩) (W.length) (W.length)) rfl rfl ?_
       refine Run.y (.pointer (some ⟨b0, 2, none⟩)) rfl (OpY.index (kk := 2) Tsl_40 rfl rfl (by omega) (by omega) (by first | rfl | omega)) ?_
       refine Run.y (sv (stx W 2)) rfl (OpY.load1 Tone_9 rfl (Cells.own0 (.tail _ (List.Mem.head _)) (preS (by omega)))) ?_
       refine Run.step rfl (OpStep.call (vs := [sv (stx W 2), .int .i64 1, .int .i64 5]) (caps := []) Tcall_104 rfl rfl (fun w hs => numberIn_spec (hg.go hs) (stx_len hWl _) (by decide)) ?_)
       rintro _ _ ⟨n1, rfl, hn1, rfl⟩
       show Run _ _ (putF _ _ _ (.tuple #[.int .i64 n1, .bool (within (num2 (stx W 2)) 1 5)])) [.blk b2 95 [sv (stx W 0), .int .i64 0, sv (stx W 1), .int .i64 0, .slice none 0 0], .own (.slice (some ⟨b0, 0, none⟩) (W.length) (W.length)) 9 1 (W.length) (strs W), .blk b1 95 [sv ([]), .int .i64 0, sv ([]), .int .i64 0, .slice none 0 0]]
       refine Run.p (.tuple #[.int .i64 n1, .bool (within (num2 (stx W 2)) 1 5)]) rfl rfl ?_
       refine Run.p (.int .i64 n1) rfl rfl ?_
       refine Run.p (.bool (within (num2 (stx W 2)) 1 5)) rfl rfl ?_
       refine Run.y (.pointer (some ⟨b2, 3, none⟩)) rfl (OpY.fieldAddr Tfo_95_3 rfl rfl) ?_
       refine Run.step rfl (OpStep.store (us := [.int .i64 n1]) Tsize_3 rfl rfl rfl (.here _) (by simp only [List.length_cons, List.length_nil]; omega) ?_)
       show Run _ _ _ [.blk b2 95 [sv (stx W 0), .int .i64 0, sv (stx W 1), .int .i64 n1, .slice none 0 0], .own (.slice (some ⟨b0, 0, none⟩) (W.length) (W.length)) 9 1 (W.length) (strs W), .blk b1 95 [sv ([]), .int .i64 0, sv ([]), .int .i64 0, .slice none 0 0]]
       refine Run.p (.bool (within (num2 (stx W 2)) 1 5)) rfl rfl ?_
       refine Run.done ?_
       refine Run.blockEnd ?_
       refine Run.sr ?_
       refine Run.y (.agg #[sv (stx W 0), .int .i64 0, sv (stx W 1), .int .i64 n1, .slice none 0 0]) rfl (OpY.loadN (cs := [sv (stx W 0), .int .i64 0, sv (stx W 1), .int .i64 n1, .slice none 0 0]) Tagg_95 rfl (Cells.blk (.head _) ⟨rfl, rfl, rfl, rfl, rfl, trivial⟩)) ?_
       refine Run.p (.bool (within (num2 (stx W 2)) 1 5)) rfl rfl ?_
       refine Run.step rfl (OpStep.storeAll (us := [sv (stx W 0), .int .i64 0, sv (stx W 1), .int .i64 n1, .slice none 0 0]) Tsize_95 rfl rfl rfl (.there _ (.there _ (.here _))) rfl ?_)
       refine Run.p (.bool (within (num2 (stx W 2)) 1 5)) rfl rfl ?_
       refine Run.done ?_
       refine Run.ret ?_
       refine ⟨.tuple #[.agg #[sv (stx W 0), .int .i64 0, sv (stx W 1), .int .i64 n1, .slice none 0 0], .bool (within (num2 (stx W 2)) 1 5)], [.own (.slice none 0 0) 3 1 0 (ints [])], Out.cell2 (cs := [sv (stx W 0), .int .i64 0, sv (stx W 1), .int .i64 n1, .slice none 0 0]) rfl Tagg_95 rfl (Cells.blk (.tail _ (.tail _ (List.Mem.head _))) ⟨rfl, rfl, rfl, rfl, rfl, trivial⟩) rfl, ((Weak.nilOwn 3 1).trans (Some'.weak (.takeEq (by first | rfl | simp [ints]) (.nil _)))), ?_⟩
       refine ⟨_, _, _, _, _, [], _, rfl, rfl, ?_⟩
       rw [lineB, hW]
       first | exact lnQ p20 p24 hn1 | exact lnQ0 p20 p24 | exact lnR p33 p38 p43 hn1 | exact lnR0 p33 (.inl (of_beq_false h38)) | exact lnR0 p33 (.inr p43) | exact lnD p52 p57 p63 p68 hn1 | exact lnD0 p52 (.inl (of_beq_false h57)) | exact lnD0 p52 (.inr (.inl (of_beq_falseB h63))) | exact lnD0 p52 (.inr (.inr h68)) | exact lnC p81 p86 p91 | exact lnC0 p81 (.inl (of_decide_eq_false h86)) | exact lnC0 p81 (.inr h91) | exact lnE p103 | exact lnG p20 p33 p52 p81 p103
      ·have p68 := h68; try simp only [bs] at p68
       refine Run.skip ?_
       refine Run.blockEnd ?_
       refine Run.sr ?_
       refine Run.y (.agg #[sv (stx W 0), .int .i64 0, sv ([]), .int .i64 0, .slice none 0 0]) rfl (OpY.loadN (cs := [sv (stx W 0), .int .i64 0, sv ([]), .int .i64 0, .slice none 0 0]) Tagg_95 rfl (Cells.blk (.head _) ⟨rfl, rfl, rfl, rfl, rfl, trivial⟩)) ?_
       refine Run.p (.bool false) rfl rfl ?_
       refine Run.step rfl (OpStep.storeAll (us := [sv (stx W 0), .int .i64 0, sv ([]), .int .i64 0, .slice none 0 0]) Tsize_95 rfl rfl rfl (.there _ (.there _ (.here _))) rfl ?_)
       refine Run.p (.bool false) rfl rfl ?_
       refine Run.done ?_
       refine Run.ret ?_
       refine ⟨.tuple #[.agg #[sv (stx W 0), .int .i64 0, sv ([]), .int .i64 0, .slice none 0 0], .bool false], [.own (.slice none 0 0) 3 1 0 (ints [])], Out.cell2 (cs := [sv (stx W 0), .int .i64 0, sv ([]), .int .i64 0, .slice none 0 0]) rfl Tagg_95 rfl (Cells.blk (.tail _ (.tail _ (List.Mem.head _))) ⟨rfl, rfl, rfl, rfl, rfl, trivial⟩) rfl, ((Weak.nilOwn 3 1).trans (Some'.weak (.takeEq (by first | rfl | simp [ints]) (.nil _)))), ?_⟩
       refine ⟨_, _, _, _, _, [], _, rfl, rfl, ?_⟩
       rw [lineB, hW]
       first | exact lnQ p20 p24 hn1 | exact lnQ0 p20 p24 | exact lnR p33 p38 p43 hn1 | exact lnR0 p33 (.inl (of_beq_false h38)) | exact lnR0 p33 (.inr p43) | exact lnD p52 p57 p63 p68 hn1 | exact lnD0 p52 (.inl (of_beq_false h57)) | exact lnD0 p52 (.inr (.inl (of_beq_falseB h63))) | exact lnD0 p52 (.inr (.inr h68)) | exact lnC p81 p86 p91 | exact lnC0 p81 (.inl (of_decide_eq_false h86)) | exact lnC0 p81 (.inr h91) | exact lnE p103 | exact lnG p20 p33 p52 p81 p103
     ·refine Run.q (v := .bool false) rfl (OpQ.y (OpY.moveB rfl h63)) ?_
      have p63 := h63; try simp only [bs] at p63
      refine Run.pass rfl ?_
      refine Run.pass rfl ?_
      refine Run.pass rfl ?_
      refine Run.pass rfl ?_
      refine Run.p (.bool false) rfl rfl ?_
      refine Run.done ?_
      refine Run.cond (b := false) rfl (fun h => nomatch h) (fun _ => ?_)
      refine Run.skip ?_
      refine Run.blockEnd ?_
      refine Run.sr ?_
      refine Run.y (.agg #[sv (stx W 0), .int .i64 0, sv ([]), .int .i64 0, .slice none 0 0]) rfl (OpY.loadN (cs := [sv (stx W 0), .int .i64 0, sv ([]), .int .i64 0, .slice none 0 0]) Tagg_95 rfl (Cells.blk (.head _) ⟨rfl, rfl, rfl, rfl, rfl, trivial⟩)) ?_
      refine Run.p (.bool false) rfl rfl ?_
      refine Run.step rfl (OpStep.storeAll (us := [sv (stx W 0), .int .i64 0, sv ([]), .int .i64 0, .slice none 0 0]) Tsize_95 rfl rfl rfl (.there _ (.there _ (.here _))) rfl ?_)
      refine Run.p (.bool false) rfl rfl ?_
      refine Run.done ?_
      refine Run.ret ?_
      refine ⟨.tuple #[.agg #[sv (stx W 0), .int .i64 0, sv ([]), .int .i64 0, .slice none 0 0], .bool false], [.own (.slice none 0 0) 3 1 0 (ints [])], Out.cell2 (cs := [sv (stx W 0), .int .i64 0, sv ([]), .int .i64 0, .slice none 0 0]) rfl Tagg_95 rfl (Cells.blk (.tail _ (.tail _ (List.Mem.head _))) ⟨rfl, rfl, rfl, rfl, rfl, trivial⟩) rfl, ((Weak.nilOwn 3 1).trans (Some'.weak (.takeEq (by first | rfl | simp [ints]) (.nil _)))), ?_⟩
      refine ⟨_, _, _, _, _, [], _, rfl, rfl, ?_⟩
      rw [lineB, hW]
      first | exact lnQ p20 p24 hn1 | exact lnQ0 p20 p24 | exact lnR p33 p38 p43 hn1 | exact lnR0 p33 (.inl (of_beq_false h38)) | exact lnR0 p33 (.inr p43) | exact lnD p52 p57 p63 p68 hn1 | exact lnD0 p52 (.inl (of_beq_false h57)) | exact lnD0 p52 (.inr (.inl (of_beq_falseB h63))) | exact lnD0 p52 (.inr (.inr h68)) | exact lnC p81 p86 p91 | exact lnC0 p81 (.inl (of_decide_eq_false h86)) | exact lnC0 p81 (.inr h91) | exact lnE p103 | exact lnG p20 p33 p52 p81 p103
    ·refine Run.q (v := .bool false) rfl (OpQ.y (OpY.moveB rfl h57)) ?_
     have p57 := h57; try simp only [bs] at p57
     refine Run.pass rfl ?_
     refine Run.pass rfl ?_
     refine Run.pass rfl ?_
     refine Run.pass rfl ?_
     refine Run.p (.bool false) rfl rfl ?_
     refine Run.p (.bool false) rfl rfl ?_
     refine Run.pass rfl ?_
     refine Run.pass rfl ?_
     refine Run.pass rfl ?_
     refine Run.pass rfl ?_
     refine Run.p (.bool false) rfl rfl ?_
     refine Run.done ?_
     refine Run.cond (b := false) rfl (fun h => nomatch h) (fun _ => ?_)
     refine Run.skip ?_
     refine Run.blockEnd ?_
     refine Run.sr ?_
     refine Run.y (.agg #[sv (stx W 0), .int .i64 0, sv ([]), .int .i64 0, .slice none 0 0]) rfl (OpY.loadN (cs := [sv (stx W 0), .int .i64 0, sv ([]), .int .i64 0, .slice none 0 0]) Tagg_95 rfl (Cells.blk (.head _) ⟨rfl, rfl, rfl, rfl, rfl, trivial⟩)) ?_
     refine Run.p (.bool false) rfl rfl ?_
     refine Run.step rfl (OpStep.storeAll (us := [sv (stx W 0), .int .i64 0, sv ([]), .int .i64 0, .slice none 0 0]) Tsize_95 rfl rfl rfl (.there _ (.there _ (.here _))) rfl ?_)
     refine Run.p (.bool false) rfl rfl ?_
     refine Run.done ?_
     refine Run.ret ?_
     refine ⟨.tuple #[.agg #[sv (stx W 0), .int .i64 0, sv ([]), .int .i64 0, .slice none 0 0], .bool false], [.own (.slice none 0 0) 3 1 0 (ints [])], Out.cell2 (cs := [sv (stx W 0), .int .i64 0, sv ([]), .int .i64 0, .slice none 0 0]) rfl Tagg_95 rfl (Cells.blk (.tail _ (.tail _ (List.Mem.head _))) ⟨rfl, rfl, rfl, rfl, rfl, trivial⟩) rfl, ((Weak.nilOwn 3 1).trans (Some'.weak (.takeEq (by first | rfl | simp [ints]) (.nil _)))), ?_⟩
     refine ⟨_, _, _, _, _, [], _, rfl, rfl, ?_⟩
     rw [lineB, hW]
     first | exact lnQ p20 p24 hn1 | exact lnQ0 p20 p24 | exact lnR p33 p38 p43 hn1 | exact lnR0 p33 (.inl (of_beq_false h38)) | exact lnR0 p33 (.inr p43) | exact lnD p52 p57 p63 p68 hn1 | exact lnD0 p52 (.inl (of_beq_false h57)) | exact lnD0 p52 (.inr (.inl (of_beq_falseB h63))) | exact lnD0 p52 (.inr (.inr h68)) | exact lnC p81 p86 p91 | exact lnC0 p81 (.inl (of_decide_eq_false h86)) | exact lnC0 p81 (.inr h91) | exact lnE p103 | exact lnG p20 p33 p52 p81 p103
   ·have p52 := h52; try simp only [bs] at p52
    refine Run.sr ?_
    refine Run.y (.bool ((stx W 0) == ([99, 97, 108, 108]))) rfl (OpY.eqS rfl rfl) ?_
    refine Run.p (.bool ((stx W 0) == ([99, 97, 108, 108]))) rfl rfl ?_
    refine Run.done ?_
    refine Run.cond (b := (stx W 0) == ([99, 97, 108, 108])) rfl (fun h81 => ?_) (fun h81 => ?_)
    ·have p81 := h81; try simp only [bs] at p81
     refine Run.sr ?_
     refine Run.p (.slice (some ⟨b0, 0, none⟩) (W.length) (W.length)) rfl rfl ?_
     refine Run.y (.int .i64 (((W.length : Nat) : Int))) rfl (OpY.len Tsl_40 rfl) ?_
     refine Run.p (.bool (decide ((((W.length : Nat) : Int)) ≥ 3))) rfl rfl ?_
     rcases Bool.eq_false_or_eq_true (decide ((((W.length : Nat) : Int)) ≥ 3)) with h86 | h86
     ·refine Run.q (v := .bool true) rfl (OpQ.y (OpY.moveB rfl h86)) ?_
      have p86 := h86; try simp only [bs] at p86
      refine Run.p (.slice (some ⟨b0, 0, none⟩) (W.length) (W.length)) rfl rfl ?_
      refine Run.y (.pointer (some ⟨b0, 1, none⟩)) rfl (OpY.index (kk := 1) Tsl_40 rfl rfl (by omega) (by omega) (by first | rfl | omega)) ?_
      refine Run.y (sv (stx W 1)) rfl (OpY.load1 Tone_9 rfl (Cells.own0 (.tail _ (List.Mem.head _)) (preS (by omega)))) ?_
      refine Run.q (v := .bool (nameB (stx W 1))) rfl (OpQ.call (vs := [sv (stx W 1)]) (caps := []) Tcall_105 rfl rfl (fun w hs => IsSubcircuitName_spec (by have := stx_len hWl 1; omega) w)) ?_
      refine Run.p (.bool (nameB (stx W 1))) rfl rfl ?_
      refine Run.done ?_
      refine Run.cond (b := nameB (stx W 1)) rfl (fun h91 => ?_) (fun h91 => ?_)
      ·have p91 := h91; try simp only [bs] at p91
       refine Run.sr ?_
       refine Run.p (.slice (some ⟨b0, 0, none⟩) (W.length) (W.length)) rfl rfl ?_
       refine Run.y (.pointer (some ⟨b0, 1, none⟩)) rfl (OpY.index (kk := 1) Tsl_40 rfl rfl (by omega) (by omega) (by first | rfl | omega)) ?_
       refine Run.y (sv (stx W 1)) rfl (OpY.load1 Tone_9 rfl (Cells.own0 (.tail _ (List.Mem.head _)) (preS (by omega)))) ?_
       refine Run.y (.pointer (some ⟨b2, 2, none⟩)) rfl (OpY.fieldAddr Tfo_95_2 rfl rfl) ?_
       refine Run.step rfl (OpStep.store (us := [sv (stx W 1)]) Tsize_9 rfl rfl rfl (.here _) (by simp only [List.length_cons, List.length_nil]; omega) ?_)
       show Run _ _ _ [.blk b2 95 [sv (stx W 0), .int .i64 0, sv (stx W 1), .int .i64 0, .slice none 0 0], .own (.slice (some ⟨b0, 0, none⟩) (W.length) (W.length)) 9 1 (W.length) (strs W), .blk b1 95 [sv ([]), .int .i64 0, sv ([]), .int .i64 0, .slice none 0 0]]
       refine Run.dr ?_
       refine Run.p (.slice (some ⟨b0, 0, none⟩) (W.length) (W.length)) rfl rfl ?_
       refine Run.y ((sliced (some ⟨b0, 0, none⟩) 2 (W.length) (W.length) 1)) rfl (OpY.sliceL (l := 2) Tsl_40 rfl rfl (by decide) (by omega)) ?_
       refine Run.step rfl (OpStep.call (vs := [(sliced (some ⟨b0, 0, none⟩) 2 (W.length) (W.length) 1)]) (caps := []) Tcall_106 rfl rfl (fun w hs => textNumbers_spec (hg.go hs) ((hs.slOwn (.tail _ (List.Mem.head _))).drop1 (by omega)) (fun s hs => hWl s (List.mem_of_mem_drop hs)) (by omega)) ?_)
       rintro _ _ ⟨v1, rfl, rfl⟩
       show Run _ _ (putF _ _ _ (.tuple #[v1, .bool (allNum (W.drop 2))])) [.own v1 3 1 ((nums (W.drop 2)).length) (ints (nums (W.drop 2))), .blk b2 95 [sv (stx W 0), .int .i64 0, sv (stx W 1), .int .i64 0, .slice none 0 0], .own (.slice (some ⟨b0, 0, none⟩) (W.length) (W.length)) 9 1 (W.length) (strs W), .blk b1 95 [sv ([]), .int .i64 0, sv ([]), .int .i64 0, .slice none 0 0]]
       refine Run.p (.tuple #[v1, .bool (allNum (W.drop 2))]) rfl rfl ?_
       refine Run.p (v1) rfl rfl ?_
       refine Run.p (.bool (allNum (W.drop 2))) rfl rfl ?_
       refine Run.y (.pointer (some ⟨b2, 4, none⟩)) rfl (OpY.fieldAddr Tfo_95_4 rfl rfl) ?_
       refine Run.formOwn (.head _) (fun A_v11 c_v11 hv hcapc_v11 hmaxc_v11 => ?_) (fun _ _ _ => ⟨nofun, nofun, nofun⟩)
       subst hv
       refine Run.step rfl (OpStep.store (us := [.slice A_v11 ((nums (W.drop 2)).length) c_v11]) Tsize_75 rfl rfl rfl (.there _ (.here _)) (by simp only [List.length_cons, List.length_nil]; omega) ?_)
       show Run _ _ _ [.own (.slice A_v11 ((nums (W.drop 2)).length) c_v11) 3 1 ((nums (W.drop 2)).length) (ints (nums (W.drop 2))), .blk b2 95 [sv (stx W 0), .int .i64 0, sv (stx W 1), .int .i64 0, .slice A_v11 ((nums (W.drop 2)).length) c_v11], .own (.slice (some ⟨b0, 0, none⟩) (W.length) (W.length)) 9 1 (W.length) (strs W), .blk b1 95 [sv ([]), .int .i64 0, sv ([]), .int .i64 0, .slice none 0 0]]
       refine Run.p (.bool (allNum (W.drop 2))) rfl rfl ?_
       refine Run.done ?_
       refine Run.blockEnd ?_
       refine Run.sr ?_
       refine Run.y (.agg #[sv (stx W 0), .int .i64 0, sv (stx W 1), .int .i64 0, .slice A_v11 ((nums (W.drop 2)).length) c_v11]) rfl (OpY.loadN (cs := [sv (stx W 0), .int .i64 0, sv (stx W 1), .int .i64 0, .slice A_v11 ((nums (W.drop 2)).length) c_v11]) Tagg_95 rfl (Cells.blk (.tail _ (List.Mem.head _)) ⟨rfl, rfl, rfl, rfl, rfl, trivial⟩)) ?_
       refine Run.p (.bool (allNum (W.drop 2))) rfl rfl ?_
       refine Run.step rfl (OpStep.storeAll (us := [sv (stx W 0), .int .i64 0, sv (stx W 1), .int .i64 0, .slice A_v11 ((nums (W.drop 2)).length) c_v11]) Tsize_95 rfl rfl rfl (.there _ (.there _ (.there _ (.here _)))) rfl ?_)
       refine Run.p (.bool (allNum (W.drop 2))) rfl rfl ?_
       refine Run.done ?_
       refine Run.ret ?_
       refine ⟨.tuple #[.agg #[sv (stx W 0), .int .i64 0, sv (stx W 1), .int .i64 0, .slice A_v11 ((nums (W.drop 2)).length) c_v11], .bool (allNum (W.drop 2))], [.own (.slice A_v11 ((nums (W.drop 2)).length) c_v11) 3 1 ((nums (W.drop 2)).length) (ints (nums (W.drop 2)))], Out.cell2 (cs := [sv (stx W 0), .int .i64 0, sv (stx W 1), .int .i64 0, .slice A_v11 ((nums (W.drop 2)).length) c_v11]) rfl Tagg_95 rfl (Cells.blk (.tail _ (.tail _ (.tail _ (List.Mem.head _)))) ⟨rfl, rfl, rfl, rfl, rfl, trivial⟩) rfl, (Some'.weak (.take (.nil _))), ?_⟩
       refine ⟨_, _, _, _, _, (nums (W.drop 2)), _, rfl, rfl, ?_⟩
       rw [lineB, hW]
       first | exact lnQ p20 p24 hn1 | exact lnQ0 p20 p24 | exact lnR p33 p38 p43 hn1 | exact lnR0 p33 (.inl (of_beq_false h38)) | exact lnR0 p33 (.inr p43) | exact lnD p52 p57 p63 p68 hn1 | exact lnD0 p52 (.inl (of_beq_false h57)) | exact lnD0 p52 (.inr (.inl (of_beq_falseB h63))) | exact lnD0 p52 (.inr (.inr h68)) | exact lnC p81 p86 p91 | exact lnC0 p81 (.inl (of_decide_eq_false h86)) | exact lnC0 p81 (.inr h91) | exact lnE p103 | exact lnG p20 p33 p52 p81 p103
      ·have p91 := h91; try simp only [bs] at p91
       refine Run.skip ?_
       refine Run.blockEnd ?_
       refine Run.sr ?_
       refine Run.y (.agg #[sv (stx W 0), .int .i64 0, sv ([]), .int .i64 0, .slice none 0 0]) rfl (OpY.loadN (cs := [sv (stx W 0), .int .i64 0, sv ([]), .int .i64 0, .slice none 0 0]) Tagg_95 rfl (Cells.blk (.head _) ⟨rfl, rfl, rfl, rfl, rfl, trivial⟩)) ?_
       refine Run.p (.bool false) rfl rfl ?_
       refine Run.step rfl (OpStep.storeAll (us := [sv (stx W 0), .int .i64 0, sv ([]), .int .i64 0, .slice none 0 0]) Tsize_95 rfl rfl rfl (.there _ (.there _ (.here _))) rfl ?_)
       refine Run.p (.bool false) rfl rfl ?_
       refine Run.done ?_
       refine Run.ret ?_
       refine ⟨.tuple #[.agg #[sv (stx W 0), .int .i64 0, sv ([]), .int .i64 0, .slice none 0 0], .bool false], [.own (.slice none 0 0) 3 1 0 (ints [])], Out.cell2 (cs := [sv (stx W 0), .int .i64 0, sv ([]), .int .i64 0, .slice none 0 0]) rfl Tagg_95 rfl (Cells.blk (.tail _ (.tail _ (List.Mem.head _))) ⟨rfl, rfl, rfl, rfl, rfl, trivial⟩) rfl, ((Weak.nilOwn 3 1).trans (Some'.weak (.takeEq (by first | rfl | simp [ints]) (.nil _)))), ?_⟩
       refine ⟨_, _, _, _, _, [], _, rfl, rfl, ?_⟩
       rw [lineB, hW]
       first | exact lnQ p20 p24 hn1 | exact lnQ0 p20 p24 | exact lnR p33 p38 p43 hn1 | exact lnR0 p33 (.inl (of_beq_false h38)) | exact lnR0 p33 (.inr p43) | exact lnD p52 p57 p63 p68 hn1 | exact lnD0 p52 (.inl (of_beq_false h57)) | exact lnD0 p52 (.inr (.inl (of_beq_falseB h63))) | exact lnD0 p52 (.inr (.inr h68)) | exact lnC p81 p86 p91 | exact lnC0 p81 (.inl (of_decide_eq_false h86)) | exact lnC0 p81 (.inr h91) | exact lnE p103 | exact lnG p20 p33 p52 p81 p103
     ·refine Run.q (v := .bool false) rfl (OpQ.y (OpY.moveB rfl h86)) ?_
      have p86 := h86; try simp only [bs] at p86
      refine Run.pass rfl ?_
      refine Run.pass rfl ?_
      refine Run.pass rfl ?_
      refine Run.pass rfl ?_
      refine Run.p (.bool false) rfl rfl ?_
      refine Run.done ?_
      refine Run.cond (b := false) rfl (fun h => nomatch h) (fun _ => ?_)
      refine Run.skip ?_
      refine Run.blockEnd ?_
      refine Run.sr ?_
      refine Run.y (.agg #[sv (stx W 0), .int .i64 0, sv ([]), .int .i64 0, .slice none 0 0]) rfl (OpY.loadN (cs := [sv (stx W 0), .int .i64 0, sv ([]), .int .i64 0, .slice none 0 0]) Tagg_95 rfl (Cells.blk (.head _) ⟨rfl, rfl, rfl, rfl, rfl, trivial⟩)) ?_
      refine Run.p (.bool false) rfl rfl ?_
      refine Run.step rfl (OpStep.storeAll (us := [sv (stx W 0), .int .i64 0, sv ([]), .int .i64 0, .slice none 0 0]) Tsize_95 rfl rfl rfl (.there _ (.there _ (.here _))) rfl ?_)
      refine Run.p (.bool false) rfl rfl ?_
      refine Run.done ?_
      refine Run.ret ?_
      refine ⟨.tuple #[.agg #[sv (stx W 0), .int .i64 0, sv ([]), .int .i64 0, .slice none 0 0], .bool false], [.own (.slice none 0 0) 3 1 0 (ints [])], Out.cell2 (cs := [sv (stx W 0), .int .i64 0, sv ([]), .int .i64 0, .slice none 0 0]) rfl Tagg_95 rfl (Cells.blk (.tail _ (.tail _ (List.Mem.head _))) ⟨rfl, rfl, rfl, rfl, rfl, trivial⟩) rfl, ((Weak.nilOwn 3 1).trans (Some'.weak (.takeEq (by first | rfl | simp [ints]) (.nil _)))), ?_⟩
      refine ⟨_, _, _, _, _, [], _, rfl, rfl, ?_⟩
      rw [lineB, hW]
      first | exact lnQ p20 p24 hn1 | exact lnQ0 p20 p24 | exact lnR p33 p38 p43 hn1 | exact lnR0 p33 (.inl (of_beq_false h38)) | exact lnR0 p33 (.inr p43) | exact lnD p52 p57 p63 p68 hn1 | exact lnD0 p52 (.inl (of_beq_false h57)) | exact lnD0 p52 (.inr (.inl (of_beq_falseB h63))) | exact lnD0 p52 (.inr (.inr h68)) | exact lnC p81 p86 p91 | exact lnC0 p81 (.inl (of_decide_eq_false h86)) | exact lnC0 p81 (.inr h91) | exact lnE p103 | exact lnG p20 p33 p52 p81 p103
    ·have p81 := h81; try simp only [bs] at p81
     refine Run.sr ?_
     refine Run.y (.bool ((stx W 0) == ([125]))) rfl (OpY.eqS rfl rfl) ?_
     refine Run.p (.bool ((stx W 0) == ([125]))) rfl rfl ?_
     refine Run.done ?_
     refine Run.cond (b := (stx W 0) == ([125])) rfl (fun h103 => ?_) (fun h103 => ?_)
     ·have p103 := h103; try simp only [bs] at p103
      refine Run.region ?_
      refine Run.p (.slice (some ⟨b0, 0, none⟩) (W.length) (W.length)) rfl rfl ?_
      refine Run.y (.int .i64 (((W.length : Nat) : Int))) rfl (OpY.len Tsl_40 rfl) ?_
      refine Run.p (.bool ((((W.length : Nat) : Int)) == 1)) rfl rfl ?_
      refine Run.p (.bool ((((W.length : Nat) : Int)) == 1)) rfl rfl ?_
      refine Run.done ?_
      refine Run.blockEnd ?_
      refine Run.sr ?_
      refine Run.y (.agg #[sv (stx W 0), .int .i64 0, sv ([]), .int .i64 0, .slice none 0 0]) rfl (OpY.loadN (cs := [sv (stx W 0), .int .i64 0, sv ([]), .int .i64 0, .slice none 0 0]) Tagg_95 rfl (Cells.blk (.head _) ⟨rfl, rfl, rfl, rfl, rfl, trivial⟩)) ?_
      refine Run.p (.bool ((((W.length : Nat) : Int)) == 1)) rfl rfl ?_
      refine Run.step rfl (OpStep.storeAll (us := [sv (stx W 0), .int .i64 0, sv ([]), .int .i64 0, .slice none 0 0]) Tsize_95 rfl rfl rfl (.there _ (.there _ (.here _))) rfl ?_)
      refine Run.p (.bool ((((W.length : Nat) : Int)) == 1)) rfl rfl ?_
      refine Run.done ?_
      refine Run.ret ?_
      refine ⟨.tuple #[.agg #[sv (stx W 0), .int .i64 0, sv ([]), .int .i64 0, .slice none 0 0], .bool ((((W.length : Nat) : Int)) == 1)], [.own (.slice none 0 0) 3 1 0 (ints [])], Out.cell2 (cs := [sv (stx W 0), .int .i64 0, sv ([]), .int .i64 0, .slice none 0 0]) rfl Tagg_95 rfl (Cells.blk (.tail _ (.tail _ (List.Mem.head _))) ⟨rfl, rfl, rfl, rfl, rfl, trivial⟩) rfl, ((Weak.nilOwn 3 1).trans (Some'.weak (.takeEq (by first | rfl | simp [ints]) (.nil _)))), ?_⟩
      refine ⟨_, _, _, _, _, [], _, rfl, rfl, ?_⟩
      rw [lineB, hW]
      first | exact lnQ p20 p24 hn1 | exact lnQ0 p20 p24 | exact lnR p33 p38 p43 hn1 | exact lnR0 p33 (.inl (of_beq_false h38)) | exact lnR0 p33 (.inr p43) | exact lnD p52 p57 p63 p68 hn1 | exact lnD0 p52 (.inl (of_beq_false h57)) | exact lnD0 p52 (.inr (.inl (of_beq_falseB h63))) | exact lnD0 p52 (.inr (.inr h68)) | exact lnC p81 p86 p91 | exact lnC0 p81 (.inl (of_decide_eq_false h86)) | exact lnC0 p81 (.inr h91) | exact lnE p103 | exact lnG p20 p33 p52 p81 p103
     ·have p103 := h103; try simp only [bs] at p103
      refine Run.sr ?_
      refine Run.p (.slice (some ⟨b0, 0, none⟩) (W.length) (W.length)) rfl rfl ?_
      refine Run.step rfl (OpStep.call (vs := [.slice (some ⟨b0, 0, none⟩) (W.length) (W.length)]) (caps := []) Tcall_107 rfl rfl (fun w hs => readGate_spec (hg.go hs) (hs.slOwn (.tail _ (List.Mem.head _))) hW1 hWl hW16) ?_)
      rintro _ _ ⟨v1, rfl, rfl⟩
      show Run _ _ (putF _ _ _ (.tuple #[.agg #[sv wG, .int .i64 (kindB (stx W 0)), sv ([]), .int .i64 0, v1], .bool ((gateW W).isSome)])) [.own v1 3 1 ((nums (W.drop 1)).length) (ints (nums (W.drop 1))), .blk b2 95 [sv (stx W 0), .int .i64 0, sv ([]), .int .i64 0, .slice none 0 0], .own (.slice (some ⟨b0, 0, none⟩) (W.length) (W.length)) 9 1 (W.length) (strs W), .blk b1 95 [sv ([]), .int .i64 0, sv ([]), .int .i64 0, .slice none 0 0]]
      refine Run.p (.agg #[sv wG, .int .i64 (kindB (stx W 0)), sv ([]), .int .i64 0, v1]) rfl rfl ?_
      refine Run.p (.bool ((gateW W).isSome)) rfl rfl ?_
      refine Run.formOwn (.head _) (fun A_v12 c_v12 hv hcapc_v12 hmaxc_v12 => ?_) (fun _ _ _ => ⟨nofun, nofun, nofun⟩)
      subst hv
      refine Run.step rfl (OpStep.storeAll (us := [sv wG, .int .i64 (kindB (stx W 0)), sv ([]), .int .i64 0, .slice A_v12 ((nums (W.drop 1)).length) c_v12]) Tsize_95 rfl rfl rfl (.there _ (.there _ (.there _ (.here _)))) rfl ?_)
      refine Run.p (.bool ((gateW W).isSome)) rfl rfl ?_
      refine Run.done ?_
      refine Run.ret ?_
      refine ⟨.tuple #[.agg #[sv wG, .int .i64 (kindB (stx W 0)), sv ([]), .int .i64 0, .slice A_v12 ((nums (W.drop 1)).length) c_v12], .bool ((gateW W).isSome)], [.own (.slice A_v12 ((nums (W.drop 1)).length) c_v12) 3 1 ((nums (W.drop 1)).length) (ints (nums (W.drop 1)))], Out.cell2 (cs := [sv wG, .int .i64 (kindB (stx W 0)), sv ([]), .int .i64 0, .slice A_v12 ((nums (W.drop 1)).length) c_v12]) rfl Tagg_95 rfl (Cells.blk (.tail _ (.tail _ (.tail _ (List.Mem.head _)))) ⟨rfl, rfl, rfl, rfl, rfl, trivial⟩) rfl, (Some'.weak (.take (.nil _))), ?_⟩
      refine ⟨_, _, _, _, _, (nums (W.drop 1)), _, rfl, rfl, ?_⟩
      rw [lineB, hW]
      first | exact lnQ p20 p24 hn1 | exact lnQ0 p20 p24 | exact lnR p33 p38 p43 hn1 | exact lnR0 p33 (.inl (of_beq_false h38)) | exact lnR0 p33 (.inr p43) | exact lnD p52 p57 p63 p68 hn1 | exact lnD0 p52 (.inl (of_beq_false h57)) | exact lnD0 p52 (.inr (.inl (of_beq_falseB h63))) | exact lnD0 p52 (.inr (.inr h68)) | exact lnC p81 p86 p91 | exact lnC0 p81 (.inl (of_decide_eq_false h86)) | exact lnC0 p81 (.inr h91) | exact lnE p103 | exact lnG p20 p33 p52 p81 p103

end Go.Proofs.YtgpkpopbajkklaaGreatDoor
/- Walks: the program reads the lines of a circuit text, and looks at its blocks. -/
set_option linter.unusedSimpArgs false
set_option linter.unusedVariables false
namespace Go.Proofs.YtgpkpopbajkklaaGreatDoor
open Go Go.RowKit
namespace TxgT
theorem Tagg_95 : aggOf Tryz.prog 95 = some 5 := by kernel_rfl
theorem Tbool_4 : Tryz.prog.underlying 4 = some .bool := by kernel_rfl
theorem Tcall_87 : callable Tryz.prog 87 = true := by kernel_rfl
theorem Tcall_88 : callable Tryz.prog 88 = true := by kernel_rfl
theorem Tcall_89 : callable Tryz.prog 89 = true := by kernel_rfl
theorem Tfo_95_0 : fieldOff Tryz.prog 95 0 = some 0 := by kernel_rfl
theorem Tone_9 : oneOf Tryz.prog 9 = true := by kernel_rfl
theorem Tsize_95 : (Tryz.prog.info? 95).map (·.size) = some 5 := by kernel_rfl
theorem Tsl_40 : sliceOf Tryz.prog 40 = some (9, 1, 16, [sv ([])]) := by kernel_rfl
theorem Tsl_85 : sliceOf Tryz.prog 85 = some (95, 5, 72, [sv ([]), .int .i64 0, sv ([]), .int .i64 0, .slice none 0 0]) := by kernel_rfl
theorem Tzero_95 : zeroOf Tryz.prog 95 = some [sv ([]), .int .i64 0, sv ([]), .int .i64 0, .slice none 0 0] := by kernel_rfl
end TxgT
open TxgT
/-- A line beside the slice of its qubits. -/
abbrev LV := Li × Value
abbrev lv (x : Li) (v : Value) : LV := (x, v)
def tle (p : LV) : List Value := [sv p.1.word, .int .i64 p.1.kind, sv p.1.nm, .int .i64 p.1.num, p.2]
/-- Lines as the program's cells. -/
def tls (L : List LV) : List Value := L.flatMap tle
def tgr (L : List LV) : List (Value × Nat × List Value) := L.map fun p => (p.2, p.1.qs.length, ints p.1.qs)
def tx (L : List LV) (k : Nat) : LV := L.getD k (.cl, undef)
theorem flat_get {α : Type} {f : α → List Value} {m : Nat} (hf : ∀ a, (f a).length = m) (d : α) : ∀ {L : List α} {k : Nat}, k < L.length → ∀ j, j < m → (L.flatMap f)[k * m + j]? = (f (L.getD k d))[j]?
  | [], k, h, _, _ => by simp at h
  | a :: L, 0, _, j, hj => by
    rw [List.flatMap_cons, List.getElem?_append_left (by rw [hf]; omega)]
    simp
  | a :: L, k + 1, h, j, hj => by
    rw [List.flatMap_cons, List.getElem?_append_right (by rw [hf, Nat.add_mul]; omega), hf, Nat.add_mul]
    have := flat_get hf d (L := L) (k := k) (by simpa using h) j hj
    rw [show k * m + 1 * m + j - m = k * m + j by omega, this]; simp
theorem flat_pre {α : Type} {f : α → List Value} {m : Nat} (hf : ∀ a, (f a).length = m) (d : α) {L : List α} {k : Nat} (hk : k < L.length) : ∀ (c j : Nat), j + c ≤ m → Pre (L.flatMap f) (k * m + j) (((f (L.getD k d)).drop j).take c)
  | 0, j, _ => by simp [Pre]
  | c + 1, j, h => by
    have h1 := flat_get hf d hk j (by omega)
    have hl := hf (L.getD k d)
    rw [List.drop_eq_getElem_cons (by omega), List.take_succ_cons]
    refine ⟨?_, ?_⟩
    · rw [h1, List.getElem?_eq_getElem (by omega)]
    · rw [Nat.add_assoc]; exact flat_pre hf d hk c (j + 1) (by omega)
theorem flat_len {α : Type} {f : α → List Value} {m : Nat} (hf : ∀ a, (f a).length = m) (L : List α) : (L.flatMap f).length = L.length * m := by
  induction L with
  | nil => simp
  | cons a L ih => rw [List.flatMap_cons, List.length_append, hf, ih, List.length_cons, Nat.add_mul]; omega
theorem tle_len (p : LV) : (tle p).length = 5 := rfl
@[simp] theorem tls_length (L : List LV) : (tls L).length = L.length * 5 := flat_len tle_len L
theorem tls_pre {L : List LV} {k : Nat} (hk : k < L.length) (c j : Nat) (h : j + c ≤ 5) : Pre (tls L) (k * 5 + j) (((tle (tx L k)).drop j).take c) := flat_pre tle_len _ hk c j h
theorem Weak.grpSnocG {α : Type} {g : α → Value × Nat × List Value} {H : List Res} {e : TypeId} {size : Nat} {v : Value} {n : Nat} {xs : List Value} {L : List α} {a : α} (hg : g a = (v, n, xs)) : Weak (.own v e size n xs :: .grp e size (L.map g) :: H) (.grp e size ((L ++ [a]).map g) :: H) :=
  Weak.grpIn.trans (Weak.grpPerm (by rw [List.map_append, List.map_cons, List.map_nil, hg]; exact (List.perm_append_singleton _ _).symm))
theorem Weak.tgrSnoc {H : List Res} {e : TypeId} {x : Li} {v : Value} {L : List LV} : Weak (.own v e 1 x.qs.length (ints x.qs) :: .grp e 1 (tgr L) :: H) (.grp e 1 (tgr (L ++ [lv x v])) :: H) :=
  Weak.grpSnocG (g := fun p : LV => (p.2, p.1.qs.length, ints p.1.qs)) rfl
/-- The line at a place: the first one, and no other, tells the qubits. -/
def lnAt (i : Nat) (l : Bs) : Option Li := match lineB l with
  | some x => if (x.word == wQ) = (i == 0) then some x else none
  | none => none
def badAt (P : List Bs) (i : Nat) : Bool := (lnAt i (stx P i)).isNone
/-- The number of the first line that has none of the forms, or 0. -/
def fltL (P : List Bs) : Int := findI (badAt P) P.length + 1
def lns (P : List Bs) (k : Nat) : List Li := (List.range k).map fun i => (lnAt i (stx P i)).getD .cl
@[simp] theorem lns_length (P : List Bs) (k : Nat) : (lns P k).length = k := by simp [lns]
theorem lns_succ {P : List Bs} {k : Nat} {x : Li} (h : lnAt k (stx P k) = some x) : lns P (k + 1) = lns P k ++ [x] := by
  rw [lns, List.range_succ, List.map_append, List.map_cons, List.map_nil, h]; rfl
theorem lnAt_bad {i : Nat} {l : Bs} (h : lineB l = none) : lnAt i l = none := by rw [lnAt, h]
theorem lnAt_ok {i : Nat} {l : Bs} {x : Li} (h : lineB l = some x) (hw : (x.word == wQ) = (i == 0)) : lnAt i l = some x := by rw [lnAt, h]; exact if_pos hw
theorem lnAt_no {i : Nat} {l : Bs} {x : Li} (h : lineB l = some x) (hw : ¬ (x.word == wQ) = (i == 0)) : lnAt i l = none := by rw [lnAt, h]; exact if_neg hw
theorem int_nat_zero (k : Nat) : (((k : Nat) : Int) == 0) = (k == 0) := by
  by_cases h : k = 0
  · subst h; rfl
  · rw [beq_eq_false_iff_ne.2 h, beq_eq_false_iff_ne.2 (by omega)]
/-- The lines of a text. -/
def piecesP (s : Bs) : List Bs := splitC 10 (Lib.trimSuffix s [10])
theorem trim_le (s m : Bs) : (Lib.trimSuffix s m).length ≤ s.length := by unfold Lib.trimSuffix; split <;> simp

set_option maxHeartbeats 4000000 in
set_option maxRecDepth 20000 in
theorem readLines_spec {s : Bs} {w : World} (hg : Gl w) (hl : s.length ≤ 8000) : Calls Tryz.prog 56 #[sv s] w (Post No w fun v H => ∃ (vl : Value) (L : List LV), v = .tuple #[vl, .int .i64 (fltL (piecesP s))] ∧ H = [.own vl 95 5 L.length (tls L), .grp 3 1 (tgr L)] ∧ (fltL (piecesP s) = 0 → L.map (·.1) = lns (piecesP s) (piecesP s).length)) := by
 obtain ⟨P, hP⟩ : ∃ P, piecesP s = P := ⟨_, rfl⟩
 have hP16 : P.length ≤ 8001 := by rw [← hP]; have := splitC_length 10 (Lib.trimSuffix s [10]); have := trim_le s [10]; unfold piecesP; omega
 have hPl : ∀ t ∈ P, t.length ≤ 16777000 := fun t ht => by rw [← hP] at ht; have := splitC_le t ht; have := trim_le s [10]; omega
 refine enter (n := 42) (args := [sv s]) Tryz.func56 rfl rfl (St.empty _ _) ?_
 refine Run.sr ?_
 refine Run.p (.slice none 0 0) rfl rfl ?_
 refine Run.p (.int .i64 0) rfl rfl ?_
 refine Run.dsr ?_
 refine Run.step rfl (OpStep.buildSlice (us := []) Tsl_85 (by decide) (by decide) rfl rfl fun b1 => ?_)
 refine Run.p (.slice (some ⟨b1, 0, none⟩) 0 0) rfl rfl ?_
 refine Run.done ?_
 refine Run.weak (H' := [.grp 3 1 (tgr []), .own (.slice (some ⟨b1, 0, none⟩) 0 0) 95 5 0 ([])]) (Weak.grpNil _ _) ?_ ⟨_, _, rfl, fun _ => nofun, fun _ => nofun⟩
 refine Run.seq ?_
 refine Run.sr ?_
 refine Run.p (sv s) rfl rfl ?_
 refine Run.q (v := sv (Lib.trimSuffix s [10])) rfl (OpQ.call (vs := [sv s, sv ([10])]) (caps := []) Tcall_88 rfl rfl (fun w hs => TrimSuffix_spec (by omega))) ?_
 refine Run.step rfl (OpStep.call (vs := [sv (Lib.trimSuffix s [10]), sv ([10])]) (caps := []) Tcall_87 rfl rfl (fun w hs => Split_specW 10 (show splitC 10 (Lib.trimSuffix s [10]) = P from hP) (hg.go hs) (by have := trim_le s [10]; omega)) ?_)
 rintro _ _ ⟨b0, rfl, rfl⟩
 show Run _ _ (putF _ _ _ (.slice (some ⟨b0, 0, none⟩) (P.length) (P.length))) [.own (.slice (some ⟨b0, 0, none⟩) (P.length) (P.length)) 9 1 (P.length) (strs P), .grp 3 1 (tgr []), .own (.slice (some ⟨b1, 0, none⟩) 0 0) 95 5 0 ([])]
 refine Run.y (.int .i64 (((P.length : Nat) : Int))) rfl (OpY.len Tsl_40 rfl) ?_
 refine Run.p (.int .i64 0) rfl rfl ?_
 refine Run.done ?_
 refine Run.block ?_
 refine Run.loop (ι := Nat × List LV × Value) [2, 3, 4, 5, 6, 7, 8, 14, 15, 16, 17, 18, 19, 20, 21, 22, 23, 24, 25, 26, 27, 28, 29, 30, 31, 32, 33, 34, 35, 36, 37, 38, 39, 40] (fun ⟨k, L, vo⟩ => [(4, vo), (14, .int .i64 (((k : Nat) : Int)))]) (fun ⟨k, L, vo⟩ => [.own (.slice (some ⟨b0, 0, none⟩) (P.length) (P.length)) 9 1 (P.length) (strs P), .own vo 95 5 (L.length) (tls L), .grp 3 1 (tgr L)]) (fun ⟨k, L, vo⟩ => k ≤ P.length ∧ L.length = k ∧ L.map (·.1) = lns P k ∧ ∀ i, i < k → badAt P i = false) (fun ⟨k, L, vo⟩ => P.length - k) (0, [], .slice (some ⟨b1, 0, none⟩) 0 0) ?_ ?_ ?_ ?_
 ·exact ⟨Nat.zero_le _, rfl, rfl, fun i hi => by omega⟩
 ·exact ⟨rfl, rfl, trivial⟩
 ·exact ((Weak.selF [0, 1, 0]).trans (Some'.weak (.take (.takeEq (by first | rfl | simp) (.takeEq (by first | rfl | simp) (.nil _))))))
 ·rintro ⟨k, L, vo⟩ fr hinv
  show Run _ _ (over _ _ [(4, vo), (14, .int .i64 (((k : Nat) : Int)))] fr) [.own (.slice (some ⟨b0, 0, none⟩) (P.length) (P.length)) 9 1 (P.length) (strs P), .own vo 95 5 (L.length) (tls L), .grp 3 1 (tgr L)]
  try dsimp only at hinv
  refine Run.sr ?_
  refine Run.p (.bool (decide ((((k : Nat) : Int)) < (((P.length : Nat) : Int))))) rfl rfl ?_
  refine Run.done ?_
  refine Run.seq ?_
  refine Run.cond (b := decide ((((k : Nat) : Int)) < (((P.length : Nat) : Int)))) rfl (fun h15 => ?_) (fun h15 => ?_)
  ·have p15 := h15; try simp only [bs] at p15
   have hltk : k < P.length := by omega
   obtain ⟨hk, hLk, hLm, hgoodk⟩ := hinv
   refine Run.skip ?_
   refine Run.seq ?_
   refine Run.block ?_
   refine Run.sr ?_
   refine Run.p (.int .i64 (((k : Nat) : Int))) rfl rfl ?_
   refine Run.y (.pointer (some ⟨b0, k, none⟩)) rfl (OpY.index (kk := k) Tsl_40 rfl rfl (by omega) (by omega) (by first | rfl | omega)) ?_
   refine Run.y (sv (stx P k)) rfl (OpY.load1 Tone_9 rfl (Cells.own0 (.head _) (preS (by omega)))) ?_
   refine Run.p (.int .i64 (((k : Nat) : Int))) rfl rfl ?_
   refine Run.p (sv (stx P k)) rfl rfl ?_
   refine Run.dsr ?_
   refine Run.p (sv (stx P k)) rfl rfl ?_
   refine Run.step rfl (OpStep.call (vs := [sv (stx P k)]) (caps := []) Tcall_89 rfl rfl (fun w hs => readLine_spec (hg.go hs) (stx_len hPl k)) ?_)
   rintro _ _ ⟨c0, c1, c2, c3, v1, qs, bb, rfl, rfl, hln⟩
   show Run _ _ (putF _ _ _ (.tuple #[.agg #[sv c0, .int .i64 c1, sv c2, .int .i64 c3, v1], .bool bb])) [.own v1 3 1 (qs.length) (ints qs), .own (.slice (some ⟨b0, 0, none⟩) (P.length) (P.length)) 9 1 (P.length) (strs P), .own vo 95 5 (L.length) (tls L), .grp 3 1 (tgr L)]
   refine Run.p (.tuple #[.agg #[sv c0, .int .i64 c1, sv c2, .int .i64 c3, v1], .bool bb]) rfl rfl ?_
   refine Run.p (.agg #[sv c0, .int .i64 c1, sv c2, .int .i64 c3, v1]) rfl rfl ?_
   refine Run.p (.bool bb) rfl rfl ?_
   refine Run.step rfl (OpStep.alloc (zs := [sv ([]), .int .i64 0, sv ([]), .int .i64 0, .slice none 0 0]) Tzero_95 fun b2 => ?_)
   refine Run.formOwn (.tail _ (List.Mem.head _)) (fun A_v11 c_v11 hv hcapc_v11 hmaxc_v11 => ?_) (fun _ _ _ => ⟨nofun, nofun, nofun⟩)
   subst hv
   refine Run.step rfl (OpStep.storeAll (us := [sv c0, .int .i64 c1, sv c2, .int .i64 c3, .slice A_v11 (qs.length) c_v11]) Tsize_95 rfl rfl rfl (.here _) rfl ?_)
   refine Run.p (.bool bb) rfl rfl ?_
   refine Run.done ?_
   refine Run.seq ?_
   refine Run.sr ?_
   refine Run.p (.bool bb) rfl rfl ?_
   refine Run.p (.bool (!bb)) rfl rfl ?_
   rcases Bool.eq_false_or_eq_true (!bb) with h26 | h26
   ·refine Run.q (v := .bool true) rfl (OpQ.y (OpY.moveB rfl h26)) ?_
    have p26 := h26; try simp only [bs] at p26
    have hbad : badAt P k = true := by
     have : lineB (stx P k) = none := by
      have h := hln.1; rw [show bb = false by simpa using h26] at h
      cases hb2 : lineB (stx P k) with
      | none => rfl
      | some y => rw [hb2] at h; cases h
     rw [badAt, lnAt_bad this]; rfl
    refine Run.pass rfl ?_
    refine Run.pass rfl ?_
    refine Run.pass rfl ?_
    refine Run.pass rfl ?_
    refine Run.pass rfl ?_
    refine Run.pass rfl ?_
    refine Run.p (.bool true) rfl rfl ?_
    refine Run.done ?_
    refine Run.cond (b := true) rfl (fun _ => ?_) (fun h => nomatch h)
    refine Run.seq ?_
    refine Run.weak (H' := [.grp 3 1 (tgr []), .blk b2 95 [sv c0, .int .i64 c1, sv c2, .int .i64 c3, .slice A_v11 (qs.length) c_v11], .own (.slice A_v11 (qs.length) c_v11) 3 1 (qs.length) (ints qs), .own (.slice (some ⟨b0, 0, none⟩) (P.length) (P.length)) 9 1 (P.length) (strs P), .own vo 95 5 (L.length) (tls L), .grp 3 1 (tgr L)]) (Weak.grpNil _ _) ?_ ⟨_, _, rfl, fun _ => nofun, fun _ => nofun⟩
    have hflt : fltL P = ((k + 1 : Nat) : Int) := by rw [fltL, findI_hit hgoodk hbad hltk]; rfl
    refine Run.region ?_
    refine Run.p (.int .i64 (((k : Nat) : Int))) rfl rfl ?_
    refine Run.y (.int .i64 ((((k : Nat) : Int)) + 1)) rfl (OpY.add rfl rfl rfl (by omega) (by omega)) ?_
    refine Run.p (.slice none 0 0) rfl rfl ?_
    refine Run.p (.int .i64 ((((k : Nat) : Int)) + 1)) rfl rfl ?_
    refine Run.done ?_
    refine Run.ret ?_
    refine ⟨.tuple #[.slice none 0 0, .int .i64 ((((k : Nat) : Int)) + 1)], [.own (.slice none 0 0) 95 5 (([] : List LV).length) (tls ([] : List LV)), .grp 3 1 (tgr [])], Out.two rfl rfl rfl, ((Weak.nilOwn 95 5).trans (Some'.weak (.takeEq (by first | rfl | simp [tls]) (.take (.nil _))))), ?_⟩
    refine ⟨_, [], ?_, rfl, ?_⟩
    ·first | (rw [hP, hflt]; done) | (rw [hP, hflt]; rfl)
    ·intro h; rw [hP, hflt] at h; omega
   ·refine Run.q (v := .bool false) rfl (OpQ.y (OpY.moveB rfl h26)) ?_
    have p26 := h26; try simp only [bs] at p26
    obtain ⟨x, hx⟩ : ∃ x, lineB (stx P k) = some x := Option.isSome_iff_exists.1 (by rw [← hln.1]; simpa using h26)
    obtain ⟨rfl, rfl, rfl, rfl, rfl⟩ := hln.2 x hx
    refine Run.y (.pointer (some ⟨b2, 0, none⟩)) rfl (OpY.fieldAddr Tfo_95_0 rfl rfl) ?_
    refine Run.y (sv (x.word)) rfl (OpY.load1 Tone_9 rfl (Cells.blk (.head _) ⟨rfl, trivial⟩)) ?_
    refine Run.y (.bool ((x.word) == ([113, 117, 98, 105, 116, 115]))) rfl (OpY.eqS rfl rfl) ?_
    refine Run.p (.int .i64 (((k : Nat) : Int))) rfl rfl ?_
    refine Run.p (.bool ((((k : Nat) : Int)) == 0)) rfl rfl ?_
    refine Run.y (.bool (((x.word) == ([113, 117, 98, 105, 116, 115])) != ((((k : Nat) : Int)) == 0))) rfl (OpY.eqBn Tbool_4 rfl rfl) ?_
    refine Run.p (.bool (((x.word) == ([113, 117, 98, 105, 116, 115])) != ((((k : Nat) : Int)) == 0))) rfl rfl ?_
    refine Run.done ?_
    refine Run.cond (b := ((x.word) == ([113, 117, 98, 105, 116, 115])) != ((((k : Nat) : Int)) == 0)) rfl (fun h33 => ?_) (fun h33 => ?_)
    ·have p33 := h33; try simp only [bs] at p33
     have hbad : badAt P k = true := by
      rw [badAt, lnAt_no hx (by rw [← int_nat_zero]; simpa [wQ] using h33)]; rfl
     refine Run.seq ?_
     refine Run.weak (H' := [.grp 3 1 (tgr []), .blk b2 95 [sv (x.word), .int .i64 (x.kind), sv (x.nm), .int .i64 (x.num), .slice A_v11 (x.qs.length) c_v11], .own (.slice A_v11 (x.qs.length) c_v11) 3 1 (x.qs.length) (ints x.qs), .own (.slice (some ⟨b0, 0, none⟩) (P.length) (P.length)) 9 1 (P.length) (strs P), .own vo 95 5 (L.length) (tls L), .grp 3 1 (tgr L)]) (Weak.grpNil _ _) ?_ ⟨_, _, rfl, fun _ => nofun, fun _ => nofun⟩
     have hflt : fltL P = ((k + 1 : Nat) : Int) := by rw [fltL, findI_hit hgoodk hbad hltk]; rfl
     refine Run.region ?_
     refine Run.p (.int .i64 (((k : Nat) : Int))) rfl rfl ?_
     refine Run.y (.int .i64 ((((k : Nat) : Int)) + 1)) rfl (OpY.add rfl rfl rfl (by omega) (by omega)) ?_
     refine Run.p (.slice none 0 0) rfl rfl ?_
     refine Run.p (.int .i64 ((((k : Nat) : Int)) + 1)) rfl rfl ?_
     refine Run.done ?_
     refine Run.ret ?_
     refine ⟨.tuple #[.slice none 0 0, .int .i64 ((((k : Nat) : Int)) + 1)], [.own (.slice none 0 0) 95 5 (([] : List LV).length) (tls ([] : List LV)), .grp 3 1 (tgr [])], Out.two rfl rfl rfl, ((Weak.nilOwn 95 5).trans (Some'.weak (.takeEq (by first | rfl | simp [tls]) (.take (.nil _))))), ?_⟩
     refine ⟨_, [], ?_, rfl, ?_⟩
     ·first | (rw [hP, hflt]; done) | (rw [hP, hflt]; rfl)
     ·intro h; rw [hP, hflt] at h; omega
    ·have p33 := h33; try simp only [bs] at p33
     have hat : lnAt k (stx P k) = some x := lnAt_ok hx (by rw [← int_nat_zero]; simpa [wQ] using h33)
     refine Run.skip ?_
     refine Run.region ?_
     refine Run.p (vo) rfl rfl ?_
     refine Run.y (.agg #[sv (x.word), .int .i64 (x.kind), sv (x.nm), .int .i64 (x.num), .slice A_v11 (x.qs.length) c_v11]) rfl (OpY.loadN (cs := [sv (x.word), .int .i64 (x.kind), sv (x.nm), .int .i64 (x.num), .slice A_v11 (x.qs.length) c_v11]) Tagg_95 rfl (Cells.blk (.head _) ⟨rfl, rfl, rfl, rfl, rfl, trivial⟩)) ?_
     refine Run.step rfl (OpStep.buildSlice (us := [sv (x.word), .int .i64 (x.kind), sv (x.nm), .int .i64 (x.num), .slice A_v11 (x.qs.length) c_v11]) Tsl_85 (by decide) (by decide) ⟨rfl, [sv (x.word), .int .i64 (x.kind), sv (x.nm), .int .i64 (x.num), .slice A_v11 (x.qs.length) c_v11], _, rfl, rfl, rfl, rfl⟩ rfl fun b3 => ?_)
     refine Run.step rfl (OpStep.append (H1 := [.own (.slice (some ⟨b3, 0, none⟩) 1 1) 95 5 1 ([sv (x.word), .int .i64 (x.kind), sv (x.nm), .int .i64 (x.num), .slice A_v11 (x.qs.length) c_v11]), .blk b2 95 [sv (x.word), .int .i64 (x.kind), sv (x.nm), .int .i64 (x.num), .slice A_v11 (x.qs.length) c_v11], .own (.slice A_v11 (x.qs.length) c_v11) 3 1 (x.qs.length) (ints x.qs), .own (.slice (some ⟨b0, 0, none⟩) (P.length) (P.length)) 9 1 (P.length) (strs P)]) (H2 := [.grp 3 1 (tgr L)]) (v := vo) (u := .slice (some ⟨b3, 0, none⟩) 1 1) (n := L.length) (m := 1) (xs := tls L) (ys := [sv (x.word), .int .i64 (x.kind), sv (x.nm), .int .i64 (x.num), .slice A_v11 (x.qs.length) c_v11]) Tsl_85 (by decide) rfl rfl rfl rfl (fun w hs => hs.slOwn (.head _)) (by simp [Value.oneCell']) (by omega) (by simp only [maxLen]; omega) fun av1 hnav1 => ?_)
     refine Run.weak (H' := [.own (.slice (some ⟨b3, 0, none⟩) 1 1) 95 5 1 ([sv (x.word), .int .i64 (x.kind), sv (x.nm), .int .i64 (x.num), .slice A_v11 (x.qs.length) c_v11]), .blk b2 95 [sv (x.word), .int .i64 (x.kind), sv (x.nm), .int .i64 (x.num), .slice A_v11 (x.qs.length) c_v11], .own (.slice A_v11 (x.qs.length) c_v11) 3 1 (x.qs.length) (ints x.qs), .own (.slice (some ⟨b0, 0, none⟩) (P.length) (P.length)) 9 1 (P.length) (strs P), .own av1 95 5 ((L ++ [lv x (.slice A_v11 (x.qs.length) c_v11)]).length) (tls (L ++ [lv x (.slice A_v11 (x.qs.length) c_v11)])), .grp 3 1 (tgr L)]) (Some'.weak (.take (.take (.take (.take (.takeEq (by simp [tls, tle]) (.take (.nil _)))))))) ?_ ⟨_, _, rfl, fun _ => nofun, fun _ => nofun⟩
     refine Run.p (av1) rfl rfl ?_
     refine Run.done ?_
     refine Run.blockEnd ?_
     refine Run.weak (H' := [.grp 3 1 (tgr (L ++ [lv x (.slice A_v11 (x.qs.length) c_v11)])), .own (.slice (some ⟨b3, 0, none⟩) 1 1) 95 5 1 ([sv (x.word), .int .i64 (x.kind), sv (x.nm), .int .i64 (x.num), .slice A_v11 (x.qs.length) c_v11]), .blk b2 95 [sv (x.word), .int .i64 (x.kind), sv (x.nm), .int .i64 (x.num), .slice A_v11 (x.qs.length) c_v11], .own (.slice (some ⟨b0, 0, none⟩) (P.length) (P.length)) 9 1 (P.length) (strs P), .own av1 95 5 ((L ++ [lv x (.slice A_v11 (x.qs.length) c_v11)]).length) (tls (L ++ [lv x (.slice A_v11 (x.qs.length) c_v11)]))]) ((Weak.selF [2, 4]).trans Weak.tgrSnoc) ?_ ⟨_, _, rfl, fun _ => nofun, fun _ => nofun⟩
     refine Run.region ?_
     refine Run.y (.int .i64 ((((k : Nat) : Int)) + 1)) rfl (OpY.add rfl rfl rfl (by omega) (by omega)) ?_
     refine Run.p (.int .i64 ((((k : Nat) : Int)) + 1)) rfl rfl ?_
     refine Run.done ?_
     refine Run.goal ⟨(by repeat (first | exact Same.refl _ _ | refine Same.put rfl ?_ | refine Same.over rfl rfl ?_)), (k + 1, (L ++ [lv x (.slice A_v11 (x.qs.length) c_v11)]), av1), ?_, ?_, ?_, ?_⟩
     ·refine ⟨by omega, by simp [hLk], by rw [lns_succ hat, List.map_append, hLm]; rfl, ?_⟩
      intro i hi
      rcases Nat.lt_succ_iff_lt_or_eq.1 hi with h | h
      ·exact hgoodk i h
      ·rw [h, badAt, hat]; rfl
     ·show P.length - (k + 1) < P.length - k; omega
     ·exact ⟨(by first | rfl | (congr 1; omega) | simp), (by first | rfl | (congr 1; omega) | simp), trivial⟩
     ·exact ((Weak.selF [3, 3, 0]).trans (Some'.weak (.takeEq (by first | rfl | simp) (.takeEq (by first | rfl | simp) (.takeEq (by first | rfl | simp) (.nil _))))))
  ·have p15 := h15; try simp only [bs] at p15
   have hkn : k = P.length := by omega
   obtain ⟨hk, hLk, hLm, hgoodk⟩ := hinv
   have hflt : fltL P = 0 := by rw [fltL, findI_none fun i hi => hgoodk i (by omega)]; rfl
   refine Run.exit rfl ?_
   refine Run.sr ?_
   refine Run.p (vo) rfl rfl ?_
   refine Run.p (vo) rfl rfl ?_
   refine Run.p (.int .i64 0) rfl rfl ?_
   refine Run.done ?_
   refine Run.ret ?_
   refine ⟨.tuple #[vo, .int .i64 0], [.own vo 95 5 (L.length) (tls L), .grp 3 1 (tgr L)], Out.two rfl rfl rfl, (Some'.weak (.skip (.take (.take (.nil _))))), ?_⟩
   refine ⟨_, L, ?_, rfl, ?_⟩
   ·first | (rw [hP, hflt]; done) | (rw [hP, hflt]; rfl)
   ·intro _; rw [hP, hLm, hkn]

end Go.Proofs.YtgpkpopbajkklaaGreatDoor
/- Walks: the blocks of a circuit text. -/
set_option linter.unusedSimpArgs false
set_option linter.unusedVariables false
namespace Go.Proofs.YtgpkpopbajkklaaGreatDoor
open Go Go.RowKit
namespace TxhT
theorem Tagg_95 : aggOf Tryz.prog 95 = some 5 := by kernel_rfl
theorem Tfo_95_0 : fieldOff Tryz.prog 95 0 = some 0 := by kernel_rfl
theorem Tone_3 : oneOf Tryz.prog 3 = true := by kernel_rfl
theorem Tone_9 : oneOf Tryz.prog 9 = true := by kernel_rfl
theorem Tsize_95 : (Tryz.prog.info? 95).map (·.size) = some 5 := by kernel_rfl
theorem Tsl_75 : sliceOf Tryz.prog 75 = some (3, 1, 8, [.int .i64 0]) := by kernel_rfl
theorem Tsl_85 : sliceOf Tryz.prog 85 = some (95, 5, 72, [sv ([]), .int .i64 0, sv ([]), .int .i64 0, .slice none 0 0]) := by kernel_rfl
theorem Tzero_95 : zeroOf Tryz.prog 95 = some [sv ([]), .int .i64 0, sv ([]), .int .i64 0, .slice none 0 0] := by kernel_rfl
end TxhT
open TxhT
theorem tls_preF {L : List LV} {k : Nat} {x : Li} {v : Value} (hk : k < L.length) (hx : (tx L k).1 = x) (hv : (tx L k).2 = v) : Pre (tls L) (k * 5) [sv x.word, .int .i64 x.kind, sv x.nm, .int .i64 x.num, v] := by
  subst hx; subst hv; exact tls_pre hk 5 0 (by decide)
/-- The slices of the lines' qubits can be read. -/
def LQ (w : World) (L : List LV) : Prop := ∀ k, k < L.length → Sl w (tx L k).2 1 (tx L k).1.qs.length (ints (tx L k).1.qs)
theorem LQ.go {w0 w : World} {H : List Res} {L : List LV} (h : LQ w0 L) (hs : St No w0 w H) : LQ w L := fun k hk => hs.sl (h k hk)
theorem tx_mem {L : List LV} {k : Nat} (hk : k < L.length) : tx L k ∈ L := by
  have : tx L k = L[k] := by simp [tx, List.getD, hk]
  rw [this]; exact List.getElem_mem hk
theorem Weak.grpTakeG {H : List Res} {e : TypeId} {size : Nat} {p : Value × Nat × List Value} {A B : List (Value × Nat × List Value)} : Weak (.grp e size (A ++ p :: B) :: H) (.own p.1 e size p.2.1 p.2.2 :: .grp e size (A ++ B) :: H) :=
  (Weak.grpPerm (l' := p :: (A ++ B)) List.perm_middle).trans Weak.grpOut
theorem St.slGrpG {M : Nat → Prop} {w0 w : World} {H : List Res} {e : TypeId} {size : Nat} {l : List (Value × Nat × List Value)} (hs : St M w0 w H) (hm : Res.grp e size l ∈ H) {p : Value × Nat × List Value} (hp : p ∈ l) : Sl w p.1 size p.2.1 p.2.2 := by
  obtain ⟨A, B, rfl⟩ := List.append_of_mem hp
  obtain ⟨H1, H2, rfl⟩ := List.append_of_mem hm
  have h1 := hs.perm (List.perm_middle (a := Res.grp e size (A ++ p :: B)) (l₁ := H1) (l₂ := H2))
  exact (Weak.grpTakeG _ _ _ h1).slOwn (.head _)
theorem St.lq {M : Nat → Prop} {w0 w : World} {H : List Res} {e : TypeId} {L : List LV} (hs : St M w0 w H) (hm : Res.grp e 1 (tgr L) ∈ H) : LQ w L :=
  fun k hk => hs.slGrpG hm (p := ((tx L k).2, (tx L k).1.qs.length, ints (tx L k).1.qs)) (List.mem_map.2 ⟨_, tx_mem hk, rfl⟩)
theorem Sl.slicedE {w : World} {A : Option Addr} {n c l size : Nat} {xs : List Value} (h : Sl w (.slice A n c) size n xs) (hl : l ≤ n) : ∃ A2 c2, sliced A l n c size = .slice A2 (n - l) c2 ∧ n - l ≤ c2 ∧ Sl w (.slice A2 (n - l) c2) size (n - l) (xs.drop (l * size)) := by
  have h1 := h.slicedL hl
  obtain ⟨A2, c2, h2, h3, _⟩ := h1.form0
  exact ⟨A2, c2, h2, h3, by rw [← h2]; exact h1⟩
theorem OpY.sliceLE {E : Env} {f : Fr} {H : List Res} {d : Option Tmp} {ty : TypeId} {pos : String} {after : Array Edge} {gd : Option (Nat × Bool)} {t : TypeId} {x y : Operand} {A : Option Addr} {n c l : Nat} {k : IntKind} {i : Int} {e : TypeId} {size : Nat} {z : Nat × List Value} {v : Value} (ht : sliceOf E.P t = some (e, size, z)) (hx : f.eval x = .slice A n c) (hy : f.eval y = .int k i) (hi : i = (l : Int)) (h1 : l ≤ n) (hv : sliced A l n c size = v) :
    OpY E ⟨d, .slice t x (some y) none none, ty, pos, after, gd⟩ f H v := by
  subst hv; subst hi
  exact OpY.sliceL ht hx hy (by omega) (by omega)
/-- The program's and the reference's look at blocks: the lines that are left, the number of the first of them, the numbers of the lines at which the open blocks begin, and whether only definitions stand before. -/
def fbGo : List Li → Int → List Int → Bool → Int
  | [], _, st, _ => (st.getLast?).getD 0
  | x :: r, num, st, only =>
    if x.word = wE then (if st.length = 0 then num else fbGo r (num + 1) st.dropLast only)
    else if x.word = wD then (if 0 < st.length ∨ only = false then num else fbGo r (num + 1) (st ++ [num]) only)
    else if x.word = wR then fbGo r (num + 1) (st ++ [num]) (only && decide (0 < st.length))
    else fbGo r (num + 1) st (only && decide (0 < st.length))
def fbL (xs : List Li) : Int := fbGo (xs.drop 1) 2 [] true
theorem drop_lv {L : List LV} {k : Nat} (hk : k < L.length) : (L.map (·.1)).drop k = (tx L k).1 :: (L.map (·.1)).drop (k + 1) := by
  rw [List.drop_eq_getElem_cons (by simpa using hk)]
  simp [tx, List.getD, hk]
theorem drop_li {xs : List Li} {k : Nat} (hk : k < xs.length) : xs.drop k = xs.getD k .cl :: xs.drop (k + 1) := by
  rw [List.drop_eq_getElem_cons hk]; simp [List.getD, hk]
theorem tls_drop (L : List LV) (l : Nat) : (tls L).drop (l * 5) = tls (L.drop l) := by
  induction l generalizing L with
  | zero => simp
  | succ l ih =>
    cases L with
    | nil => simp [tls]
    | cons p L =>
      have e : tls (p :: L) = tle p ++ tls L := rfl
      rw [e, List.drop_succ_cons, ← ih, List.drop_append, tle_len, List.drop_eq_nil_iff.2 (by rw [tle_len]; omega)]
      simp [Nat.add_mul]
theorem getLast_ix {l : List Int} (h : 0 < l.length) : (l.getLast?).getD 0 = ix l (l.length - 1) := by
  rw [List.getLast?_eq_getElem?]
  simp [ix, List.getD]
theorem ints_take' (l : List Int) (m : Nat) : (ints l).take m = ints (l.take m) := by simp [ints, List.map_take]
theorem tx_drop1 {L : List LV} {k : Nat} : tx (L.drop 1) k = tx L (1 + k) := by simp [tx, List.getD, Nat.add_comm]
theorem dropLast_take' (l : List Int) : l.dropLast = l.take (l.length - 1) := List.dropLast_eq_take

set_option maxHeartbeats 4000000 in
set_option maxRecDepth 20000 in
theorem faultyBlock_spec {va : Value} {n : Nat} {L : List LV} {w : World} (ha : Sl w va 5 n (tls L)) (hq0 : LQ w L) (h1 : 1 ≤ n) (hn16 : n ≤ 16777216) : Calls Tryz.prog 57 #[va] w (Post No w fun v _ => v = .int .i64 (fbL (L.map (·.1)))) := by
 have hLn : L.length = n := by have := ha.1; simp at this; omega
 obtain ⟨A, c, rfl, hnc, _⟩ := ha.form0
 obtain ⟨A2, c2, hA2, hc2, ha2⟩ := ha.slicedE h1
 rw [tls_drop] at ha2
 obtain ⟨M, hM⟩ : ∃ M, L.drop 1 = M := ⟨_, rfl⟩
 rw [hM] at ha2
 have hMn : M.length = n - 1 := by rw [← hM]; simp [hLn]
 have hqM : LQ w M := fun k hk => by rw [← hM, tx_drop1]; exact hq0 (1 + k) (by omega)
 have hML : (L.map (·.1)).drop 1 = M.map (·.1) := by rw [← hM, List.map_drop]
 refine enter (n := 74) (args := [.slice A n c]) Tryz.func57 rfl rfl (St.empty _ _) ?_
 refine Run.sr ?_
 refine Run.p (.int .i64 0) rfl rfl ?_
 refine Run.dsr ?_
 refine Run.step rfl (OpStep.buildSlice (us := []) Tsl_75 (by decide) (by decide) rfl rfl fun b1 => ?_)
 refine Run.p (.slice (some ⟨b1, 0, none⟩) 0 0) rfl rfl ?_
 refine Run.p (.bool true) rfl rfl ?_
 refine Run.done ?_
 refine Run.seq ?_
 refine Run.sr ?_
 refine Run.p (.slice A n c) rfl rfl ?_
 refine Run.y (.slice A2 ((n - 1)) c2) rfl (OpY.sliceLE (l := 1) Tsl_85 rfl rfl rfl h1 hA2) ?_
 refine Run.y (.int .i64 ((((n - 1) : Nat) : Int))) rfl (OpY.len Tsl_85 rfl) ?_
 refine Run.p (.int .i64 0) rfl rfl ?_
 refine Run.done ?_
 refine Run.block ?_
 refine Run.loop (ι := Nat × List Int × Bool × Value) ([2, 3, 4, 5, 6, 7, 12, 13, 14, 15, 16, 17, 18, 19, 20, 21, 22, 23, 24, 25, 26, 27, 28, 29, 30, 31, 32, 33, 34, 35, 36, 37, 38, 39, 40, 41, 42, 43, 44, 45, 46, 47, 48, 49, 50, 51, 52, 53, 54, 55] ++ [56, 57, 58, 59, 60, 61, 62, 63, 64]) (fun ⟨k, st, on, vo⟩ => [(3, vo), (4, .bool on), (12, .int .i64 (((k : Nat) : Int)))]) (fun ⟨k, st, on, vo⟩ => [.own vo 3 1 (st.length) (ints st)]) (fun ⟨k, st, on, vo⟩ => k ≤ n - 1 ∧ fbGo ((M.map (·.1)).drop k) ((k + 2 : Nat) : Int) st on = fbL (L.map (·.1)) ∧ st.length ≤ k) (fun ⟨k, st, on, vo⟩ => n - 1 - k) (0, [], true, .slice (some ⟨b1, 0, none⟩) 0 0) ?_ ?_ ?_ ?_
 ·exact ⟨Nat.zero_le _, by rw [List.drop_zero, ← hML]; rfl, by simp⟩
 ·exact ⟨rfl, rfl, rfl, trivial⟩
 ·exact (Some'.weak (.takeEq (by first | rfl | simp) (.nil _)))
 ·rintro ⟨k, st, on, vo⟩ fr hinv
  show Run _ _ (over _ _ [(3, vo), (4, .bool on), (12, .int .i64 (((k : Nat) : Int)))] fr) [.own vo 3 1 (st.length) (ints st)]
  try dsimp only at hinv
  refine Run.sr ?_
  refine Run.p (.bool (decide ((((k : Nat) : Int)) < ((((n - 1) : Nat) : Int))))) rfl rfl ?_
  refine Run.done ?_
  refine Run.seq ?_
  refine Run.cond (b := decide ((((k : Nat) : Int)) < ((((n - 1) : Nat) : Int)))) rfl (fun h13 => ?_) (fun h13 => ?_)
  ·have p13 := h13; try simp only [bs] at p13
   have hltk : k < n - 1 := by omega
   obtain ⟨hk, hgo, hst⟩ := hinv
   have hdk := drop_lv (L := M) (k := k) (by omega)
   obtain ⟨b, o, rfl⟩ := ha2.opn (by omega)
   obtain ⟨x, hx⟩ : ∃ x, (tx (M) k).1 = x := ⟨_, rfl⟩
   obtain ⟨Aq, cq, hq, hcq1, hcq2⟩ := (show Sl _ (tx (M) k).2 1 (tx (M) k).1.qs.length (ints (tx (M) k).1.qs) from hqM k (by omega)).form0
   rw [hx] at hq
   rw [hdk, hx, fbGo] at hgo
   refine Run.skip ?_
   refine Run.seq ?_
   refine Run.block ?_
   refine Run.sr ?_
   refine Run.p (.int .i64 (((k : Nat) : Int))) rfl rfl ?_
   refine Run.y (.pointer (some ⟨b, o + k * 5, none⟩)) rfl (OpY.index (kk := k) Tsl_85 rfl rfl (by omega) (by omega) (by first | rfl | omega)) ?_
   refine Run.y (.agg #[sv (x.word), .int .i64 (x.kind), sv (x.nm), .int .i64 (x.num), .slice Aq (x.qs.length) cq]) rfl (OpY.loadN (cs := [sv (x.word), .int .i64 (x.kind), sv (x.nm), .int .i64 (x.num), .slice Aq (x.qs.length) cq]) Tagg_95 rfl (Cells.arg (k := k * 5) ha2 rfl (by omega) (tls_preF (k := k) (by omega) hx hq))) ?_
   refine Run.step rfl (OpStep.alloc (zs := [sv ([]), .int .i64 0, sv ([]), .int .i64 0, .slice none 0 0]) Tzero_95 fun b2 => ?_)
   refine Run.p (.int .i64 (((k : Nat) : Int))) rfl rfl ?_
   refine Run.step rfl (OpStep.storeAll (us := [sv (x.word), .int .i64 (x.kind), sv (x.nm), .int .i64 (x.num), .slice Aq (x.qs.length) cq]) Tsize_95 rfl rfl rfl (.here _) rfl ?_)
   refine Run.dsr ?_
   refine Run.p (.int .i64 (((k : Nat) : Int))) rfl rfl ?_
   refine Run.y (.int .i64 (((k + 2 : Nat) : Int))) rfl (OpY.add rfl rfl (by omega) (by omega) (by omega)) ?_
   refine Run.p (.int .i64 (((k + 2 : Nat) : Int))) rfl rfl ?_
   refine Run.dsr ?_
   refine Run.y (.pointer (some ⟨b2, 0, none⟩)) rfl (OpY.fieldAddr Tfo_95_0 rfl rfl) ?_
   refine Run.y (sv (x.word)) rfl (OpY.load1 Tone_9 rfl (Cells.blk (.head _) ⟨rfl, trivial⟩)) ?_
   refine Run.done ?_
   refine Run.block ?_
   refine Run.sr ?_
   refine Run.y (.bool ((x.word) == wE)) rfl (OpY.eqS rfl rfl) ?_
   refine Run.p (.bool ((x.word) == wE)) rfl rfl ?_
   refine Run.done ?_
   refine Run.cond (b := (x.word) == wE) rfl (fun h27 => ?_) (fun h27 => ?_)
   ·have p27 := h27; try simp only [bs] at p27
    rw [if_pos p27] at hgo
    refine Run.seq ?_
    refine Run.sr ?_
    refine Run.p (vo) rfl rfl ?_
    refine Run.formOwn (.tail _ (List.Mem.head _)) (fun A_vo1 c_vo1 hv hcapc_vo1 hmaxc_vo1 => ?_) (fun _ _ _ => ⟨nofun, nofun, nofun⟩)
    subst hv
    refine Run.y (.int .i64 (((st.length : Nat) : Int))) rfl (OpY.len Tsl_75 rfl) ?_
    refine Run.p (.bool ((((st.length : Nat) : Int)) == 0)) rfl rfl ?_
    refine Run.done ?_
    refine Run.cond (b := (((st.length : Nat) : Int)) == 0) rfl (fun h31 => ?_) (fun h31 => ?_)
    ·have p31 := h31; try simp only [bs] at p31
     rw [if_pos (by omega)] at hgo
     refine Run.sr ?_
     refine Run.p (.int .i64 (((k + 2 : Nat) : Int))) rfl rfl ?_
     refine Run.p (.int .i64 (((k + 2 : Nat) : Int))) rfl rfl ?_
     refine Run.done ?_
     refine Run.ret ?_
     refine ⟨.int .i64 (((k + 2 : Nat) : Int)), [], Out.one rfl rfl, (Some'.weak (.nil _)), ?_⟩
     first | exact congrArg _ hgo | (refine congrArg _ (Eq.trans ?_ hgo); first | (rw [getLast_ix (by omega)]; done) | (rw [List.length_eq_zero_iff.1 (by omega : st.length = 0)]; rfl))
    ·have p31 := h31; try simp only [bs] at p31
     rw [if_neg (by omega)] at hgo
     refine Run.skip ?_
     refine Run.region ?_
     refine Run.p (.slice A_vo1 (st.length) c_vo1) rfl rfl ?_
     refine Run.p (.slice A_vo1 (st.length) c_vo1) rfl rfl ?_
     refine Run.y (.int .i64 (((st.length : Nat) : Int))) rfl (OpY.len Tsl_75 rfl) ?_
     refine Run.y (.int .i64 ((((st.length : Nat) : Int)) - 1)) rfl (OpY.sub rfl rfl rfl (by omega) (by omega)) ?_
     refine Run.weak (H' := [.own (.slice A_vo1 (st.length) c_vo1) 3 1 (st.length) (ints st), .blk b2 95 [sv (x.word), .int .i64 (x.kind), sv (x.nm), .int .i64 (x.num), .slice Aq (x.qs.length) cq]]) (Weak.selF [1]) ?_ ⟨_, _, rfl, fun _ => nofun, fun _ => nofun⟩
     refine Run.weak (H' := [.own (.slice A_vo1 ((st.length - 1)) c_vo1) 3 1 ((st.length - 1)) (ints st.dropLast), .blk b2 95 [sv (x.word), .int .i64 (x.kind), sv (x.nm), .int .i64 (x.num), .slice Aq (x.qs.length) cq]]) ((Weak.ownTake (m := (st.length - 1)) (by omega)).trans (Some'.weak (.takeEq (by rw [Nat.mul_one, ints_take', ← dropLast_take']) (.take (.nil _))))) ?_ ⟨_, _, rfl, fun _ => nofun, fun _ => nofun⟩
     refine Run.weak (H' := [.own (.slice A_vo1 ((st.length - 1)) c_vo1) 3 1 (st.dropLast.length) (ints st.dropLast), .blk b2 95 [sv (x.word), .int .i64 (x.kind), sv (x.nm), .int .i64 (x.num), .slice Aq (x.qs.length) cq]]) (Some'.weak (.takeEq (by rw [List.length_dropLast]) (.take (.nil _)))) ?_ ⟨_, _, rfl, fun _ => nofun, fun _ => nofun⟩
     refine Run.y (.slice A_vo1 (st.length - 1) c_vo1) rfl (OpY.sliceHN (h := st.length - 1) Tsl_75 rfl rfl (by omega) (by omega)) ?_
     refine Run.p (.slice A_vo1 (st.length - 1) c_vo1) rfl rfl ?_
     refine Run.done ?_
     refine Run.blockEnd ?_
     refine Run.blockEnd ?_
     refine Run.region ?_
     refine Run.y (.int .i64 ((((k : Nat) : Int)) + 1)) rfl (OpY.add rfl rfl rfl (by omega) (by omega)) ?_
     refine Run.p (.int .i64 ((((k : Nat) : Int)) + 1)) rfl rfl ?_
     refine Run.done ?_
     refine Run.goal ⟨(by repeat (first | exact Same.refl _ _ | refine Same.put rfl ?_ | refine Same.over rfl rfl ?_)), (k + 1, st.dropLast, on, .slice A_vo1 (st.length - 1) c_vo1), ?_, ?_, ?_, ?_⟩
     ·refine ⟨by omega, ?_, by first | omega | (simp; omega)⟩
      first | exact hgo | (rw [← hgo]; congr 1; simp_all; done) | (rw [← hgo]; simp_all; done)
     ·show n - 1 - (k + 1) < n - 1 - k; omega
     ·exact ⟨(by first | rfl | (congr 1; omega) | simp), (by first | rfl | (congr 1; omega) | simp), (by first | rfl | (congr 1; omega) | simp), trivial⟩
     ·exact (Some'.weak (.takeEq (by first | rfl | simp) (.nil _)))
   ·have p27 := h27; try simp only [bs] at p27
    rw [if_neg p27] at hgo
    refine Run.sr ?_
    refine Run.y (.bool ((x.word) == wD)) rfl (OpY.eqS rfl rfl) ?_
    refine Run.p (.bool ((x.word) == wD)) rfl rfl ?_
    refine Run.done ?_
    refine Run.cond (b := (x.word) == wD) rfl (fun h38 => ?_) (fun h38 => ?_)
    ·have p38 := h38; try simp only [bs] at p38
     rw [if_pos p38] at hgo
     refine Run.seq ?_
     refine Run.sr ?_
     refine Run.p (vo) rfl rfl ?_
     refine Run.formOwn (.tail _ (List.Mem.head _)) (fun A_vo2 c_vo2 hv hcapc_vo2 hmaxc_vo2 => ?_) (fun _ _ _ => ⟨nofun, nofun, nofun⟩)
     subst hv
     refine Run.y (.int .i64 (((st.length : Nat) : Int))) rfl (OpY.len Tsl_75 rfl) ?_
     refine Run.p (.bool (decide ((((st.length : Nat) : Int)) > 0))) rfl rfl ?_
     rcases Bool.eq_false_or_eq_true (decide ((((st.length : Nat) : Int)) > 0)) with h43 | h43
     ·refine Run.q (v := .bool true) rfl (OpQ.y (OpY.moveB rfl h43)) ?_
      have p43 := h43; try simp only [bs] at p43
      refine Run.pass rfl ?_
      refine Run.pass rfl ?_
      refine Run.p (.bool true) rfl rfl ?_
      refine Run.done ?_
      refine Run.cond (b := true) rfl (fun _ => ?_) (fun h => nomatch h)
      refine Run.seq ?_
      rw [if_pos (by first | exact .inl (by omega) | exact .inr (by simpa using h46))] at hgo
      refine Run.region ?_
      refine Run.p (.int .i64 (((k + 2 : Nat) : Int))) rfl rfl ?_
      refine Run.p (.int .i64 (((k + 2 : Nat) : Int))) rfl rfl ?_
      refine Run.done ?_
      refine Run.ret ?_
      refine ⟨.int .i64 (((k + 2 : Nat) : Int)), [], Out.one rfl rfl, (Some'.weak (.nil _)), ?_⟩
      first | exact congrArg _ hgo | (refine congrArg _ (Eq.trans ?_ hgo); first | (rw [getLast_ix (by omega)]; done) | (rw [List.length_eq_zero_iff.1 (by omega : st.length = 0)]; rfl))
     ·refine Run.q (v := .bool false) rfl (OpQ.y (OpY.moveB rfl h43)) ?_
      have p43 := h43; try simp only [bs] at p43
      refine Run.p (.bool on) rfl rfl ?_
      refine Run.p (.bool (!on)) rfl rfl ?_
      refine Run.p (.bool (!on)) rfl rfl ?_
      refine Run.done ?_
      refine Run.cond (b := !on) rfl (fun h46 => ?_) (fun h46 => ?_)
      ·have p46 := h46; try simp only [bs] at p46
       refine Run.seq ?_
       rw [if_pos (by first | exact .inl (by omega) | exact .inr (by simpa using h46))] at hgo
       refine Run.region ?_
       refine Run.p (.int .i64 (((k + 2 : Nat) : Int))) rfl rfl ?_
       refine Run.p (.int .i64 (((k + 2 : Nat) : Int))) rfl rfl ?_
       refine Run.done ?_
       refine Run.ret ?_
       refine ⟨.int .i64 (((k + 2 : Nat) : Int)), [], Out.one rfl rfl, (Some'.weak (.nil _)), ?_⟩
       first | exact congrArg _ hgo | (refine congrArg _ (Eq.trans ?_ hgo); first | (rw [getLast_ix (by omega)]; done) | (rw [List.length_eq_zero_iff.1 (by omega : st.length = 0)]; rfl))
      ·have p46 := h46; try simp only [bs] at p46
       refine Run.skip ?_
       rw [if_neg (by rintro (h | h) <;> simp_all <;> omega)] at hgo
       refine Run.region ?_
       refine Run.p (.slice A_vo2 (st.length) c_vo2) rfl rfl ?_
       refine Run.p (.int .i64 (((k + 2 : Nat) : Int))) rfl rfl ?_
       refine Run.step rfl (OpStep.buildSlice (us := [.int .i64 (((k + 2 : Nat) : Int))]) Tsl_75 (by decide) (by decide) ⟨rfl, [.int .i64 (((k + 2 : Nat) : Int))], _, rfl, rfl, rfl, rfl⟩ rfl fun b3 => ?_)
       refine Run.step rfl (OpStep.append (H1 := [.own (.slice (some ⟨b3, 0, none⟩) 1 1) 3 1 1 ([.int .i64 (((k + 2 : Nat) : Int))]), .blk b2 95 [sv (x.word), .int .i64 (x.kind), sv (x.nm), .int .i64 (x.num), .slice Aq (x.qs.length) cq]]) (H2 := []) (v := .slice A_vo2 (st.length) c_vo2) (u := .slice (some ⟨b3, 0, none⟩) 1 1) (n := st.length) (m := 1) (xs := ints st) (ys := [.int .i64 (((k + 2 : Nat) : Int))]) Tsl_75 (by decide) rfl rfl rfl rfl (fun w hs => hs.slOwn (.head _)) (by simp [Value.oneCell']) (by omega) (by simp only [maxLen]; omega) fun av1 hnav1 => ?_)
       refine Run.weak (H' := [.own (.slice (some ⟨b3, 0, none⟩) 1 1) 3 1 1 ([.int .i64 (((k + 2 : Nat) : Int))]), .blk b2 95 [sv (x.word), .int .i64 (x.kind), sv (x.nm), .int .i64 (x.num), .slice Aq (x.qs.length) cq], .own av1 3 1 ((st ++ [((k + 2 : Nat) : Int)]).length) (ints (st ++ [((k + 2 : Nat) : Int)]))]) (Some'.weak (.take (.take (.takeEq (by simp [ints]) (.nil _))))) ?_ ⟨_, _, rfl, fun _ => nofun, fun _ => nofun⟩
       refine Run.p (av1) rfl rfl ?_
       refine Run.done ?_
       refine Run.blockEnd ?_
       refine Run.blockEnd ?_
       refine Run.region ?_
       refine Run.y (.int .i64 ((((k : Nat) : Int)) + 1)) rfl (OpY.add rfl rfl rfl (by omega) (by omega)) ?_
       refine Run.p (.int .i64 ((((k : Nat) : Int)) + 1)) rfl rfl ?_
       refine Run.done ?_
       refine Run.goal ⟨(by repeat (first | exact Same.refl _ _ | refine Same.put rfl ?_ | refine Same.over rfl rfl ?_)), (k + 1, (st ++ [((k + 2 : Nat) : Int)]), on, av1), ?_, ?_, ?_, ?_⟩
       ·refine ⟨by omega, ?_, by first | omega | (simp; omega)⟩
        first | exact hgo | (rw [← hgo]; congr 1; simp_all; done) | (rw [← hgo]; simp_all; done)
       ·show n - 1 - (k + 1) < n - 1 - k; omega
       ·exact ⟨(by first | rfl | (congr 1; omega) | simp), (by first | rfl | (congr 1; omega) | simp), (by first | rfl | (congr 1; omega) | simp), trivial⟩
       ·exact (Some'.weak (.skip (.skip (.takeEq (by first | rfl | simp) (.nil _)))))
    ·have p38 := h38; try simp only [bs] at p38
     rw [if_neg p38] at hgo
     refine Run.sr ?_
     refine Run.y (.bool ((x.word) == wR)) rfl (OpY.eqS rfl rfl) ?_
     refine Run.p (.bool ((x.word) == wR)) rfl rfl ?_
     refine Run.done ?_
     refine Run.cond (b := (x.word) == wR) rfl (fun h52 => ?_) (fun h52 => ?_)
     ·have p52 := h52; try simp only [bs] at p52
      rw [if_pos p52] at hgo
      refine Run.sr ?_
      refine Run.p (.bool on) rfl rfl ?_
      rcases Bool.eq_false_or_eq_true (on) with h55 | h55
      ·refine Run.q (v := .bool true) rfl (OpQ.y (OpY.moveB rfl h55)) ?_
       have p55 := h55; try simp only [bs] at p55
       refine Run.p (vo) rfl rfl ?_
       refine Run.formOwn (.tail _ (List.Mem.head _)) (fun A_vo3 c_vo3 hv hcapc_vo3 hmaxc_vo3 => ?_) (fun _ _ _ => ⟨nofun, nofun, nofun⟩)
       subst hv
       refine Run.y (.int .i64 (((st.length : Nat) : Int))) rfl (OpY.len Tsl_75 rfl) ?_
       refine Run.p (.bool (decide ((((st.length : Nat) : Int)) > 0))) rfl rfl ?_
       refine Run.p (.bool (decide ((((st.length : Nat) : Int)) > 0))) rfl rfl ?_
       refine Run.p (.bool (decide ((((st.length : Nat) : Int)) > 0))) rfl rfl ?_
       refine Run.dr ?_
       refine Run.p (.slice A_vo3 (st.length) c_vo3) rfl rfl ?_
       refine Run.p (.int .i64 (((k + 2 : Nat) : Int))) rfl rfl ?_
       refine Run.step rfl (OpStep.buildSlice (us := [.int .i64 (((k + 2 : Nat) : Int))]) Tsl_75 (by decide) (by decide) ⟨rfl, [.int .i64 (((k + 2 : Nat) : Int))], _, rfl, rfl, rfl, rfl⟩ rfl fun b4 => ?_)
       refine Run.step rfl (OpStep.append (H1 := [.own (.slice (some ⟨b4, 0, none⟩) 1 1) 3 1 1 ([.int .i64 (((k + 2 : Nat) : Int))]), .blk b2 95 [sv (x.word), .int .i64 (x.kind), sv (x.nm), .int .i64 (x.num), .slice Aq (x.qs.length) cq]]) (H2 := []) (v := .slice A_vo3 (st.length) c_vo3) (u := .slice (some ⟨b4, 0, none⟩) 1 1) (n := st.length) (m := 1) (xs := ints st) (ys := [.int .i64 (((k + 2 : Nat) : Int))]) Tsl_75 (by decide) rfl rfl rfl rfl (fun w hs => hs.slOwn (.head _)) (by simp [Value.oneCell']) (by omega) (by simp only [maxLen]; omega) fun av2 hnav2 => ?_)
       refine Run.weak (H' := [.own (.slice (some ⟨b4, 0, none⟩) 1 1) 3 1 1 ([.int .i64 (((k + 2 : Nat) : Int))]), .blk b2 95 [sv (x.word), .int .i64 (x.kind), sv (x.nm), .int .i64 (x.num), .slice Aq (x.qs.length) cq], .own av2 3 1 ((st ++ [((k + 2 : Nat) : Int)]).length) (ints (st ++ [((k + 2 : Nat) : Int)]))]) (Some'.weak (.take (.take (.takeEq (by simp [ints]) (.nil _))))) ?_ ⟨_, _, rfl, fun _ => nofun, fun _ => nofun⟩
       refine Run.p (av2) rfl rfl ?_
       refine Run.done ?_
       refine Run.blockEnd ?_
       refine Run.blockEnd ?_
       refine Run.region ?_
       refine Run.y (.int .i64 ((((k : Nat) : Int)) + 1)) rfl (OpY.add rfl rfl rfl (by omega) (by omega)) ?_
       refine Run.p (.int .i64 ((((k : Nat) : Int)) + 1)) rfl rfl ?_
       refine Run.done ?_
       refine Run.goal ⟨(by repeat (first | exact Same.refl _ _ | refine Same.put rfl ?_ | refine Same.over rfl rfl ?_)), (k + 1, (st ++ [((k + 2 : Nat) : Int)]), ((decide ((((st.length : Nat) : Int)) > 0))), av2), ?_, ?_, ?_, ?_⟩
       ·refine ⟨by omega, ?_, by first | omega | (simp; omega)⟩
        first | exact hgo | (rw [← hgo]; congr 1; simp_all; done) | (rw [← hgo]; simp_all; done)
       ·show n - 1 - (k + 1) < n - 1 - k; omega
       ·exact ⟨(by first | rfl | (congr 1; omega) | simp), (by first | rfl | (congr 1; omega) | simp), (by first | rfl | (congr 1; omega) | simp), trivial⟩
       ·exact (Some'.weak (.skip (.skip (.takeEq (by first | rfl | simp) (.nil _)))))
      ·refine Run.q (v := .bool false) rfl (OpQ.y (OpY.moveB rfl h55)) ?_
       have p55 := h55; try simp only [bs] at p55
       refine Run.pass rfl ?_
       refine Run.pass rfl ?_
       refine Run.pass rfl ?_
       refine Run.p (.bool false) rfl rfl ?_
       refine Run.p (.bool false) rfl rfl ?_
       refine Run.dr ?_
       refine Run.p (vo) rfl rfl ?_
       refine Run.p (.int .i64 (((k + 2 : Nat) : Int))) rfl rfl ?_
       refine Run.step rfl (OpStep.buildSlice (us := [.int .i64 (((k + 2 : Nat) : Int))]) Tsl_75 (by decide) (by decide) ⟨rfl, [.int .i64 (((k + 2 : Nat) : Int))], _, rfl, rfl, rfl, rfl⟩ rfl fun b5 => ?_)
       refine Run.step rfl (OpStep.append (H1 := [.own (.slice (some ⟨b5, 0, none⟩) 1 1) 3 1 1 ([.int .i64 (((k + 2 : Nat) : Int))]), .blk b2 95 [sv (x.word), .int .i64 (x.kind), sv (x.nm), .int .i64 (x.num), .slice Aq (x.qs.length) cq]]) (H2 := []) (v := vo) (u := .slice (some ⟨b5, 0, none⟩) 1 1) (n := st.length) (m := 1) (xs := ints st) (ys := [.int .i64 (((k + 2 : Nat) : Int))]) Tsl_75 (by decide) rfl rfl rfl rfl (fun w hs => hs.slOwn (.head _)) (by simp [Value.oneCell']) (by omega) (by simp only [maxLen]; omega) fun av3 hnav3 => ?_)
       refine Run.weak (H' := [.own (.slice (some ⟨b5, 0, none⟩) 1 1) 3 1 1 ([.int .i64 (((k + 2 : Nat) : Int))]), .blk b2 95 [sv (x.word), .int .i64 (x.kind), sv (x.nm), .int .i64 (x.num), .slice Aq (x.qs.length) cq], .own av3 3 1 ((st ++ [((k + 2 : Nat) : Int)]).length) (ints (st ++ [((k + 2 : Nat) : Int)]))]) (Some'.weak (.take (.take (.takeEq (by simp [ints]) (.nil _))))) ?_ ⟨_, _, rfl, fun _ => nofun, fun _ => nofun⟩
       refine Run.p (av3) rfl rfl ?_
       refine Run.done ?_
       refine Run.blockEnd ?_
       refine Run.blockEnd ?_
       refine Run.region ?_
       refine Run.y (.int .i64 ((((k : Nat) : Int)) + 1)) rfl (OpY.add rfl rfl rfl (by omega) (by omega)) ?_
       refine Run.p (.int .i64 ((((k : Nat) : Int)) + 1)) rfl rfl ?_
       refine Run.done ?_
       refine Run.goal ⟨(by repeat (first | exact Same.refl _ _ | refine Same.put rfl ?_ | refine Same.over rfl rfl ?_)), (k + 1, (st ++ [((k + 2 : Nat) : Int)]), false, av3), ?_, ?_, ?_, ?_⟩
       ·refine ⟨by omega, ?_, by first | omega | (simp; omega)⟩
        first | exact hgo | (rw [← hgo]; congr 1; simp_all; done) | (rw [← hgo]; simp_all; done)
       ·show n - 1 - (k + 1) < n - 1 - k; omega
       ·exact ⟨(by first | rfl | (congr 1; omega) | simp), (by first | rfl | (congr 1; omega) | simp), (by first | rfl | (congr 1; omega) | simp), trivial⟩
       ·exact (Some'.weak (.skip (.skip (.takeEq (by first | rfl | simp) (.nil _)))))
     ·have p52 := h52; try simp only [bs] at p52
      rw [if_neg p52] at hgo
      refine Run.region ?_
      refine Run.p (.bool on) rfl rfl ?_
      rcases Bool.eq_false_or_eq_true (on) with h22 | h22
      ·refine Run.q (v := .bool true) rfl (OpQ.y (OpY.moveB rfl h22)) ?_
       have p22 := h22; try simp only [bs] at p22
       refine Run.p (vo) rfl rfl ?_
       refine Run.formOwn (.tail _ (List.Mem.head _)) (fun A_vo4 c_vo4 hv hcapc_vo4 hmaxc_vo4 => ?_) (fun _ _ _ => ⟨nofun, nofun, nofun⟩)
       subst hv
       refine Run.y (.int .i64 (((st.length : Nat) : Int))) rfl (OpY.len Tsl_75 rfl) ?_
       refine Run.p (.bool (decide ((((st.length : Nat) : Int)) > 0))) rfl rfl ?_
       refine Run.p (.bool (decide ((((st.length : Nat) : Int)) > 0))) rfl rfl ?_
       refine Run.p (.bool (decide ((((st.length : Nat) : Int)) > 0))) rfl rfl ?_
       refine Run.done ?_
       refine Run.blockEnd ?_
       refine Run.blockEnd ?_
       refine Run.region ?_
       refine Run.y (.int .i64 ((((k : Nat) : Int)) + 1)) rfl (OpY.add rfl rfl rfl (by omega) (by omega)) ?_
       refine Run.p (.int .i64 ((((k : Nat) : Int)) + 1)) rfl rfl ?_
       refine Run.done ?_
       refine Run.goal ⟨(by repeat (first | exact Same.refl _ _ | refine Same.put rfl ?_ | refine Same.over rfl rfl ?_)), (k + 1, st, ((decide ((((st.length : Nat) : Int)) > 0))), .slice A_vo4 (st.length) c_vo4), ?_, ?_, ?_, ?_⟩
       ·refine ⟨by omega, ?_, by first | omega | (simp; omega)⟩
        first | exact hgo | (rw [← hgo]; congr 1; simp_all; done) | (rw [← hgo]; simp_all; done)
       ·show n - 1 - (k + 1) < n - 1 - k; omega
       ·exact ⟨(by first | rfl | (congr 1; omega) | simp), (by first | rfl | (congr 1; omega) | simp), (by first | rfl | (congr 1; omega) | simp), trivial⟩
       ·exact (Some'.weak (.skip (.takeEq (by first | rfl | simp) (.nil _))))
      ·refine Run.q (v := .bool false) rfl (OpQ.y (OpY.moveB rfl h22)) ?_
       have p22 := h22; try simp only [bs] at p22
       refine Run.pass rfl ?_
       refine Run.pass rfl ?_
       refine Run.pass rfl ?_
       refine Run.p (.bool false) rfl rfl ?_
       refine Run.p (.bool false) rfl rfl ?_
       refine Run.done ?_
       refine Run.blockEnd ?_
       refine Run.blockEnd ?_
       refine Run.region ?_
       refine Run.y (.int .i64 ((((k : Nat) : Int)) + 1)) rfl (OpY.add rfl rfl rfl (by omega) (by omega)) ?_
       refine Run.p (.int .i64 ((((k : Nat) : Int)) + 1)) rfl rfl ?_
       refine Run.done ?_
       refine Run.goal ⟨(by repeat (first | exact Same.refl _ _ | refine Same.put rfl ?_ | refine Same.over rfl rfl ?_)), (k + 1, st, false, vo), ?_, ?_, ?_, ?_⟩
       ·refine ⟨by omega, ?_, by first | omega | (simp; omega)⟩
        first | exact hgo | (rw [← hgo]; congr 1; simp_all; done) | (rw [← hgo]; simp_all; done)
       ·show n - 1 - (k + 1) < n - 1 - k; omega
       ·exact ⟨(by first | rfl | (congr 1; omega) | simp), (by first | rfl | (congr 1; omega) | simp), (by first | rfl | (congr 1; omega) | simp), trivial⟩
       ·exact (Some'.weak (.skip (.takeEq (by first | rfl | simp) (.nil _))))
  ·have p13 := h13; try simp only [bs] at p13
   have hkn : k = n - 1 := by omega
   obtain ⟨hk, hgo, hst⟩ := hinv
   have hdn : (M.map (·.1)).drop k = [] := by rw [List.drop_eq_nil_iff]; simp; omega
   rw [hdn, fbGo] at hgo
   refine Run.exit rfl ?_
   refine Run.seq ?_
   refine Run.sr ?_
   refine Run.p (vo) rfl rfl ?_
   refine Run.formOwn (.head _) (fun A_vo5 c_vo5 hv hcapc_vo5 hmaxc_vo5 => ?_) (fun _ _ _ => ⟨nofun, nofun, nofun⟩)
   subst hv
   refine Run.y (.int .i64 (((st.length : Nat) : Int))) rfl (OpY.len Tsl_75 rfl) ?_
   refine Run.p (.bool (decide ((((st.length : Nat) : Int)) > 0))) rfl rfl ?_
   refine Run.done ?_
   refine Run.cond (b := decide ((((st.length : Nat) : Int)) > 0)) rfl (fun h67 => ?_) (fun h67 => ?_)
   ·have p67 := h67; try simp only [bs] at p67
    refine Run.openOwn (.head _) (by omega) (fun gs cgs hvgs hcapgs _ => ?_) (fun _ _ _ => ⟨nofun, nofun, nofun⟩)
    injection hvgs with hAgs _ hcgs; subst hAgs; subst hcgs
    refine Run.sr ?_
    refine Run.p (.slice (some ⟨gs, 0, none⟩) (st.length) c_vo5) rfl rfl ?_
    refine Run.p (.slice (some ⟨gs, 0, none⟩) (st.length) c_vo5) rfl rfl ?_
    refine Run.y (.int .i64 (((st.length : Nat) : Int))) rfl (OpY.len Tsl_75 rfl) ?_
    refine Run.y (.int .i64 ((((st.length : Nat) : Int)) - 1)) rfl (OpY.sub rfl rfl rfl (by omega) (by omega)) ?_
    refine Run.y (.pointer (some ⟨gs, st.length - 1, none⟩)) rfl (OpY.index (kk := st.length - 1) Tsl_75 rfl rfl (by omega) (by omega) (by first | rfl | omega)) ?_
    refine Run.y (.int .i64 (ix st (st.length - 1))) rfl (OpY.load1 Tone_3 rfl (Cells.own0 (.head _) (pre1 (by omega)))) ?_
    refine Run.p (.int .i64 (ix st (st.length - 1))) rfl rfl ?_
    refine Run.done ?_
    refine Run.ret ?_
    refine ⟨.int .i64 (ix st (st.length - 1)), [], Out.one rfl rfl, (Some'.weak (.nil _)), ?_⟩
    first | exact congrArg _ hgo | (refine congrArg _ (Eq.trans ?_ hgo); first | (rw [getLast_ix (by omega)]; done) | (rw [List.length_eq_zero_iff.1 (by omega : st.length = 0)]; rfl))
   ·have p67 := h67; try simp only [bs] at p67
    refine Run.skip ?_
    refine Run.sr ?_
    refine Run.p (.int .i64 0) rfl rfl ?_
    refine Run.done ?_
    refine Run.ret ?_
    refine ⟨.int .i64 0, [], Out.one rfl rfl, (Some'.weak (.nil _)), ?_⟩
    first | exact congrArg _ hgo | (refine congrArg _ (Eq.trans ?_ hgo); first | (rw [getLast_ix (by omega)]; done) | (rw [List.length_eq_zero_iff.1 (by omega : st.length = 0)]; rfl))

end Go.Proofs.YtgpkpopbajkklaaGreatDoor
/- Walks: the laws' own functions on edges and coupling graphs. -/
set_option linter.unusedSimpArgs false
set_option linter.unusedVariables false
namespace Go.Proofs.YtgpkpopbajkklaaGreatDoor
open Go Go.RowKit
end Go.Proofs.YtgpkpopbajkklaaGreatDoor
/- Walks: valid edges, valid coupling graphs; the law FnExactIsValidCouplingGraph. -/
set_option linter.unusedSimpArgs false
set_option linter.unusedVariables false
namespace Go.Proofs.YtgpkpopbajkklaaGreatDoor
open Go Go.RowKit
/-- Edge i of a flat list of edges is in range and behind the one before it. -/
def edgeOk (N : Int) (xs : List Int) (i : Nat) : Prop :=
  0 ≤ ix xs (i * 2) ∧ ix xs (i * 2) < ix xs (i * 2 + 1) ∧ ix xs (i * 2 + 1) < N ∧ (0 < i → ix xs ((i - 1) * 2) < ix xs (i * 2) ∨ (ix xs ((i - 1) * 2) = ix xs (i * 2) ∧ ix xs ((i - 1) * 2 + 1) < ix xs (i * 2 + 1)))
instance (N : Int) (xs : List Int) (i : Nat) : Decidable (edgeOk N xs i) := by unfold edgeOk; infer_instance
end Go.Proofs.YtgpkpopbajkklaaGreatDoor
/- Walks: searches in slices, placements, neighbours in a coupling graph. -/
set_option linter.unusedSimpArgs false
set_option linter.unusedVariables false
namespace Go.Proofs.YtgpkpopbajkklaaGreatDoor
open Go Go.RowKit
namespace Cg3T
theorem Tcall_133 : callable Tryz.prog 133 = true := by kernel_rfl
theorem Tone_3 : oneOf Tryz.prog 3 = true := by kernel_rfl
theorem Tsl_75 : sliceOf Tryz.prog 75 = some (3, 1, 8, [.int .i64 0]) := by kernel_rfl
end Cg3T
open Cg3T
set_option maxHeartbeats 1000000 in
set_option maxRecDepth 20000 in
theorem l1Has_spec {va : Value} {n : Nat} {xs : List Int} {x : Int} {w : World} (ha : Sl w va 1 n (ints xs)) : Calls Tryz.prog 85 #[va, .int .i64 x] w (Post No w fun v _ => v = .bool (hasI xs x n)) := by
 have hxl := ha.len
 have hn := ha.le
 obtain ⟨A, c, rfl, _, _⟩ := ha.form0
 refine enter (n := 17) (args := [.slice A n c, .int .i64 x]) Tryz.func85 rfl rfl (St.empty _ _) ?_
 refine Run.sr ?_
 refine Run.p (.bool false) rfl rfl ?_
 refine Run.done ?_
 refine Run.seq ?_
 refine Run.sr ?_
 refine Run.p (.slice A n c) rfl rfl ?_
 refine Run.y (.int .i64 (((n : Nat) : Int))) rfl (OpY.len Tsl_75 rfl) ?_
 refine Run.p (.int .i64 0) rfl rfl ?_
 refine Run.done ?_
 refine Run.block ?_
 refine Run.loop (ι := Nat) [4, 6, 9, 10, 11, 12, 13, 14, 15, 16] (fun k => [(9, .int .i64 (((k : Nat) : Int)))]) (fun k => []) (fun k => k ≤ n ∧ (∀ i, i < k → decide (ix xs i = x) = false)) (fun k => n - k) 0 ?_ ?_ ?_ ?_
 ·exact ⟨Nat.zero_le _, by first | trivial | (intro i hi; omega)⟩
 ·exact ⟨rfl, trivial⟩
 ·exact (Some'.weak (.nil _))
 ·rintro k fr hinv
  show Run _ _ (over _ _ [(9, .int .i64 (((k : Nat) : Int)))] fr) []
  try dsimp only at hinv
  refine Run.sr ?_
  refine Run.p (.bool (decide ((((k : Nat) : Int)) < (((n : Nat) : Int))))) rfl rfl ?_
  refine Run.done ?_
  refine Run.seq ?_
  refine Run.cond (b := decide ((((k : Nat) : Int)) < (((n : Nat) : Int)))) rfl (fun h10 => ?_) (fun h10 => ?_)
  ·have p10 := h10; try simp only [bs] at p10
   have hltk : k < n := by omega
   obtain ⟨b, o, rfl⟩ := ha.opn (by omega)
   refine Run.skip ?_
   refine Run.seq ?_
   refine Run.block ?_
   refine Run.sr ?_
   refine Run.y (.pointer (some ⟨b, o + k, none⟩)) rfl (OpY.index (kk := k) Tsl_75 rfl rfl (by omega) (by omega) (by first | rfl | omega)) ?_
   refine Run.y (.int .i64 (ix xs (k))) rfl (OpY.load1 Tone_3 rfl (Cells.arg (k := k) ha rfl (by omega) (pre1 (by omega)))) ?_
   refine Run.p (.int .i64 (ix xs (k))) rfl rfl ?_
   refine Run.dsr ?_
   refine Run.p (.int .i64 (ix xs (k))) rfl rfl ?_
   refine Run.p (.int .i64 x) rfl rfl ?_
   refine Run.p (.bool ((ix xs (k)) == x)) rfl rfl ?_
   refine Run.done ?_
   refine Run.cond (b := (ix xs (k)) == x) rfl (fun h15 => ?_) (fun h15 => ?_)
   ·have p15 := h15; try simp only [bs] at p15
    refine Run.seq ?_
    have hres : hasI xs x n = true := anyI_true hltk (by simpa using p15)
    refine Run.region ?_
    refine Run.p (.bool true) rfl rfl ?_
    refine Run.done ?_
    refine Run.ret ?_
    refine ⟨.bool true, [], Out.one rfl rfl, (Some'.weak (.nil _)), ?_⟩
    show _ = _; rw [hres]
   ·have p15 := h15; try simp only [bs] at p15
    refine Run.skip ?_
    refine Run.blockEnd ?_
    have hgood : decide (ix xs k = x) = false := by simpa using p15
    refine Run.region ?_
    refine Run.y (.int .i64 ((((k : Nat) : Int)) + 1)) rfl (OpY.add rfl rfl rfl (by omega) (by omega)) ?_
    refine Run.p (.int .i64 ((((k : Nat) : Int)) + 1)) rfl rfl ?_
    refine Run.done ?_
    refine Run.goal ⟨(by repeat (first | exact Same.refl _ _ | refine Same.put rfl ?_ | refine Same.over rfl rfl ?_)), k + 1, ?_, ?_, ?_, ?_⟩
    ·refine ⟨by omega, ?_⟩
     intro i hi
     rcases Nat.lt_succ_iff_lt_or_eq.1 hi with h | h
     ·exact hinv.2 i h
     ·rw [h]; exact hgood
    ·omega
    ·exact ⟨(by first | rfl | (congr 1; omega) | simp), trivial⟩
    ·exact (Some'.weak (.nil _))
  ·have p10 := h10; try simp only [bs] at p10
   have hknk : k = n := by omega
   have hres : hasI xs x n = false := by rw [← hknk]; exact anyI_false hinv.2
   refine Run.exit rfl ?_
   refine Run.sr ?_
   refine Run.p (.bool false) rfl rfl ?_
   refine Run.done ?_
   refine Run.ret ?_
   refine ⟨.bool false, [], Out.one rfl rfl, (Some'.weak (.nil _)), ?_⟩
   show _ = _; rw [hres]

set_option maxHeartbeats 1000000 in
set_option maxRecDepth 20000 in
theorem IndexInt_spec {va : Value} {n : Nat} {xs : List Int} {x : Int} {w : World} (ha : Sl w va 1 n (ints xs)) : Calls Tryz.prog 133 #[va, .int .i64 x] w (Post No w fun v _ => v = .int .i64 (findI (fun i => decide (ix xs i = x)) n)) := by
 have hxl := ha.len
 have hn := ha.le
 obtain ⟨A, c, rfl, _, _⟩ := ha.form0
 refine enter (n := 19) (args := [.slice A n c, .int .i64 x]) Tryz.func133 rfl rfl (St.empty _ _) ?_
 refine Run.sr ?_
 refine Run.p (.int .i64 0) rfl rfl ?_
 refine Run.done ?_
 refine Run.seq ?_
 refine Run.sr ?_
 refine Run.p (.slice A n c) rfl rfl ?_
 refine Run.y (.int .i64 (((n : Nat) : Int))) rfl (OpY.len Tsl_75 rfl) ?_
 refine Run.p (.int .i64 0) rfl rfl ?_
 refine Run.done ?_
 refine Run.block ?_
 refine Run.loop (ι := Nat) [4, 5, 8, 9, 10, 11, 12, 13, 14, 15, 16, 17, 18] (fun k => [(8, .int .i64 (((k : Nat) : Int)))]) (fun k => []) (fun k => k ≤ n ∧ (∀ i, i < k → decide (ix xs i = x) = false)) (fun k => n - k) 0 ?_ ?_ ?_ ?_
 ·exact ⟨Nat.zero_le _, by first | trivial | (intro i hi; omega)⟩
 ·exact ⟨rfl, trivial⟩
 ·exact (Some'.weak (.nil _))
 ·rintro k fr hinv
  show Run _ _ (over _ _ [(8, .int .i64 (((k : Nat) : Int)))] fr) []
  try dsimp only at hinv
  refine Run.sr ?_
  refine Run.p (.bool (decide ((((k : Nat) : Int)) < (((n : Nat) : Int))))) rfl rfl ?_
  refine Run.done ?_
  refine Run.seq ?_
  refine Run.cond (b := decide ((((k : Nat) : Int)) < (((n : Nat) : Int)))) rfl (fun h9 => ?_) (fun h9 => ?_)
  ·have p9 := h9; try simp only [bs] at p9
   have hltk : k < n := by omega
   obtain ⟨b, o, rfl⟩ := ha.opn (by omega)
   refine Run.skip ?_
   refine Run.seq ?_
   refine Run.block ?_
   refine Run.sr ?_
   refine Run.p (.int .i64 (((k : Nat) : Int))) rfl rfl ?_
   refine Run.p (.int .i64 (((k : Nat) : Int))) rfl rfl ?_
   refine Run.dsr ?_
   refine Run.p (.int .i64 x) rfl rfl ?_
   refine Run.p (.slice (some ⟨b, o, none⟩) n c) rfl rfl ?_
   refine Run.p (.int .i64 (((k : Nat) : Int))) rfl rfl ?_
   refine Run.y (.pointer (some ⟨b, o + k, none⟩)) rfl (OpY.index (kk := k) Tsl_75 rfl rfl (by omega) (by omega) (by first | rfl | omega)) ?_
   refine Run.y (.int .i64 (ix xs (k))) rfl (OpY.load1 Tone_3 rfl (Cells.arg (k := k) ha rfl (by omega) (pre1 (by omega)))) ?_
   refine Run.p (.bool (x == (ix xs (k)))) rfl rfl ?_
   refine Run.done ?_
   refine Run.cond (b := x == (ix xs (k))) rfl (fun h16 => ?_) (fun h16 => ?_)
   ·have p16 := h16; try simp only [bs] at p16
    refine Run.seq ?_
    have hres : findI (fun i => decide (ix xs i = x)) n = k := findI_hit hinv.2 (by simp; omega) hltk
    refine Run.region ?_
    refine Run.p (.int .i64 (((k : Nat) : Int))) rfl rfl ?_
    refine Run.p (.int .i64 (((k : Nat) : Int))) rfl rfl ?_
    refine Run.done ?_
    refine Run.ret ?_
    refine ⟨.int .i64 (((k : Nat) : Int)), [], Out.one rfl rfl, (Some'.weak (.nil _)), ?_⟩
    show _ = _; rw [hres]
   ·have p16 := h16; try simp only [bs] at p16
    refine Run.skip ?_
    refine Run.blockEnd ?_
    have hgood : decide (ix xs k = x) = false := by simp; omega
    refine Run.region ?_
    refine Run.y (.int .i64 ((((k : Nat) : Int)) + 1)) rfl (OpY.add rfl rfl rfl (by omega) (by omega)) ?_
    refine Run.p (.int .i64 ((((k : Nat) : Int)) + 1)) rfl rfl ?_
    refine Run.done ?_
    refine Run.goal ⟨(by repeat (first | exact Same.refl _ _ | refine Same.put rfl ?_ | refine Same.over rfl rfl ?_)), k + 1, ?_, ?_, ?_, ?_⟩
    ·refine ⟨by omega, ?_⟩
     intro i hi
     rcases Nat.lt_succ_iff_lt_or_eq.1 hi with h | h
     ·exact hinv.2 i h
     ·rw [h]; exact hgood
    ·omega
    ·exact ⟨(by first | rfl | (congr 1; omega) | simp), trivial⟩
    ·exact (Some'.weak (.nil _))
  ·have p9 := h9; try simp only [bs] at p9
   have hknk : k = n := by omega
   have hres : findI (fun i => decide (ix xs i = x)) n = -1 := by rw [← hknk]; exact findI_none hinv.2
   refine Run.exit rfl ?_
   refine Run.sr ?_
   refine Run.p (.int .i64 (-1)) rfl rfl ?_
   refine Run.done ?_
   refine Run.ret ?_
   refine ⟨.int .i64 (-1), [], Out.one rfl rfl, (Some'.weak (.nil _)), ?_⟩
   show _ = _; rw [hres]

set_option maxHeartbeats 1000000 in
set_option maxRecDepth 20000 in
theorem ContainsInt_spec {va : Value} {n : Nat} {xs : List Int} {x : Int} {w : World} (ha : Sl w va 1 n (ints xs)) : Calls Tryz.prog 121 #[va, .int .i64 x] w (Post No w fun v _ => v = .bool (hasI xs x n)) := by
 refine enter (n := 9) (args := [va, .int .i64 x]) Tryz.func121 rfl rfl (St.empty _ _) ?_
 refine Run.sr ?_
 refine Run.p (.bool false) rfl rfl ?_
 refine Run.dsr ?_
 refine Run.p (va) rfl rfl ?_
 refine Run.p (.int .i64 x) rfl rfl ?_
 refine Run.q (v := .int .i64 (findI (fun i => decide (ix xs i = x)) n)) rfl (OpQ.call (vs := [va, .int .i64 x]) (caps := []) Tcall_133 rfl rfl (fun w hs => IndexInt_spec (hs.sl ha))) ?_
 refine Run.p (.bool (decide ((findI (fun i => decide (ix xs i = x)) n) ≥ 0))) rfl rfl ?_
 refine Run.p (.bool (decide ((findI (fun i => decide (ix xs i = x)) n) ≥ 0))) rfl rfl ?_
 refine Run.done ?_
 refine Run.ret ?_
 refine ⟨.bool (decide ((findI (fun i => decide (ix xs i = x)) n) ≥ 0)), [], Out.one rfl rfl, (Some'.weak (.nil _)), ?_⟩
 show _ = _; rw [findI_ge]; rfl


def edgeAt (xs : List Int) (a b : Int) (i : Nat) : Bool := decide (ix xs (i * 2) = a ∧ ix xs (i * 2 + 1) = b ∨ ix xs (i * 2) = b ∧ ix xs (i * 2 + 1) = a)
/-- Two nodes are connected. -/
def adj (xs : List Int) (n : Nat) (a b : Int) : Bool := anyI (edgeAt xs a b) n
theorem adj_comm (xs : List Int) (n : Nat) (a b : Int) : adj xs n a b = adj xs n b a := anyI_congr fun i _ => by
  unfold edgeAt
  rw [decide_eq_decide]
  omega
def nbL (N : Int) (xs : List Int) (n : Nat) (node : Int) : List Int := filterL (fun k => adj xs n node k) N.toNat

end Go.Proofs.YtgpkpopbajkklaaGreatDoor
