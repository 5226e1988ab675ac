/- Walks: the reference reads a line of a circuit text. -/
import Derived.Test.YtgpkpopbajkklaaGreatDoorV8
import Derived.Test.YtgpkpopbajkklaaGreatDoorProg
set_option linter.unusedSimpArgs false
set_option linter.unusedVariables false
namespace Go.Proofs.YtgpkpopbajkklaaGreatDoor
open Go Go.RowKit
namespace TxoT
theorem Tagg_77 : aggOf Tryz.prog 77 = some 7 := by kernel_rfl
theorem Tbool_4 : Tryz.prog.underlying 4 = some .bool := by kernel_rfl
theorem Tcall_101 : callable Tryz.prog 101 = true := by kernel_rfl
theorem Tcall_68 : callable Tryz.prog 68 = true := by kernel_rfl
theorem Tcall_79 : callable Tryz.prog 79 = true := by kernel_rfl
theorem Tcall_80 : callable Tryz.prog 80 = true := by kernel_rfl
theorem Tcall_81 : callable Tryz.prog 81 = true := by kernel_rfl
theorem Tcall_82 : callable Tryz.prog 82 = true := by kernel_rfl
theorem Tcall_83 : callable Tryz.prog 83 = true := by kernel_rfl
theorem Tfo_69_1 : fieldOff Tryz.prog 69 1 = some 1 := by kernel_rfl
theorem Tfo_69_2 : fieldOff Tryz.prog 69 2 = some 2 := by kernel_rfl
theorem Tfo_77_1 : fieldOff Tryz.prog 77 1 = some 1 := by kernel_rfl
theorem Tone_3 : oneOf Tryz.prog 3 = true := by kernel_rfl
theorem Tone_9 : oneOf Tryz.prog 9 = true := by kernel_rfl
theorem Tsize_3 : (Tryz.prog.info? 3).map (·.size) = some 1 := by kernel_rfl
theorem Tsize_77 : (Tryz.prog.info? 77).map (·.size) = some 7 := by kernel_rfl
theorem Tsl_40 : sliceOf Tryz.prog 40 = some (9, 1, 16, [sv ([])]) := by kernel_rfl
theorem Tsl_75 : sliceOf Tryz.prog 75 = some (3, 1, 8, [.int .i64 0]) := by kernel_rfl
theorem Tzero_77 : zeroOf Tryz.prog 77 = some [sv ([]), .int .i64 0, .int .i64 0, .int .i64 0, .int .i64 0, sv ([]), .slice none 0 0] := by kernel_rfl
end TxoT
open TxoT
/-- The gate of a line, and the qubits of a call. -/
def Li.g3 : Li → G3
  | .gate k q => gateG k q
  | _ => (0, 0, 0)
def Li.ar : Li → List Int
  | .call _ q => q
  | _ => []
/-- What the reference reads of a line. -/
def LnR (o : Option Li) (b : Bool) (c0 : Bs) (c1 c2 c3 c4 : Int) (c5 : Bs) (ar : List Int) : Prop := b = o.isSome ∧ ∀ x, o = some x → c0 = x.word ∧ ((c1, c2, c3) : G3) = x.g3 ∧ c4 = x.num ∧ c5 = x.nm ∧ ar = x.ar
theorem LnR.no {o : Option Li} {c0 c5 : Bs} {c1 c2 c3 c4 : Int} {ar : List Int} (h : o = none) : LnR o false c0 c1 c2 c3 c4 c5 ar := ⟨by rw [h]; rfl, fun x hx => by rw [h] at hx; cases hx⟩
theorem LnR.yes {o : Option Li} {x : Li} (h : o = some x) : LnR o true x.word x.g3.1 x.g3.2.1 x.g3.2.2 x.num x.nm x.ar := ⟨by rw [h]; rfl, fun y hy => by rw [h] at hy; injection hy with hy; subst hy; exact ⟨rfl, rfl, rfl, rfl, rfl⟩⟩
theorem gateW_word {W : List Bs} {x : Li} (h : gateW W = some x) : x.word = wG := by
  unfold gateW at h
  split at h
  · injection h with h; subst h; rfl
  · cases h
theorem lineW_q2 {W : List Bs} {x : Li} (h : lineW W = some x) : (x.word == wQ) = (stx W 0 == wQ) := by
  by_cases hq : stx W 0 = wQ
  · rw [lineW_q hq] at h
    split at h
    · injection h with h; subst h; rw [hq]; rfl
    · cases h
  · have h1 : (stx W 0 == wQ) = false := beq_eq_false_iff_ne.2 hq
    rw [h1, beq_eq_false_iff_ne]
    unfold lineW at h
    rw [if_neg hq] at h
    split at h
    · split at h
      · injection h with h; subst h; exact (show wR ≠ wQ by decide)
      · cases h
    · split at h
      · split at h
        · injection h with h; subst h; exact (show wD ≠ wQ by decide)
        · cases h
      · split at h
        · split at h
          · injection h with h; subst h; exact (show wC ≠ wQ by decide)
          · cases h
        · split at h
          · split at h
            · injection h with h; subst h; exact (show wE ≠ wQ by decide)
            · cases h
          · rw [gateW_word h]; decide
/-- A line by its words, at a place. -/
def lineF (W : List Bs) (i : Nat) : Option Li := if (i == 0) = (stx W 0 == wQ) then lineW W else none
theorem lnAt_F {l : Bs} {W : List Bs} (h : splitC 32 l = W) (i : Nat) : lnAt i l = lineF W i := by
  cases hx : lineB l with
  | none =>
    rw [lnAt_bad hx, lineF]
    have : lineW W = none := by rw [← h]; exact hx
    rw [this]; simp
  | some x =>
    have h1 : lineW W = some x := by rw [← h]; exact hx
    have h2 := lineW_q2 h1
    by_cases h3 : (i == 0) = (stx W 0 == wQ)
    · rw [lnAt_ok hx (h2.trans h3.symm), lineF, if_pos h3, h1]
    · rw [lnAt_no hx (fun e => h3 (e.symm.trans h2)), lineF, if_neg h3]
theorem lrG (W : List Bs) (b : Bool) (c0 : Bs) (c1 c2 c3 : Int) (h : LnR (gateW W) b c0 c1 c2 c3 0 [] []) (h1 : ¬ stx W 0 = wQ) (h2 : ¬ stx W 0 = wR) (h3 : ¬ stx W 0 = wD) (h4 : ¬ stx W 0 = wC) (h5 : ¬ stx W 0 = wE) : LnR (lineW W) b c0 c1 c2 c3 0 [] [] := by rw [lineW_g h1 h2 h3 h4 h5]; exact h
section
variable {W : List Bs} {c0 c5 : Bs} {c1 c2 c3 c4 : Int} {ar : List Int}
theorem lrQ (h : stx W 0 = wQ) (hl : ((W.length : Nat) : Int) = 2) (hn : within (num2 (stx W 1)) 1 5 = true) : LnR (lineW W) true wQ 0 0 0 (num2 (stx W 1)) [] [] := LnR.yes (x := .qb (num2 (stx W 1))) (by rw [lineW_q h, if_pos ⟨by omega, hn⟩])
theorem lrQ0 (h : stx W 0 = wQ) (hn : ¬ ((W.length : Nat) : Int) = 2 ∨ within (num2 (stx W 1)) 1 5 = false) : LnR (lineW W) false c0 c1 c2 c3 c4 c5 ar := LnR.no (by rw [lineW_q h, if_neg]; rintro ⟨ha, hb⟩; rcases hn with hn | hn <;> first | omega | (rw [hb] at hn; cases hn))
theorem lrR (h : stx W 0 = wR) (hl : ((W.length : Nat) : Int) = 3) (ho : stx W 2 = wO) (hn : within (num2 (stx W 1)) 2 99 = true) : LnR (lineW W) true wR 0 0 0 (num2 (stx W 1)) [] [] := LnR.yes (x := .rep (num2 (stx W 1))) (by rw [lineW_r h, if_pos ⟨by omega, ho, hn⟩])
theorem lrR0 (h : stx W 0 = wR) (hn : ¬ ((W.length : Nat) : Int) = 3 ∨ ¬ stx W 2 = wO ∨ within (num2 (stx W 1)) 2 99 = false) : LnR (lineW W) false c0 c1 c2 c3 c4 c5 ar := LnR.no (by
  rw [lineW_r h, if_neg]; rintro ⟨ha, hb, hc⟩; rcases hn with hn | hn | hn
  · omega
  · exact hn hb
  · rw [hc] at hn; cases hn)
theorem lrD (h : stx W 0 = wD) (hl : ((W.length : Nat) : Int) = 4) (ho : stx W 3 = wO) (hm : nameB (stx W 1) = true) (hn : within (num2 (stx W 2)) 1 5 = true) : LnR (lineW W) true wD 0 0 0 (num2 (stx W 2)) (stx W 1) [] := LnR.yes (x := .df (stx W 1) (num2 (stx W 2))) (by rw [lineW_d h, if_pos ⟨by omega, ho, hm, hn⟩])
theorem lrD0 (h : stx W 0 = wD) (hn : ¬ ((W.length : Nat) : Int) = 4 ∨ ¬ stx W 3 = wO ∨ nameB (stx W 1) = false ∨ within (num2 (stx W 2)) 1 5 = false) : LnR (lineW W) false c0 c1 c2 c3 c4 c5 ar := LnR.no (by
  rw [lineW_d h, if_neg]; rintro ⟨ha, hb, hc, hd⟩; rcases hn with hn | hn | hn | hn
  · omega
  · exact hn hb
  · rw [hc] at hn; cases hn
  · rw [hd] at hn; cases hn)
theorem lrC (h : stx W 0 = wC) (hl : 3 ≤ ((W.length : Nat) : Int)) (hm : nameB (stx W 1) = true) : LnR (lineW W) (allNum (W.drop 2)) wC 0 0 0 0 (stx W 1) (nums (W.drop 2)) := by
  cases ha : allNum (W.drop 2) with
  | true => exact LnR.yes (x := .call (stx W 1) (nums (W.drop 2))) (by rw [lineW_c h, if_pos ⟨by omega, hm, ha⟩])
  | false => exact LnR.no (by rw [lineW_c h, if_neg]; rintro ⟨_, _, h3⟩; rw [ha] at h3; cases h3)
theorem lrC0 (h : stx W 0 = wC) (hn : ¬ 3 ≤ ((W.length : Nat) : Int) ∨ nameB (stx W 1) = false) : LnR (lineW W) false c0 c1 c2 c3 c4 c5 ar := LnR.no (by
  rw [lineW_c h, if_neg]; rintro ⟨ha, hb, hc⟩; rcases hn with hn | hn
  · omega
  · rw [hb] at hn; cases hn)
theorem lrE (h : stx W 0 = wE) : LnR (lineW W) (((W.length : Nat) : Int) == 1) wE 0 0 0 0 [] [] := by
  by_cases h1 : W.length = 1
  · have e : (((W.length : Nat) : Int) == 1) = true := by rw [h1]; rfl
    rw [e]; exact LnR.yes (x := .cl) (by rw [lineW_e h, if_pos h1])
  · have e : (((W.length : Nat) : Int) == 1) = false := by rw [beq_eq_false_iff_ne]; omega
    rw [e]; exact LnR.no (by rw [lineW_e h, if_neg h1])
end
theorem lgNo {W : List Bs} {k : Int} {q : List Int} {an : Bool} (hk : kindB (stx W 0) = k) (hq : nums (W.drop 1) = q) (han : allNum (W.drop 1) = an) (h : ¬ (an = true ∧ 0 < k ∧ ((q.length : Nat) : Int) = cntK k)) : gateW W = none := by
  subst hk; subst hq; subst han
  rw [gateW, if_neg]
  simpa using h
theorem lgYes {W : List Bs} {k : Int} {q : List Int} {an : Bool} (hk : kindB (stx W 0) = k) (hq : nums (W.drop 1) = q) (han : allNum (W.drop 1) = an) (h : an = true ∧ 0 < k ∧ ((q.length : Nat) : Int) = cntK k) : gateW W = some (.gate k q) := by
  subst hk; subst hq; subst han
  rw [gateW, if_pos]
  simpa using h
theorem LnR.gate {W : List Bs} {k c1 c2 c3 : Int} {q : List Int} (h : gateW W = some (.gate k q)) (h1 : c1 = k) (h2 : c2 = if 0 < q.length then ix q 0 else 0) (h3 : c3 = if 1 < q.length then ix q 1 else 0) : LnR (gateW W) true wG c1 c2 c3 0 [] [] := by
  subst h1; subst h2; subst h3; exact LnR.yes (x := .gate c1 q) h
theorem lrF {W : List Bs} {i : Nat} {b : Bool} {c0 c5 : Bs} {c1 c2 c3 c4 : Int} {ar : List Int} (h : (i == 0) = (stx W 0 == wQ)) (hh : LnR (lineW W) b c0 c1 c2 c3 c4 c5 ar) : LnR (lineF W i) b c0 c1 c2 c3 c4 c5 ar := by rw [lineF, if_pos h]; exact hh

set_option maxHeartbeats 4000000 in
set_option maxRecDepth 20000 in
theorem l5Gate_spec {va : Value} {n : Nat} {W : List Bs} {w : World} (ha : Sl w va 1 n (strs W)) (h1 : 1 ≤ n) (hW : ∀ s ∈ W, s.length ≤ 281474976710656) (hn16 : n ≤ 16777216) : Calls Tryz.prog 83 #[va] w (Post No w fun v H => ∃ c0 c1 c2 c3 b, v = .tuple #[.agg #[sv c0, .int .i64 c1, .int .i64 c2, .int .i64 c3, .int .i64 0, sv [], .slice none 0 0], .bool b] ∧ H = [] ∧ LnR (gateW W) b c0 c1 c2 c3 0 [] []) := by
 have hWn := ha.lenS
 have hn := ha.le
 have hkr := kindB_range (stx W 0)
 obtain ⟨A, c, rfl, hnc, _⟩ := ha.form0
 obtain ⟨q, hq⟩ : ∃ q, nums (W.drop 1) = q := ⟨_, rfl⟩
 obtain ⟨k, hk⟩ : ∃ k, kindB (stx W 0) = k := ⟨_, rfl⟩
 obtain ⟨an, han⟩ : ∃ an, allNum (W.drop 1) = an := ⟨_, rfl⟩
 rw [hk] at hkr
 refine enter (n := 54) (args := [.slice A n c]) Tryz.func83 rfl rfl (St.empty _ _) ?_
 refine .sr ?_
 refine .step rfl (.alloc (zs := [sv ([]), .int .i64 0, .int .i64 0, .int .i64 0, .int .i64 0, sv ([]), .slice none 0 0]) Tzero_77 fun b1 => ?_)
 refine .m ?_
 refine .done ?_
 refine .seq ?_
 obtain ⟨b, o, rfl⟩ := ha.opn (by omega)
 refine .region ?_
 refine .m ?_
 refine .u (.pointer (some ⟨b, o, none⟩)) (.ix 0 Tsl_40) ?_
 refine .u (sv (stx W 0)) (.load1 Tone_9 rfl (Cells.arg (k := 0) ha rfl (by omega) (preS (by omega)))) ?_
 refine .c (.int .i64 k) [sv (stx W 0)] Tcall_101 (fun w hs => (by have h := l5Kind_spec (l := stx W 0) w; rw [hk] at h; exact h)) ?_
 refine .m ?_
 refine .dsr ?_
 refine .m ?_
 refine .u ((sliced (some ⟨b, o, none⟩) 1 n c 1)) (.sliceL (l := 1) Tsl_40 rfl rfl (by decide) (by omega)) ?_
 refine .step rfl (.c [(sliced (some ⟨b, o, none⟩) 1 n c 1)] Tcall_82 (fun w hs => (by have h := l5Args_spec ((hs.sl ha).drop1 (l := 1) (by omega)) (fun s hs => hW s (List.mem_of_mem_drop hs)) (by omega); rw [hq, han] at h; exact h)) ?_)
 rintro _ _ ⟨v1, rfl, rfl⟩
 show Run _ _ (putF _ _ _ (.tuple #[v1, .bool an])) [.own v1 3 1 (q.length) (ints q), .blk b1 77 [sv ([]), .int .i64 0, .int .i64 0, .int .i64 0, .int .i64 0, sv ([]), .slice none 0 0]]
 refine .w (.tuple #[v1, .bool an]) ?_
 refine .w v1 ?_
 refine .w (.bool an) ?_
 refine .w v1 ?_
 refine .m ?_
 refine .dsr ?_
 refine .m ?_
 refine .done ?_
 refine .seq ?_
 refine .sr ?_
 refine .m ?_
 refine .w (.bool (decide (k ≥ 9))) ?_
 refine .done ?_
 refine Run.cut (ι := Int) [7] (fun m1 => [(7, .int .i64 m1)]) (fun m1 => [.own v1 3 1 (q.length) (ints q), .blk b1 77 [sv ([]), .int .i64 0, .int .i64 0, .int .i64 0, .int .i64 0, sv ([]), .slice none 0 0]]) (fun m1 => m1 = if 9 ≤ k then 2 else 1) ?_ ?_
 ·refine .cond (b := decide (k ≥ 9)) rfl (fun h20 => ?_) (fun h20 => ?_)
  ·have p20 := h20; try simp only [bs] at p20
   refine .region ?_
   refine .m ?_
   refine .done ?_
   refine .goal ⟨(by repeat (first | exact Same.refl _ _ | refine Same.put rfl ?_ | refine Same.over rfl rfl ?_)), 2, ?_, ?_, ?_⟩
   ·split <;> omega
   ·exact ⟨(by first | rfl | (congr 1; omega) | simp [*]), trivial⟩
   ·exact ((Weak.refl _).trans (Some'.weak (.takeEq (by first | rfl | simp) (.take (.nil _)))))
  have p20 := h20; try simp only [bs] at p20
  refine .skip ?_
  refine .goal ⟨(by repeat (first | exact Same.refl _ _ | refine Same.put rfl ?_ | refine Same.over rfl rfl ?_)), 1, ?_, ?_, ?_⟩
  ·split <;> omega
  ·exact ⟨(by first | rfl | (congr 1; omega) | simp [*]), trivial⟩
  ·exact ((Weak.refl _).trans (Some'.weak (.takeEq (by first | rfl | simp) (.take (.nil _)))))
 rintro m1 fr hcut
 show Run _ _ (over _ _ [(7, .int .i64 m1)] fr) [.own v1 3 1 (q.length) (ints q), .blk b1 77 [sv ([]), .int .i64 0, .int .i64 0, .int .i64 0, .int .i64 0, sv ([]), .slice none 0 0]]
 refine .seq ?_
 refine .sr ?_
 refine .m ?_
 refine .w (.bool (k == 12)) ?_
 refine .done ?_
 refine Run.cut (ι := Int) [7] (fun m2 => [(7, .int .i64 m2)]) (fun m2 => [.own v1 3 1 (q.length) (ints q), .blk b1 77 [sv ([]), .int .i64 0, .int .i64 0, .int .i64 0, .int .i64 0, sv ([]), .slice none 0 0]]) (fun m2 => m2 = cntK k ∧ (m2 = 0 ∨ m2 = 1 ∨ m2 = 2)) ?_ ?_
 ·refine .cond (b := k == 12) rfl (fun h22 => ?_) (fun h22 => ?_)
  ·have p22 := h22; try simp only [bs] at p22
   refine .region ?_
   refine .m ?_
   refine .done ?_
   refine .goal ⟨(by repeat (first | exact Same.refl _ _ | refine Same.put rfl ?_ | refine Same.over rfl rfl ?_)), 0, ?_, ?_, ?_⟩
   ·unfold cntK; (try rw [hcut]); constructor <;> (first | omega | (split <;> (try split) <;> omega))
   ·exact ⟨(by first | rfl | (congr 1; omega) | simp [*]), trivial⟩
   ·exact ((Weak.refl _).trans (Some'.weak (.takeEq (by first | rfl | simp) (.take (.nil _)))))
  have p22 := h22; try simp only [bs] at p22
  refine .skip ?_
  refine .goal ⟨(by repeat (first | exact Same.refl _ _ | refine Same.put rfl ?_ | refine Same.over rfl rfl ?_)), m1, ?_, ?_, ?_⟩
  ·unfold cntK; (try rw [hcut]); constructor <;> (first | omega | (split <;> (try split) <;> omega))
  ·exact ⟨(by first | rfl | (congr 1; omega) | simp [*]), trivial⟩
  ·exact ((Weak.refl _).trans (Some'.weak (.takeEq (by first | rfl | simp) (.take (.nil _)))))
 rintro m2 fr hcut
 show Run _ _ (over _ _ [(7, .int .i64 m2)] fr) [.own v1 3 1 (q.length) (ints q), .blk b1 77 [sv ([]), .int .i64 0, .int .i64 0, .int .i64 0, .int .i64 0, sv ([]), .slice none 0 0]]
 obtain ⟨hm2, hm3⟩ := hcut
 refine .seq ?_
 refine .sr ?_
 refine .m ?_
 refine .w (.bool (k == 0)) ?_
 rcases Bool.eq_false_or_eq_true (k == 0) with h25 | h25
 ·refine .mb h25 ?_
  have p25 := h25; try simp only [bs] at p25
  iterate 2 refine .pass rfl ?_
  refine .w (.bool true) ?_
  refine .m ?_
  iterate 4 refine .pass rfl ?_
  refine .w (.bool true) ?_
  refine .done ?_
  refine .cond (b := true) rfl (fun _ => ?_) (fun h => nomatch h)
  refine .sr ?_
  refine .u (.agg #[sv ([]), .int .i64 0, .int .i64 0, .int .i64 0, .int .i64 0, sv ([]), .slice none 0 0]) (.build (cs := [sv ([]), .int .i64 0, .int .i64 0, .int .i64 0, .int .i64 0, sv ([]), .slice none 0 0]) (by kernel_rfl)) ?_
  refine .step rfl (.storeAll (us := [sv ([]), .int .i64 0, .int .i64 0, .int .i64 0, .int .i64 0, sv ([]), .slice none 0 0]) Tsize_77 rfl rfl rfl (.there _ (.here _)) rfl ?_)
  refine .m ?_
  refine .done ?_
  refine .ret ?_
  refine ⟨.tuple #[.agg #[sv ([]), .int .i64 0, .int .i64 0, .int .i64 0, .int .i64 0, sv ([]), .slice none 0 0], .bool false], [], Out.cell2 rfl Tagg_77 rfl (Cells.blk (.tail _ (.head _)) ⟨rfl, rfl, rfl, rfl, rfl, rfl, rfl, trivial⟩) rfl, (Some'.weak (.nil _)), ?_⟩
  have hcn : cntK k = m2 := hm2.symm
  refine ⟨_, _, _, _, _, rfl, rfl, ?_⟩
  exact LnR.no (lgNo hk hq han (by rw [hcn]; rintro ⟨h1, h2, h3⟩; first | omega | simp_all))
 refine .mb h25 ?_
 have p25 := h25; try simp only [bs] at p25
 refine .m ?_
 refine .w (.bool (!an)) ?_
 refine .w (.bool (!an)) ?_
 rcases Bool.eq_false_or_eq_true (!an) with h29 | h29
 ·refine .mb h29 ?_
  have p29 := h29; try simp only [bs] at p29
  iterate 4 refine .pass rfl ?_
  refine .w (.bool true) ?_
  refine .done ?_
  refine .cond (b := true) rfl (fun _ => ?_) (fun h => nomatch h)
  refine .sr ?_
  refine .u (.agg #[sv ([]), .int .i64 0, .int .i64 0, .int .i64 0, .int .i64 0, sv ([]), .slice none 0 0]) (.build (cs := [sv ([]), .int .i64 0, .int .i64 0, .int .i64 0, .int .i64 0, sv ([]), .slice none 0 0]) (by kernel_rfl)) ?_
  refine .step rfl (.storeAll (us := [sv ([]), .int .i64 0, .int .i64 0, .int .i64 0, .int .i64 0, sv ([]), .slice none 0 0]) Tsize_77 rfl rfl rfl (.there _ (.here _)) rfl ?_)
  refine .m ?_
  refine .done ?_
  refine .ret ?_
  refine ⟨.tuple #[.agg #[sv ([]), .int .i64 0, .int .i64 0, .int .i64 0, .int .i64 0, sv ([]), .slice none 0 0], .bool false], [], Out.cell2 rfl Tagg_77 rfl (Cells.blk (.tail _ (.head _)) ⟨rfl, rfl, rfl, rfl, rfl, rfl, rfl, trivial⟩) rfl, (Some'.weak (.nil _)), ?_⟩
  have hcn : cntK k = m2 := hm2.symm
  refine ⟨_, _, _, _, _, rfl, rfl, ?_⟩
  exact LnR.no (lgNo hk hq han (by rw [hcn]; rintro ⟨h1, h2, h3⟩; first | omega | simp_all))
 refine .mb h29 ?_
 have p29 := h29; try simp only [bs] at p29
 refine .w v1 ?_
 refine Run.formOwn (.head _) (fun A_v11 c_v11 hv hcapc_v11 hmaxc_v11 => ?_) (fun _ _ _ => ⟨nofun, nofun, nofun⟩)
 subst hv
 refine .u (.int .i64 (((q.length : Nat) : Int))) (.len Tsl_75 rfl) ?_
 refine .m ?_
 refine .w (.bool ((((q.length : Nat) : Int)) != m2)) ?_
 refine .w (.bool ((((q.length : Nat) : Int)) != m2)) ?_
 refine .done ?_
 refine .cond (b := (((q.length : Nat) : Int)) != m2) rfl (fun h34 => ?_) (fun h34 => ?_)
 ·have p34 := h34; try simp only [bs] at p34
  refine .sr ?_
  refine .u (.agg #[sv ([]), .int .i64 0, .int .i64 0, .int .i64 0, .int .i64 0, sv ([]), .slice none 0 0]) (.build (cs := [sv ([]), .int .i64 0, .int .i64 0, .int .i64 0, .int .i64 0, sv ([]), .slice none 0 0]) (by kernel_rfl)) ?_
  refine .step rfl (.storeAll (us := [sv ([]), .int .i64 0, .int .i64 0, .int .i64 0, .int .i64 0, sv ([]), .slice none 0 0]) Tsize_77 rfl rfl rfl (.there _ (.here _)) rfl ?_)
  refine .m ?_
  refine .done ?_
  refine .ret ?_
  refine ⟨.tuple #[.agg #[sv ([]), .int .i64 0, .int .i64 0, .int .i64 0, .int .i64 0, sv ([]), .slice none 0 0], .bool false], [], Out.cell2 rfl Tagg_77 rfl (Cells.blk (.tail _ (.head _)) ⟨rfl, rfl, rfl, rfl, rfl, rfl, rfl, trivial⟩) rfl, (Some'.weak (.nil _)), ?_⟩
  have hcn : cntK k = m2 := hm2.symm
  refine ⟨_, _, _, _, _, rfl, rfl, ?_⟩
  exact LnR.no (lgNo hk hq han (by rw [hcn]; rintro ⟨h1, h2, h3⟩; first | omega | simp_all))
 have p34 := h34; try simp only [bs] at p34
 refine .skip ?_
 refine .sr ?_
 refine .m ?_
 refine .u (.agg #[.int .i64 k, .int .i64 0, .int .i64 0]) (.build (cs := [.int .i64 k, .int .i64 0, .int .i64 0]) (by kernel_rfl)) ?_
 refine .u (.agg #[sv wG, .int .i64 k, .int .i64 0, .int .i64 0, .int .i64 0, sv ([]), .slice none 0 0]) (.build (cs := [sv wG, .int .i64 k, .int .i64 0, .int .i64 0, .int .i64 0, sv ([]), .slice none 0 0]) (by kernel_rfl)) ?_
 refine .step rfl (.alloc (zs := [sv ([]), .int .i64 0, .int .i64 0, .int .i64 0, .int .i64 0, sv ([]), .slice none 0 0]) Tzero_77 fun b2 => ?_)
 refine .step rfl (.storeAll (us := [sv wG, .int .i64 k, .int .i64 0, .int .i64 0, .int .i64 0, sv ([]), .slice none 0 0]) Tsize_77 rfl rfl rfl (.here _) rfl ?_)
 refine .done ?_
 refine .seq ?_
 refine .sr ?_
 refine .m ?_
 refine .w (.bool (decide (m2 > 0))) ?_
 refine .done ?_
 refine .cond (b := decide (m2 > 0)) rfl (fun h40 => ?_) (fun h40 => ?_)
 ·have p40 := h40; try simp only [bs] at p40
  refine Run.openOwn (.tail _ (.head _)) (by omega) (fun gq cq hvgq hcapgq _ => ?_) (fun _ _ _ => ⟨nofun, nofun, nofun⟩)
  injection hvgq with hAgq _ hcgq; subst hAgq; subst hcgq
  refine .region ?_
  refine .m ?_
  refine .u (.pointer (some ⟨gq, 0, none⟩)) (.ix 0 Tsl_75) ?_
  refine .u (.int .i64 (ix q (0))) (.load1 Tone_3 rfl (Cells.own0 (.tail _ (.head _)) (pre1 (by omega)))) ?_
  refine .fa Tfo_77_1 ?_
  refine .fa Tfo_69_1 ?_
  refine .step rfl (.store (us := [.int .i64 (ix q (0))]) Tsize_3 rfl rfl rfl (.here _) (by simp only [List.length_cons, List.length_nil]; omega) ?_)
  show Run _ _ _ [.blk b2 77 [sv wG, .int .i64 k, .int .i64 (ix q (0)), .int .i64 0, .int .i64 0, sv ([]), .slice none 0 0], .own (.slice (some ⟨gq, 0, none⟩) (q.length) c_v11) 3 1 (q.length) (ints q), .blk b1 77 [sv ([]), .int .i64 0, .int .i64 0, .int .i64 0, .int .i64 0, sv ([]), .slice none 0 0]]
  refine .done ?_
  refine .seq ?_
  refine .sr ?_
  refine .m ?_
  refine .w (.bool (decide (m2 > 1))) ?_
  refine .done ?_
  refine .cond (b := decide (m2 > 1)) rfl (fun h47 => ?_) (fun h47 => ?_)
  ·have p47 := h47; try simp only [bs] at p47
   refine .region ?_
   refine .m ?_
   refine .u (.pointer (some ⟨gq, 1, none⟩)) (.ix 1 Tsl_75) ?_
   refine .u (.int .i64 (ix q (1))) (.load1 Tone_3 rfl (Cells.own0 (.tail _ (.head _)) (pre1 (by omega)))) ?_
   refine .fa Tfo_77_1 ?_
   refine .fa Tfo_69_2 ?_
   refine .step rfl (.store (us := [.int .i64 (ix q (1))]) Tsize_3 rfl rfl rfl (.here _) (by simp only [List.length_cons, List.length_nil]; omega) ?_)
   show Run _ _ _ [.blk b2 77 [sv wG, .int .i64 k, .int .i64 (ix q (0)), .int .i64 (ix q (1)), .int .i64 0, sv ([]), .slice none 0 0], .own (.slice (some ⟨gq, 0, none⟩) (q.length) c_v11) 3 1 (q.length) (ints q), .blk b1 77 [sv ([]), .int .i64 0, .int .i64 0, .int .i64 0, .int .i64 0, sv ([]), .slice none 0 0]]
   refine .dsr ?_
   refine .u (.agg #[sv wG, .int .i64 k, .int .i64 (ix q (0)), .int .i64 (ix q (1)), .int .i64 0, sv ([]), .slice none 0 0]) (.loadN (cs := [sv wG, .int .i64 k, .int .i64 (ix q (0)), .int .i64 (ix q (1)), .int .i64 0, sv ([]), .slice none 0 0]) Tagg_77 rfl (Cells.blk (.head _) ⟨rfl, rfl, rfl, rfl, rfl, rfl, rfl, trivial⟩)) ?_
   refine .step rfl (.storeAll (us := [sv wG, .int .i64 k, .int .i64 (ix q (0)), .int .i64 (ix q (1)), .int .i64 0, sv ([]), .slice none 0 0]) Tsize_77 rfl rfl rfl (.there _ (.there _ (.here _))) rfl ?_)
   refine .m ?_
   refine .done ?_
   refine .ret ?_
   refine ⟨.tuple #[.agg #[sv wG, .int .i64 k, .int .i64 (ix q (0)), .int .i64 (ix q (1)), .int .i64 0, sv ([]), .slice none 0 0], .bool true], [], Out.cell2 rfl Tagg_77 rfl (Cells.blk (.tail _ (.tail _ (.head _))) ⟨rfl, rfl, rfl, rfl, rfl, rfl, rfl, trivial⟩) rfl, (Some'.weak (.nil _)), ?_⟩
   have hcn : cntK k = m2 := hm2.symm
   refine ⟨_, _, _, _, _, rfl, rfl, ?_⟩
   exact LnR.gate (lgYes hk hq han (by rw [hcn]; exact ⟨by simp_all, by omega, by omega⟩)) rfl (by first | exact (if_pos (show 0 < q.length by omega)).symm | exact (if_neg (show ¬ 0 < q.length by omega)).symm) (by first | exact (if_pos (show 1 < q.length by omega)).symm | exact (if_neg (show ¬ 1 < q.length by omega)).symm)
  have p47 := h47; try simp only [bs] at p47
  refine .skip ?_
  refine .sr ?_
  refine .u (.agg #[sv wG, .int .i64 k, .int .i64 (ix q (0)), .int .i64 0, .int .i64 0, sv ([]), .slice none 0 0]) (.loadN (cs := [sv wG, .int .i64 k, .int .i64 (ix q (0)), .int .i64 0, .int .i64 0, sv ([]), .slice none 0 0]) Tagg_77 rfl (Cells.blk (.head _) ⟨rfl, rfl, rfl, rfl, rfl, rfl, rfl, trivial⟩)) ?_
  refine .step rfl (.storeAll (us := [sv wG, .int .i64 k, .int .i64 (ix q (0)), .int .i64 0, .int .i64 0, sv ([]), .slice none 0 0]) Tsize_77 rfl rfl rfl (.there _ (.there _ (.here _))) rfl ?_)
  refine .m ?_
  refine .done ?_
  refine .ret ?_
  refine ⟨.tuple #[.agg #[sv wG, .int .i64 k, .int .i64 (ix q (0)), .int .i64 0, .int .i64 0, sv ([]), .slice none 0 0], .bool true], [], Out.cell2 rfl Tagg_77 rfl (Cells.blk (.tail _ (.tail _ (.head _))) ⟨rfl, rfl, rfl, rfl, rfl, rfl, rfl, trivial⟩) rfl, (Some'.weak (.nil _)), ?_⟩
  have hcn : cntK k = m2 := hm2.symm
  refine ⟨_, _, _, _, _, rfl, rfl, ?_⟩
  exact LnR.gate (lgYes hk hq han (by rw [hcn]; exact ⟨by simp_all, by omega, by omega⟩)) rfl (by first | exact (if_pos (show 0 < q.length by omega)).symm | exact (if_neg (show ¬ 0 < q.length by omega)).symm) (by first | exact (if_pos (show 1 < q.length by omega)).symm | exact (if_neg (show ¬ 1 < q.length by omega)).symm)
 have p40 := h40; try simp only [bs] at p40
 refine .skip ?_
 refine .seq ?_
 refine .sr ?_
 refine .m ?_
 refine .w (.bool (decide (m2 > 1))) ?_
 refine .done ?_
 refine .cond (b := decide (m2 > 1)) rfl (fun h47 => ?_) (fun h47 => ?_)
 ·have p47 := h47; try simp only [bs] at p47
  exact absurd p47 (by omega) --DONE
 have p47 := h47; try simp only [bs] at p47
 refine .skip ?_
 refine .sr ?_
 refine .u (.agg #[sv wG, .int .i64 k, .int .i64 0, .int .i64 0, .int .i64 0, sv ([]), .slice none 0 0]) (.loadN (cs := [sv wG, .int .i64 k, .int .i64 0, .int .i64 0, .int .i64 0, sv ([]), .slice none 0 0]) Tagg_77 rfl (Cells.blk (.head _) ⟨rfl, rfl, rfl, rfl, rfl, rfl, rfl, trivial⟩)) ?_
 refine .step rfl (.storeAll (us := [sv wG, .int .i64 k, .int .i64 0, .int .i64 0, .int .i64 0, sv ([]), .slice none 0 0]) Tsize_77 rfl rfl rfl (.there _ (.there _ (.here _))) rfl ?_)
 refine .m ?_
 refine .done ?_
 refine .ret ?_
 refine ⟨.tuple #[.agg #[sv wG, .int .i64 k, .int .i64 0, .int .i64 0, .int .i64 0, sv ([]), .slice none 0 0], .bool true], [], Out.cell2 rfl Tagg_77 rfl (Cells.blk (.tail _ (.tail _ (.head _))) ⟨rfl, rfl, rfl, rfl, rfl, rfl, rfl, trivial⟩) rfl, (Some'.weak (.nil _)), ?_⟩
 have hcn : cntK k = m2 := hm2.symm
 refine ⟨_, _, _, _, _, rfl, rfl, ?_⟩
 exact LnR.gate (lgYes hk hq han (by rw [hcn]; exact ⟨by simp_all, by omega, by omega⟩)) rfl (by first | exact (if_pos (show 0 < q.length by omega)).symm | exact (if_neg (show ¬ 0 < q.length by omega)).symm) (by first | exact (if_pos (show 1 < q.length by omega)).symm | exact (if_neg (show ¬ 1 < q.length by omega)).symm)

set_option maxHeartbeats 8000000 in
set_option maxRecDepth 20000 in
theorem l5Parse_spec {l : Bs} {i : Nat} {w : World} (hl : l.length ≤ 16777000) : Calls Tryz.prog 50 #[sv l, .bool (i == 0)] w (Post No w fun v H => ∃ c0 c1 c2 c3 c4 c5 v1 ar b, v = .tuple #[.agg #[sv c0, .int .i64 c1, .int .i64 c2, .int .i64 c3, .int .i64 c4, sv c5, v1], .bool b] ∧ H = [.own v1 3 1 ar.length (ints ar)] ∧ LnR (lnAt i l) b c0 c1 c2 c3 c4 c5 ar) := by
 obtain ⟨W, hW⟩ : ∃ W, splitC 32 l = W := ⟨_, rfl⟩
 have hW1 : 1 ≤ W.length := by rw [← hW]; exact List.length_pos_iff.2 (splitC_ne 32 l)
 have hW16 : W.length ≤ 16777216 := by rw [← hW]; have := splitC_length 32 l; omega
 have hWl : ∀ s ∈ W, s.length ≤ 281474976710656 := fun s hs => by rw [← hW] at hs; have := splitC_le s hs; omega
 refine enter (n := 127) (args := [sv l, .bool ((i == 0))]) Tryz.func50 rfl rfl (St.empty _ _) ?_
 refine .sr ?_
 refine .step rfl (.alloc (zs := [sv ([]), .int .i64 0, .int .i64 0, .int .i64 0, .int .i64 0, sv ([]), .slice none 0 0]) Tzero_77 fun b1 => ?_)
 refine .m ?_
 refine .dsr ?_
 refine .w (sv l) ?_
 refine .step rfl (.c [sv l, .int .u8 32] Tcall_79 (fun w hs => (by have h := l1Split_spec (l := l) (c := 32) (w := w) (by omega); rw [hW] at h; exact h)) ?_)
 rintro wv _ rfl
 show Run _ _ (putF _ _ _ wv) [.own wv 9 1 (W.length) (strs W), .blk b1 77 [sv ([]), .int .i64 0, .int .i64 0, .int .i64 0, .int .i64 0, sv ([]), .slice none 0 0]]
 refine .w wv ?_
 refine .done ?_
 refine .seq ?_
 refine .seq ?_
 refine Run.openOwn (.head _) (by omega) (fun gw cw hvgw hcapgw _ => ?_) (fun _ _ _ => ⟨nofun, nofun, nofun⟩)
 subst hvgw
 refine .region ?_
 iterate 2 refine .m ?_
 refine .u (.pointer (some ⟨gw, 0, none⟩)) (.ix 0 Tsl_40) ?_
 refine .u (sv (stx W 0)) (.load1 Tone_9 rfl (Cells.own0 (.head _) (preS (by omega)))) ?_
 refine .u (.bool ((stx W 0) == wQ)) (.eqS rfl rfl) ?_
 refine .u (.bool (((i == 0)) != ((stx W 0) == wQ))) (.eqBn Tbool_4 rfl rfl) ?_
 refine .done ?_
 refine .cond (b := ((i == 0)) != ((stx W 0) == wQ)) rfl (fun h16 => ?_) (fun h16 => ?_)
 ·have p16 := h16; try simp only [bs] at p16
  refine .sr ?_
  refine .u (.agg #[sv ([]), .int .i64 0, .int .i64 0, .int .i64 0, .int .i64 0, sv ([]), .slice none 0 0]) (.build (cs := [sv ([]), .int .i64 0, .int .i64 0, .int .i64 0, .int .i64 0, sv ([]), .slice none 0 0]) (by kernel_rfl)) ?_
  refine .step rfl (.storeAll (us := [sv ([]), .int .i64 0, .int .i64 0, .int .i64 0, .int .i64 0, sv ([]), .slice none 0 0]) Tsize_77 rfl rfl rfl (.there _ (.here _)) rfl ?_)
  refine .m ?_
  refine .done ?_
  refine .ret ?_
  refine ⟨.tuple #[.agg #[sv ([]), .int .i64 0, .int .i64 0, .int .i64 0, .int .i64 0, sv ([]), .slice none 0 0], .bool false], [.own (.slice none 0 0) 3 1 0 (ints [])], Out.cell2 rfl Tagg_77 rfl (Cells.blk (.tail _ (.head _)) ⟨rfl, rfl, rfl, rfl, rfl, rfl, rfl, trivial⟩) rfl, ((Weak.nilOwn 3 1).trans (Some'.weak (.takeEq (by first | rfl | simp [ints]) (.nil _)))), ?_⟩
  refine ⟨_, _, _, _, _, _, _, [], _, rfl, rfl, ?_⟩
  rw [lnAt_F hW]
  first | exact LnR.no (if_neg p16) | (refine lrF p16 ?_; first | exact lrQ p25 p30 p36 | exact lrQ0 p25 (.inl p30) | exact lrQ0 p25 (.inr p36) | exact lrR p42 p47 p53 p59 | exact lrR0 p42 (.inl p47) | exact lrR0 p42 (.inr (.inl p53)) | exact lrR0 p42 (.inr (.inr p59)) | exact lrD p65 p70 p76 p82 p88 | exact lrD0 p65 (.inl p70) | exact lrD0 p65 (.inr (.inl p76)) | exact lrD0 p65 (.inr (.inr (.inl p82))) | exact lrD0 p65 (.inr (.inr (.inr p88))) | exact lrC p97 p102 p107 | exact lrC0 p97 (.inl (by omega)) | exact lrC0 p97 (.inr p107) | exact lrE p120 | exact lrG _ _ _ _ _ _ hgt p25 p42 p65 p97 p120)
 have p16 := h16; try simp only [bs] at p16
 refine .skip ?_
 refine .seq ?_
 refine .sr ?_
 refine .m ?_
 refine .u (.pointer (some ⟨gw, 0, none⟩)) (.ix 0 Tsl_40) ?_
 refine .u (sv (stx W 0)) (.load1 Tone_9 rfl (Cells.own0 (.head _) (preS (by omega)))) ?_
 refine .done ?_
 refine .block ?_
 refine .sr ?_
 refine .u (.bool ((stx W 0) == wQ)) (.eqS rfl rfl) ?_
 refine .m ?_
 refine .done ?_
 refine .cond (b := (stx W 0) == wQ) rfl (fun h25 => ?_) (fun h25 => ?_)
 ·have p25 := h25; try simp only [bs] at p25
  refine .sr ?_
  refine .m ?_
  refine .u (.int .i64 (((W.length : Nat) : Int))) (.len Tsl_40 rfl) ?_
  refine .w (.bool ((((W.length : Nat) : Int)) == 2)) ?_
  rcases Bool.eq_false_or_eq_true ((((W.length : Nat) : Int)) == 2) with h30 | h30
  ·refine .mb h30 ?_
   have p30 := h30; try simp only [bs] at p30
   refine .m ?_
   refine .u (.pointer (some ⟨gw, 1, none⟩)) (.ix 1 Tsl_40) ?_
   refine .u (sv (stx W 1)) (.load1 Tone_9 rfl (Cells.own0 (.head _) (preS (by omega)))) ?_
   refine .c (.int .i64 (num2 (stx W 1))) [sv (stx W 1)] Tcall_80 (fun w hs => l5Number_spec) ?_
   refine .c (.bool (within (num2 (stx W 1)) 1 5)) [.int .i64 (num2 (stx W 1)), .int .i64 1, .int .i64 5] Tcall_68 (fun w hs => l1In_spec _ _ _ w) ?_
   refine .w (.bool (within (num2 (stx W 1)) 1 5)) ?_
   refine .done ?_
   refine .cond (b := within (num2 (stx W 1)) 1 5) rfl (fun h36 => ?_) (fun h36 => ?_)
   ·have p36 := h36; try simp only [bs] at p36
    refine .sr ?_
    refine .m ?_
    refine .u (.pointer (some ⟨gw, 1, none⟩)) (.ix 1 Tsl_40) ?_
    refine .u (sv (stx W 1)) (.load1 Tone_9 rfl (Cells.own0 (.head _) (preS (by omega)))) ?_
    refine .c (.int .i64 (num2 (stx W 1))) [sv (stx W 1)] Tcall_80 (fun w hs => l5Number_spec) ?_
    refine .u (.agg #[sv wQ, .int .i64 0, .int .i64 0, .int .i64 0, .int .i64 (num2 (stx W 1)), sv ([]), .slice none 0 0]) (.build (cs := [sv wQ, .int .i64 0, .int .i64 0, .int .i64 0, .int .i64 (num2 (stx W 1)), sv ([]), .slice none 0 0]) (by kernel_rfl)) ?_
    refine .step rfl (.storeAll (us := [sv wQ, .int .i64 0, .int .i64 0, .int .i64 0, .int .i64 (num2 (stx W 1)), sv ([]), .slice none 0 0]) Tsize_77 rfl rfl rfl (.there _ (.here _)) rfl ?_)
    refine .m ?_
    refine .done ?_
    refine .ret ?_
    refine ⟨.tuple #[.agg #[sv wQ, .int .i64 0, .int .i64 0, .int .i64 0, .int .i64 (num2 (stx W 1)), sv ([]), .slice none 0 0], .bool true], [.own (.slice none 0 0) 3 1 0 (ints [])], Out.cell2 rfl Tagg_77 rfl (Cells.blk (.tail _ (.head _)) ⟨rfl, rfl, rfl, rfl, rfl, rfl, rfl, trivial⟩) rfl, ((Weak.nilOwn 3 1).trans (Some'.weak (.takeEq (by first | rfl | simp [ints]) (.nil _)))), ?_⟩
    refine ⟨_, _, _, _, _, _, _, [], _, rfl, rfl, ?_⟩
    rw [lnAt_F hW]
    first | exact LnR.no (if_neg p16) | (refine lrF p16 ?_; first | exact lrQ p25 p30 p36 | exact lrQ0 p25 (.inl p30) | exact lrQ0 p25 (.inr p36))
   have p36 := h36; try simp only [bs] at p36
   refine .skip ?_
   refine .blockEnd ?_
   refine .sr ?_
   refine .u (.agg #[sv ([]), .int .i64 0, .int .i64 0, .int .i64 0, .int .i64 0, sv ([]), .slice none 0 0]) (.build (cs := [sv ([]), .int .i64 0, .int .i64 0, .int .i64 0, .int .i64 0, sv ([]), .slice none 0 0]) (by kernel_rfl)) ?_
   refine .step rfl (.storeAll (us := [sv ([]), .int .i64 0, .int .i64 0, .int .i64 0, .int .i64 0, sv ([]), .slice none 0 0]) Tsize_77 rfl rfl rfl (.there _ (.here _)) rfl ?_)
   refine .m ?_
   refine .done ?_
   refine .ret ?_
   refine ⟨.tuple #[.agg #[sv ([]), .int .i64 0, .int .i64 0, .int .i64 0, .int .i64 0, sv ([]), .slice none 0 0], .bool false], [.own (.slice none 0 0) 3 1 0 (ints [])], Out.cell2 rfl Tagg_77 rfl (Cells.blk (.tail _ (.head _)) ⟨rfl, rfl, rfl, rfl, rfl, rfl, rfl, trivial⟩) rfl, ((Weak.nilOwn 3 1).trans (Some'.weak (.takeEq (by first | rfl | simp [ints]) (.nil _)))), ?_⟩
   refine ⟨_, _, _, _, _, _, _, [], _, rfl, rfl, ?_⟩
   rw [lnAt_F hW]
   first | exact LnR.no (if_neg p16) | (refine lrF p16 ?_; first | exact lrQ p25 p30 p36 | exact lrQ0 p25 (.inl p30) | exact lrQ0 p25 (.inr p36))
  refine .mb h30 ?_
  have p30 := h30; try simp only [bs] at p30
  iterate 5 refine .pass rfl ?_
  refine .w (.bool false) ?_
  refine .done ?_
  refine .cond (b := false) rfl (fun h => nomatch h) (fun _ => ?_)
  refine .skip ?_
  refine .blockEnd ?_
  refine .sr ?_
  refine .u (.agg #[sv ([]), .int .i64 0, .int .i64 0, .int .i64 0, .int .i64 0, sv ([]), .slice none 0 0]) (.build (cs := [sv ([]), .int .i64 0, .int .i64 0, .int .i64 0, .int .i64 0, sv ([]), .slice none 0 0]) (by kernel_rfl)) ?_
  refine .step rfl (.storeAll (us := [sv ([]), .int .i64 0, .int .i64 0, .int .i64 0, .int .i64 0, sv ([]), .slice none 0 0]) Tsize_77 rfl rfl rfl (.there _ (.here _)) rfl ?_)
  refine .m ?_
  refine .done ?_
  refine .ret ?_
  refine ⟨.tuple #[.agg #[sv ([]), .int .i64 0, .int .i64 0, .int .i64 0, .int .i64 0, sv ([]), .slice none 0 0], .bool false], [.own (.slice none 0 0) 3 1 0 (ints [])], Out.cell2 rfl Tagg_77 rfl (Cells.blk (.tail _ (.head _)) ⟨rfl, rfl, rfl, rfl, rfl, rfl, rfl, trivial⟩) rfl, ((Weak.nilOwn 3 1).trans (Some'.weak (.takeEq (by first | rfl | simp [ints]) (.nil _)))), ?_⟩
  refine ⟨_, _, _, _, _, _, _, [], _, rfl, rfl, ?_⟩
  rw [lnAt_F hW]
  first | exact LnR.no (if_neg p16) | (refine lrF p16 ?_; exact lrQ0 p25 (.inl p30))
 have p25 := h25; try simp only [bs] at p25
 refine .sr ?_
 refine .u (.bool ((stx W 0) == wR)) (.eqS rfl rfl) ?_
 refine .m ?_
 refine .done ?_
 refine .cond (b := (stx W 0) == wR) rfl (fun h42 => ?_) (fun h42 => ?_)
 ·have p42 := h42; try simp only [bs] at p42
  refine .sr ?_
  refine .m ?_
  refine .u (.int .i64 (((W.length : Nat) : Int))) (.len Tsl_40 rfl) ?_
  refine .w (.bool ((((W.length : Nat) : Int)) == 3)) ?_
  rcases Bool.eq_false_or_eq_true ((((W.length : Nat) : Int)) == 3) with h47 | h47
  ·refine .mb h47 ?_
   have p47 := h47; try simp only [bs] at p47
   refine .m ?_
   refine .u (.pointer (some ⟨gw, 2, none⟩)) (.ix 2 Tsl_40) ?_
   refine .u (sv (stx W 2)) (.load1 Tone_9 rfl (Cells.own0 (.head _) (preS (by omega)))) ?_
   refine .u (.bool ((stx W 2) == wO)) (.eqS rfl rfl) ?_
   refine .w (.bool ((stx W 2) == wO)) ?_
   rcases Bool.eq_false_or_eq_true ((stx W 2) == wO) with h53 | h53
   ·refine .mb h53 ?_
    have p53 := h53; try simp only [bs] at p53
    refine .m ?_
    refine .u (.pointer (some ⟨gw, 1, none⟩)) (.ix 1 Tsl_40) ?_
    refine .u (sv (stx W 1)) (.load1 Tone_9 rfl (Cells.own0 (.head _) (preS (by omega)))) ?_
    refine .c (.int .i64 (num2 (stx W 1))) [sv (stx W 1)] Tcall_80 (fun w hs => l5Number_spec) ?_
    refine .c (.bool (within (num2 (stx W 1)) 2 99)) [.int .i64 (num2 (stx W 1)), .int .i64 2, .int .i64 99] Tcall_68 (fun w hs => l1In_spec _ _ _ w) ?_
    refine .w (.bool (within (num2 (stx W 1)) 2 99)) ?_
    refine .done ?_
    refine .cond (b := within (num2 (stx W 1)) 2 99) rfl (fun h59 => ?_) (fun h59 => ?_)
    ·have p59 := h59; try simp only [bs] at p59
     refine .sr ?_
     refine .m ?_
     refine .u (.pointer (some ⟨gw, 1, none⟩)) (.ix 1 Tsl_40) ?_
     refine .u (sv (stx W 1)) (.load1 Tone_9 rfl (Cells.own0 (.head _) (preS (by omega)))) ?_
     refine .c (.int .i64 (num2 (stx W 1))) [sv (stx W 1)] Tcall_80 (fun w hs => l5Number_spec) ?_
     refine .u (.agg #[sv wR, .int .i64 0, .int .i64 0, .int .i64 0, .int .i64 (num2 (stx W 1)), sv ([]), .slice none 0 0]) (.build (cs := [sv wR, .int .i64 0, .int .i64 0, .int .i64 0, .int .i64 (num2 (stx W 1)), sv ([]), .slice none 0 0]) (by kernel_rfl)) ?_
     refine .step rfl (.storeAll (us := [sv wR, .int .i64 0, .int .i64 0, .int .i64 0, .int .i64 (num2 (stx W 1)), sv ([]), .slice none 0 0]) Tsize_77 rfl rfl rfl (.there _ (.here _)) rfl ?_)
     refine .m ?_
     refine .done ?_
     refine .ret ?_
     refine ⟨.tuple #[.agg #[sv wR, .int .i64 0, .int .i64 0, .int .i64 0, .int .i64 (num2 (stx W 1)), sv ([]), .slice none 0 0], .bool true], [.own (.slice none 0 0) 3 1 0 (ints [])], Out.cell2 rfl Tagg_77 rfl (Cells.blk (.tail _ (.head _)) ⟨rfl, rfl, rfl, rfl, rfl, rfl, rfl, trivial⟩) rfl, ((Weak.nilOwn 3 1).trans (Some'.weak (.takeEq (by first | rfl | simp [ints]) (.nil _)))), ?_⟩
     refine ⟨_, _, _, _, _, _, _, [], _, rfl, rfl, ?_⟩
     rw [lnAt_F hW]
     first | exact LnR.no (if_neg p16) | (refine lrF p16 ?_; first | exact lrR p42 p47 p53 p59 | exact lrR0 p42 (.inl p47) | exact lrR0 p42 (.inr (.inl p53)) | exact lrR0 p42 (.inr (.inr p59)))
    have p59 := h59; try simp only [bs] at p59
    refine .skip ?_
    refine .blockEnd ?_
    refine .sr ?_
    refine .u (.agg #[sv ([]), .int .i64 0, .int .i64 0, .int .i64 0, .int .i64 0, sv ([]), .slice none 0 0]) (.build (cs := [sv ([]), .int .i64 0, .int .i64 0, .int .i64 0, .int .i64 0, sv ([]), .slice none 0 0]) (by kernel_rfl)) ?_
    refine .step rfl (.storeAll (us := [sv ([]), .int .i64 0, .int .i64 0, .int .i64 0, .int .i64 0, sv ([]), .slice none 0 0]) Tsize_77 rfl rfl rfl (.there _ (.here _)) rfl ?_)
    refine .m ?_
    refine .done ?_
    refine .ret ?_
    refine ⟨.tuple #[.agg #[sv ([]), .int .i64 0, .int .i64 0, .int .i64 0, .int .i64 0, sv ([]), .slice none 0 0], .bool false], [.own (.slice none 0 0) 3 1 0 (ints [])], Out.cell2 rfl Tagg_77 rfl (Cells.blk (.tail _ (.head _)) ⟨rfl, rfl, rfl, rfl, rfl, rfl, rfl, trivial⟩) rfl, ((Weak.nilOwn 3 1).trans (Some'.weak (.takeEq (by first | rfl | simp [ints]) (.nil _)))), ?_⟩
    refine ⟨_, _, _, _, _, _, _, [], _, rfl, rfl, ?_⟩
    rw [lnAt_F hW]
    first | exact LnR.no (if_neg p16) | (refine lrF p16 ?_; first | exact lrR p42 p47 p53 p59 | exact lrR0 p42 (.inl p47) | exact lrR0 p42 (.inr (.inl p53)) | exact lrR0 p42 (.inr (.inr p59)))
   refine .mb h53 ?_
   have p53 := h53; try simp only [bs] at p53
   iterate 5 refine .pass rfl ?_
   refine .w (.bool false) ?_
   refine .done ?_
   refine .cond (b := false) rfl (fun h => nomatch h) (fun _ => ?_)
   refine .skip ?_
   refine .blockEnd ?_
   refine .sr ?_
   refine .u (.agg #[sv ([]), .int .i64 0, .int .i64 0, .int .i64 0, .int .i64 0, sv ([]), .slice none 0 0]) (.build (cs := [sv ([]), .int .i64 0, .int .i64 0, .int .i64 0, .int .i64 0, sv ([]), .slice none 0 0]) (by kernel_rfl)) ?_
   refine .step rfl (.storeAll (us := [sv ([]), .int .i64 0, .int .i64 0, .int .i64 0, .int .i64 0, sv ([]), .slice none 0 0]) Tsize_77 rfl rfl rfl (.there _ (.here _)) rfl ?_)
   refine .m ?_
   refine .done ?_
   refine .ret ?_
   refine ⟨.tuple #[.agg #[sv ([]), .int .i64 0, .int .i64 0, .int .i64 0, .int .i64 0, sv ([]), .slice none 0 0], .bool false], [.own (.slice none 0 0) 3 1 0 (ints [])], Out.cell2 rfl Tagg_77 rfl (Cells.blk (.tail _ (.head _)) ⟨rfl, rfl, rfl, rfl, rfl, rfl, rfl, trivial⟩) rfl, ((Weak.nilOwn 3 1).trans (Some'.weak (.takeEq (by first | rfl | simp [ints]) (.nil _)))), ?_⟩
   refine ⟨_, _, _, _, _, _, _, [], _, rfl, rfl, ?_⟩
   rw [lnAt_F hW]
   first | exact LnR.no (if_neg p16) | (refine lrF p16 ?_; first | exact lrR0 p42 (.inl p47) | exact lrR0 p42 (.inr (.inl p53)))
  refine .mb h47 ?_
  have p47 := h47; try simp only [bs] at p47
  iterate 4 refine .pass rfl ?_
  refine .w (.bool false) ?_
  refine .m ?_
  iterate 5 refine .pass rfl ?_
  refine .w (.bool false) ?_
  refine .done ?_
  refine .cond (b := false) rfl (fun h => nomatch h) (fun _ => ?_)
  refine .skip ?_
  refine .blockEnd ?_
  refine .sr ?_
  refine .u (.agg #[sv ([]), .int .i64 0, .int .i64 0, .int .i64 0, .int .i64 0, sv ([]), .slice none 0 0]) (.build (cs := [sv ([]), .int .i64 0, .int .i64 0, .int .i64 0, .int .i64 0, sv ([]), .slice none 0 0]) (by kernel_rfl)) ?_
  refine .step rfl (.storeAll (us := [sv ([]), .int .i64 0, .int .i64 0, .int .i64 0, .int .i64 0, sv ([]), .slice none 0 0]) Tsize_77 rfl rfl rfl (.there _ (.here _)) rfl ?_)
  refine .m ?_
  refine .done ?_
  refine .ret ?_
  refine ⟨.tuple #[.agg #[sv ([]), .int .i64 0, .int .i64 0, .int .i64 0, .int .i64 0, sv ([]), .slice none 0 0], .bool false], [.own (.slice none 0 0) 3 1 0 (ints [])], Out.cell2 rfl Tagg_77 rfl (Cells.blk (.tail _ (.head _)) ⟨rfl, rfl, rfl, rfl, rfl, rfl, rfl, trivial⟩) rfl, ((Weak.nilOwn 3 1).trans (Some'.weak (.takeEq (by first | rfl | simp [ints]) (.nil _)))), ?_⟩
  refine ⟨_, _, _, _, _, _, _, [], _, rfl, rfl, ?_⟩
  rw [lnAt_F hW]
  first | exact LnR.no (if_neg p16) | (refine lrF p16 ?_; exact lrR0 p42 (.inl p47))
 have p42 := h42; try simp only [bs] at p42
 refine .sr ?_
 refine .u (.bool ((stx W 0) == wD)) (.eqS rfl rfl) ?_
 refine .m ?_
 refine .done ?_
 refine .cond (b := (stx W 0) == wD) rfl (fun h65 => ?_) (fun h65 => ?_)
 ·have p65 := h65; try simp only [bs] at p65
  refine .sr ?_
  refine .m ?_
  refine .u (.int .i64 (((W.length : Nat) : Int))) (.len Tsl_40 rfl) ?_
  refine .w (.bool ((((W.length : Nat) : Int)) == 4)) ?_
  rcases Bool.eq_false_or_eq_true ((((W.length : Nat) : Int)) == 4) with h70 | h70
  ·refine .mb h70 ?_
   have p70 := h70; try simp only [bs] at p70
   refine .m ?_
   refine .u (.pointer (some ⟨gw, 3, none⟩)) (.ix 3 Tsl_40) ?_
   refine .u (sv (stx W 3)) (.load1 Tone_9 rfl (Cells.own0 (.head _) (preS (by omega)))) ?_
   refine .u (.bool ((stx W 3) == wO)) (.eqS rfl rfl) ?_
   refine .w (.bool ((stx W 3) == wO)) ?_
   rcases Bool.eq_false_or_eq_true ((stx W 3) == wO) with h76 | h76
   ·refine .mb h76 ?_
    have p76 := h76; try simp only [bs] at p76
    refine .m ?_
    refine .u (.pointer (some ⟨gw, 1, none⟩)) (.ix 1 Tsl_40) ?_
    refine .u (sv (stx W 1)) (.load1 Tone_9 rfl (Cells.own0 (.head _) (preS (by omega)))) ?_
    refine .c (.bool (nameB (stx W 1))) [sv (stx W 1)] Tcall_81 (fun w hs => l5Name_spec (by have := stx_len hWl 1; omega) w) ?_
    refine .w (.bool (nameB (stx W 1))) ?_
    rcases Bool.eq_false_or_eq_true (nameB (stx W 1)) with h82 | h82
    ·refine .mb h82 ?_
     have p82 := h82; try simp only [bs] at p82
     refine .m ?_
     refine .u (.pointer (some ⟨gw, 2, none⟩)) (.ix 2 Tsl_40) ?_
     refine .u (sv (stx W 2)) (.load1 Tone_9 rfl (Cells.own0 (.head _) (preS (by omega)))) ?_
     refine .c (.int .i64 (num2 (stx W 2))) [sv (stx W 2)] Tcall_80 (fun w hs => l5Number_spec) ?_
     refine .c (.bool (within (num2 (stx W 2)) 1 5)) [.int .i64 (num2 (stx W 2)), .int .i64 1, .int .i64 5] Tcall_68 (fun w hs => l1In_spec _ _ _ w) ?_
     refine .w (.bool (within (num2 (stx W 2)) 1 5)) ?_
     refine .done ?_
     refine .cond (b := within (num2 (stx W 2)) 1 5) rfl (fun h88 => ?_) (fun h88 => ?_)
     ·have p88 := h88; try simp only [bs] at p88
      refine .seq ?_
      refine .heldB (base := [.own (.slice (some ⟨gw, 0, none⟩) (W.length) cw) 9 1 (W.length) (strs W)]) (by kernel_rfl) ?_
      refine DW.m 0 rfl (Some'.weak (.take (.nil _))) ?_
      refine DW.t 1 rfl (Some'.weak (.take (.nil _))) (.pointer (some ⟨gw, 1, none⟩)) (.ix 1 Tsl_40) ?_
      refine DW.t 2 rfl (Some'.weak (.take (.nil _))) (sv (stx W 1)) (.load1 Tone_9 rfl (Cells.own0 (.head _) (preS (by omega)))) ?_
      refine DW.m 3 rfl (Some'.weak (.take (.nil _))) ?_
      refine DW.t 4 rfl (Some'.weak (.take (.nil _))) (.pointer (some ⟨gw, 2, none⟩)) (.ix 2 Tsl_40) ?_
      refine DW.t 5 rfl (Some'.weak (.take (.nil _))) (sv (stx W 2)) (.load1 Tone_9 rfl (Cells.own0 (.head _) (preS (by omega)))) ?_
      refine DW.step (i := 6) (by kernel_rfl) rfl rfl (OpStep.q (v := .int .i64 (num2 (stx W 2))) (OpQ.call (vs := [sv (stx W 2)]) (caps := []) Tcall_80 rfl rfl (fun w hs => l5Number_spec)) ?_)
      refine ⟨(Some'.weak (.take (.nil _))), ?_⟩
      refine DW.t 7 rfl (Some'.weak (.take (.nil _))) (.agg #[sv wD, .int .i64 0, .int .i64 0, .int .i64 0, .int .i64 (num2 (stx W 2)), sv (stx W 1), .slice none 0 0]) (.build (cs := [sv wD, .int .i64 0, .int .i64 0, .int .i64 0, .int .i64 (num2 (stx W 2)), sv (stx W 1), .slice none 0 0]) (by kernel_rfl)) ?_
      refine DW.step (i := 8) (by kernel_rfl) rfl rfl (OpStep.storeAll (us := [sv wD, .int .i64 0, .int .i64 0, .int .i64 0, .int .i64 (num2 (stx W 2)), sv (stx W 1), .slice none 0 0]) Tsize_77 rfl rfl rfl (.there _ (.here _)) rfl ?_)
      refine ⟨(Some'.weak (.take (.nil _))), ?_⟩
      refine DW.m 9 rfl (Some'.weak (.take (.nil _))) ?_
      refine DW.done (by kernel_rfl) ?_
      refine .ret ?_
      refine ⟨.tuple #[.agg #[sv wD, .int .i64 0, .int .i64 0, .int .i64 0, .int .i64 (num2 (stx W 2)), sv (stx W 1), .slice none 0 0], .bool true], [.own (.slice none 0 0) 3 1 0 (ints [])], Out.cell2 rfl Tagg_77 rfl (Cells.blk (.tail _ (.head _)) ⟨rfl, rfl, rfl, rfl, rfl, rfl, rfl, trivial⟩) rfl, ((Weak.nilOwn 3 1).trans (Some'.weak (.takeEq (by first | rfl | simp [ints]) (.nil _)))), ?_⟩
      refine ⟨_, _, _, _, _, _, _, [], _, rfl, rfl, ?_⟩
      rw [lnAt_F hW]
      first | exact LnR.no (if_neg p16) | (refine lrF p16 ?_; first | exact lrD p65 p70 p76 p82 p88 | exact lrD0 p65 (.inl p70) | exact lrD0 p65 (.inr (.inl p76)) | exact lrD0 p65 (.inr (.inr (.inl p82))) | exact lrD0 p65 (.inr (.inr (.inr p88))))
     have p88 := h88; try simp only [bs] at p88
     refine .skip ?_
     refine .blockEnd ?_
     refine .sr ?_
     refine .u (.agg #[sv ([]), .int .i64 0, .int .i64 0, .int .i64 0, .int .i64 0, sv ([]), .slice none 0 0]) (.build (cs := [sv ([]), .int .i64 0, .int .i64 0, .int .i64 0, .int .i64 0, sv ([]), .slice none 0 0]) (by kernel_rfl)) ?_
     refine .step rfl (.storeAll (us := [sv ([]), .int .i64 0, .int .i64 0, .int .i64 0, .int .i64 0, sv ([]), .slice none 0 0]) Tsize_77 rfl rfl rfl (.there _ (.here _)) rfl ?_)
     refine .m ?_
     refine .done ?_
     refine .ret ?_
     refine ⟨.tuple #[.agg #[sv ([]), .int .i64 0, .int .i64 0, .int .i64 0, .int .i64 0, sv ([]), .slice none 0 0], .bool false], [.own (.slice none 0 0) 3 1 0 (ints [])], Out.cell2 rfl Tagg_77 rfl (Cells.blk (.tail _ (.head _)) ⟨rfl, rfl, rfl, rfl, rfl, rfl, rfl, trivial⟩) rfl, ((Weak.nilOwn 3 1).trans (Some'.weak (.takeEq (by first | rfl | simp [ints]) (.nil _)))), ?_⟩
     refine ⟨_, _, _, _, _, _, _, [], _, rfl, rfl, ?_⟩
     rw [lnAt_F hW]
     first | exact LnR.no (if_neg p16) | (refine lrF p16 ?_; first | exact lrD p65 p70 p76 p82 p88 | exact lrD0 p65 (.inl p70) | exact lrD0 p65 (.inr (.inl p76)) | exact lrD0 p65 (.inr (.inr (.inl p82))) | exact lrD0 p65 (.inr (.inr (.inr p88))))
    refine .mb h82 ?_
    have p82 := h82; try simp only [bs] at p82
    iterate 5 refine .pass rfl ?_
    refine .w (.bool false) ?_
    refine .done ?_
    refine .cond (b := false) rfl (fun h => nomatch h) (fun _ => ?_)
    refine .skip ?_
    refine .blockEnd ?_
    refine .sr ?_
    refine .u (.agg #[sv ([]), .int .i64 0, .int .i64 0, .int .i64 0, .int .i64 0, sv ([]), .slice none 0 0]) (.build (cs := [sv ([]), .int .i64 0, .int .i64 0, .int .i64 0, .int .i64 0, sv ([]), .slice none 0 0]) (by kernel_rfl)) ?_
    refine .step rfl (.storeAll (us := [sv ([]), .int .i64 0, .int .i64 0, .int .i64 0, .int .i64 0, sv ([]), .slice none 0 0]) Tsize_77 rfl rfl rfl (.there _ (.here _)) rfl ?_)
    refine .m ?_
    refine .done ?_
    refine .ret ?_
    refine ⟨.tuple #[.agg #[sv ([]), .int .i64 0, .int .i64 0, .int .i64 0, .int .i64 0, sv ([]), .slice none 0 0], .bool false], [.own (.slice none 0 0) 3 1 0 (ints [])], Out.cell2 rfl Tagg_77 rfl (Cells.blk (.tail _ (.head _)) ⟨rfl, rfl, rfl, rfl, rfl, rfl, rfl, trivial⟩) rfl, ((Weak.nilOwn 3 1).trans (Some'.weak (.takeEq (by first | rfl | simp [ints]) (.nil _)))), ?_⟩
    refine ⟨_, _, _, _, _, _, _, [], _, rfl, rfl, ?_⟩
    rw [lnAt_F hW]
    first | exact LnR.no (if_neg p16) | (refine lrF p16 ?_; first | exact lrD0 p65 (.inl p70) | exact lrD0 p65 (.inr (.inl p76)) | exact lrD0 p65 (.inr (.inr (.inl p82))))
   refine .mb h76 ?_
   have p76 := h76; try simp only [bs] at p76
   iterate 4 refine .pass rfl ?_
   refine .w (.bool false) ?_
   refine .m ?_
   iterate 5 refine .pass rfl ?_
   refine .w (.bool false) ?_
   refine .done ?_
   refine .cond (b := false) rfl (fun h => nomatch h) (fun _ => ?_)
   refine .skip ?_
   refine .blockEnd ?_
   refine .sr ?_
   refine .u (.agg #[sv ([]), .int .i64 0, .int .i64 0, .int .i64 0, .int .i64 0, sv ([]), .slice none 0 0]) (.build (cs := [sv ([]), .int .i64 0, .int .i64 0, .int .i64 0, .int .i64 0, sv ([]), .slice none 0 0]) (by kernel_rfl)) ?_
   refine .step rfl (.storeAll (us := [sv ([]), .int .i64 0, .int .i64 0, .int .i64 0, .int .i64 0, sv ([]), .slice none 0 0]) Tsize_77 rfl rfl rfl (.there _ (.here _)) rfl ?_)
   refine .m ?_
   refine .done ?_
   refine .ret ?_
   refine ⟨.tuple #[.agg #[sv ([]), .int .i64 0, .int .i64 0, .int .i64 0, .int .i64 0, sv ([]), .slice none 0 0], .bool false], [.own (.slice none 0 0) 3 1 0 (ints [])], Out.cell2 rfl Tagg_77 rfl (Cells.blk (.tail _ (.head _)) ⟨rfl, rfl, rfl, rfl, rfl, rfl, rfl, trivial⟩) rfl, ((Weak.nilOwn 3 1).trans (Some'.weak (.takeEq (by first | rfl | simp [ints]) (.nil _)))), ?_⟩
   refine ⟨_, _, _, _, _, _, _, [], _, rfl, rfl, ?_⟩
   rw [lnAt_F hW]
   first | exact LnR.no (if_neg p16) | (refine lrF p16 ?_; first | exact lrD0 p65 (.inl p70) | exact lrD0 p65 (.inr (.inl p76)))
  refine .mb h70 ?_
  have p70 := h70; try simp only [bs] at p70
  iterate 4 refine .pass rfl ?_
  refine .w (.bool false) ?_
  refine .m ?_
  iterate 4 refine .pass rfl ?_
  refine .w (.bool false) ?_
  refine .m ?_
  iterate 5 refine .pass rfl ?_
  refine .w (.bool false) ?_
  refine .done ?_
  refine .cond (b := false) rfl (fun h => nomatch h) (fun _ => ?_)
  refine .skip ?_
  refine .blockEnd ?_
  refine .sr ?_
  refine .u (.agg #[sv ([]), .int .i64 0, .int .i64 0, .int .i64 0, .int .i64 0, sv ([]), .slice none 0 0]) (.build (cs := [sv ([]), .int .i64 0, .int .i64 0, .int .i64 0, .int .i64 0, sv ([]), .slice none 0 0]) (by kernel_rfl)) ?_
  refine .step rfl (.storeAll (us := [sv ([]), .int .i64 0, .int .i64 0, .int .i64 0, .int .i64 0, sv ([]), .slice none 0 0]) Tsize_77 rfl rfl rfl (.there _ (.here _)) rfl ?_)
  refine .m ?_
  refine .done ?_
  refine .ret ?_
  refine ⟨.tuple #[.agg #[sv ([]), .int .i64 0, .int .i64 0, .int .i64 0, .int .i64 0, sv ([]), .slice none 0 0], .bool false], [.own (.slice none 0 0) 3 1 0 (ints [])], Out.cell2 rfl Tagg_77 rfl (Cells.blk (.tail _ (.head _)) ⟨rfl, rfl, rfl, rfl, rfl, rfl, rfl, trivial⟩) rfl, ((Weak.nilOwn 3 1).trans (Some'.weak (.takeEq (by first | rfl | simp [ints]) (.nil _)))), ?_⟩
  refine ⟨_, _, _, _, _, _, _, [], _, rfl, rfl, ?_⟩
  rw [lnAt_F hW]
  first | exact LnR.no (if_neg p16) | (refine lrF p16 ?_; exact lrD0 p65 (.inl p70))
 have p65 := h65; try simp only [bs] at p65
 refine .sr ?_
 refine .u (.bool ((stx W 0) == wC)) (.eqS rfl rfl) ?_
 refine .m ?_
 refine .done ?_
 refine .cond (b := (stx W 0) == wC) rfl (fun h97 => ?_) (fun h97 => ?_)
 ·have p97 := h97; try simp only [bs] at p97
  refine .sr ?_
  refine .m ?_
  refine .u (.int .i64 (((W.length : Nat) : Int))) (.len Tsl_40 rfl) ?_
  refine .w (.bool (decide ((((W.length : Nat) : Int)) ≥ 3))) ?_
  rcases Bool.eq_false_or_eq_true (decide ((((W.length : Nat) : Int)) ≥ 3)) with h102 | h102
  ·refine .mb h102 ?_
   have p102 := h102; try simp only [bs] at p102
   refine .m ?_
   refine .u (.pointer (some ⟨gw, 1, none⟩)) (.ix 1 Tsl_40) ?_
   refine .u (sv (stx W 1)) (.load1 Tone_9 rfl (Cells.own0 (.head _) (preS (by omega)))) ?_
   refine .c (.bool (nameB (stx W 1))) [sv (stx W 1)] Tcall_81 (fun w hs => l5Name_spec (by have := stx_len hWl 1; omega) w) ?_
   refine .w (.bool (nameB (stx W 1))) ?_
   refine .done ?_
   refine .cond (b := nameB (stx W 1)) rfl (fun h107 => ?_) (fun h107 => ?_)
   ·have p107 := h107; try simp only [bs] at p107
    refine .sr ?_
    refine .m ?_
    refine .u ((sliced (some ⟨gw, 0, none⟩) 2 (W.length) cw 1)) (.sliceL (l := 2) Tsl_40 rfl rfl (by decide) (by omega)) ?_
    refine .step rfl (.c [(sliced (some ⟨gw, 0, none⟩) 2 (W.length) cw 1)] Tcall_82 (fun w hs => l5Args_spec ((hs.slOwn (.head _)).drop1 (by omega)) (fun s hs => hWl s (List.mem_of_mem_drop hs)) (by omega)) ?_)
    rintro _ _ ⟨v1, rfl, rfl⟩
    show Run _ _ (putF _ _ _ (.tuple #[v1, .bool (allNum (W.drop 2))])) [.own v1 3 1 ((nums (W.drop 2)).length) (ints (nums (W.drop 2))), .own (.slice (some ⟨gw, 0, none⟩) (W.length) cw) 9 1 (W.length) (strs W), .blk b1 77 [sv ([]), .int .i64 0, .int .i64 0, .int .i64 0, .int .i64 0, sv ([]), .slice none 0 0]]
    refine .w (.tuple #[v1, .bool (allNum (W.drop 2))]) ?_
    refine .w v1 ?_
    refine .w (.bool (allNum (W.drop 2))) ?_
    refine .w v1 ?_
    refine .m ?_
    refine .dsr ?_
    refine .m ?_
    refine .u (.pointer (some ⟨gw, 1, none⟩)) (.ix 1 Tsl_40) ?_
    refine .u (sv (stx W 1)) (.load1 Tone_9 rfl (Cells.own0 (.tail _ (.head _)) (preS (by omega)))) ?_
    refine .w v1 ?_
    refine Run.formOwn (.head _) (fun A_v11 c_v11 hv hcapc_v11 hmaxc_v11 => ?_) (fun _ _ _ => ⟨nofun, nofun, nofun⟩)
    subst hv
    refine .u (.agg #[sv wC, .int .i64 0, .int .i64 0, .int .i64 0, .int .i64 0, sv (stx W 1), .slice A_v11 ((nums (W.drop 2)).length) c_v11]) (.build (cs := [sv wC, .int .i64 0, .int .i64 0, .int .i64 0, .int .i64 0, sv (stx W 1), .slice A_v11 ((nums (W.drop 2)).length) c_v11]) (by kernel_rfl)) ?_
    refine .m ?_
    refine .step rfl (.storeAll (us := [sv wC, .int .i64 0, .int .i64 0, .int .i64 0, .int .i64 0, sv (stx W 1), .slice A_v11 ((nums (W.drop 2)).length) c_v11]) Tsize_77 rfl rfl rfl (.there _ (.there _ (.here _))) rfl ?_)
    refine .m ?_
    refine .done ?_
    refine .ret ?_
    refine ⟨.tuple #[.agg #[sv wC, .int .i64 0, .int .i64 0, .int .i64 0, .int .i64 0, sv (stx W 1), .slice A_v11 ((nums (W.drop 2)).length) c_v11], .bool (allNum (W.drop 2))], [.own (.slice A_v11 ((nums (W.drop 2)).length) c_v11) 3 1 ((nums (W.drop 2)).length) (ints (nums (W.drop 2)))], Out.cell2 rfl Tagg_77 rfl (Cells.blk (.tail _ (.tail _ (.head _))) ⟨rfl, rfl, rfl, rfl, rfl, rfl, rfl, trivial⟩) rfl, (Some'.weak (.take (.nil _))), ?_⟩
    refine ⟨_, _, _, _, _, _, _, nums (W.drop 2), _, rfl, rfl, ?_⟩
    rw [lnAt_F hW]
    first | exact LnR.no (if_neg p16) | (refine lrF p16 ?_; first | exact lrC p97 p102 p107 | exact lrC0 p97 (.inl (by omega)) | exact lrC0 p97 (.inr p107))
   have p107 := h107; try simp only [bs] at p107
   refine .skip ?_
   refine .blockEnd ?_
   refine .sr ?_
   refine .u (.agg #[sv ([]), .int .i64 0, .int .i64 0, .int .i64 0, .int .i64 0, sv ([]), .slice none 0 0]) (.build (cs := [sv ([]), .int .i64 0, .int .i64 0, .int .i64 0, .int .i64 0, sv ([]), .slice none 0 0]) (by kernel_rfl)) ?_
   refine .step rfl (.storeAll (us := [sv ([]), .int .i64 0, .int .i64 0, .int .i64 0, .int .i64 0, sv ([]), .slice none 0 0]) Tsize_77 rfl rfl rfl (.there _ (.here _)) rfl ?_)
   refine .m ?_
   refine .done ?_
   refine .ret ?_
   refine ⟨.tuple #[.agg #[sv ([]), .int .i64 0, .int .i64 0, .int .i64 0, .int .i64 0, sv ([]), .slice none 0 0], .bool false], [.own (.slice none 0 0) 3 1 0 (ints [])], Out.cell2 rfl Tagg_77 rfl (Cells.blk (.tail _ (.head _)) ⟨rfl, rfl, rfl, rfl, rfl, rfl, rfl, trivial⟩) rfl, ((Weak.nilOwn 3 1).trans (Some'.weak (.takeEq (by first | rfl | simp [ints]) (.nil _)))), ?_⟩
   refine ⟨_, _, _, _, _, _, _, [], _, rfl, rfl, ?_⟩
   rw [lnAt_F hW]
   first | exact LnR.no (if_neg p16) | (refine lrF p16 ?_; first | exact lrC p97 p102 p107 | exact lrC0 p97 (.inl (by omega)) | exact lrC0 p97 (.inr p107))
  refine .mb h102 ?_
  have p102 := h102; try simp only [bs] at p102
  iterate 4 refine .pass rfl ?_
  refine .w (.bool false) ?_
  refine .done ?_
  refine .cond (b := false) rfl (fun h => nomatch h) (fun _ => ?_)
  refine .skip ?_
  refine .blockEnd ?_
  refine .sr ?_
  refine .u (.agg #[sv ([]), .int .i64 0, .int .i64 0, .int .i64 0, .int .i64 0, sv ([]), .slice none 0 0]) (.build (cs := [sv ([]), .int .i64 0, .int .i64 0, .int .i64 0, .int .i64 0, sv ([]), .slice none 0 0]) (by kernel_rfl)) ?_
  refine .step rfl (.storeAll (us := [sv ([]), .int .i64 0, .int .i64 0, .int .i64 0, .int .i64 0, sv ([]), .slice none 0 0]) Tsize_77 rfl rfl rfl (.there _ (.here _)) rfl ?_)
  refine .m ?_
  refine .done ?_
  refine .ret ?_
  refine ⟨.tuple #[.agg #[sv ([]), .int .i64 0, .int .i64 0, .int .i64 0, .int .i64 0, sv ([]), .slice none 0 0], .bool false], [.own (.slice none 0 0) 3 1 0 (ints [])], Out.cell2 rfl Tagg_77 rfl (Cells.blk (.tail _ (.head _)) ⟨rfl, rfl, rfl, rfl, rfl, rfl, rfl, trivial⟩) rfl, ((Weak.nilOwn 3 1).trans (Some'.weak (.takeEq (by first | rfl | simp [ints]) (.nil _)))), ?_⟩
  refine ⟨_, _, _, _, _, _, _, [], _, rfl, rfl, ?_⟩
  rw [lnAt_F hW]
  first | exact LnR.no (if_neg p16) | (refine lrF p16 ?_; exact lrC0 p97 (.inl (by omega)))
 have p97 := h97; try simp only [bs] at p97
 refine .sr ?_
 refine .u (.bool ((stx W 0) == wE)) (.eqS rfl rfl) ?_
 refine .m ?_
 refine .done ?_
 refine .cond (b := (stx W 0) == wE) rfl (fun h120 => ?_) (fun h120 => ?_)
 ·have p120 := h120; try simp only [bs] at p120
  refine .sr ?_
  refine .u (.agg #[sv wE, .int .i64 0, .int .i64 0, .int .i64 0, .int .i64 0, sv ([]), .slice none 0 0]) (.build (cs := [sv wE, .int .i64 0, .int .i64 0, .int .i64 0, .int .i64 0, sv ([]), .slice none 0 0]) (by kernel_rfl)) ?_
  refine .m ?_
  refine .u (.int .i64 (((W.length : Nat) : Int))) (.len Tsl_40 rfl) ?_
  refine .w (.bool ((((W.length : Nat) : Int)) == 1)) ?_
  refine .step rfl (.storeAll (us := [sv wE, .int .i64 0, .int .i64 0, .int .i64 0, .int .i64 0, sv ([]), .slice none 0 0]) Tsize_77 rfl rfl rfl (.there _ (.here _)) rfl ?_)
  refine .m ?_
  refine .done ?_
  refine .ret ?_
  refine ⟨.tuple #[.agg #[sv wE, .int .i64 0, .int .i64 0, .int .i64 0, .int .i64 0, sv ([]), .slice none 0 0], .bool ((((W.length : Nat) : Int)) == 1)], [.own (.slice none 0 0) 3 1 0 (ints [])], Out.cell2 rfl Tagg_77 rfl (Cells.blk (.tail _ (.head _)) ⟨rfl, rfl, rfl, rfl, rfl, rfl, rfl, trivial⟩) rfl, ((Weak.nilOwn 3 1).trans (Some'.weak (.takeEq (by first | rfl | simp [ints]) (.nil _)))), ?_⟩
  refine ⟨_, _, _, _, _, _, _, [], _, rfl, rfl, ?_⟩
  rw [lnAt_F hW]
  first | exact LnR.no (if_neg p16) | (refine lrF p16 ?_; first | exact lrC0 p97 (.inl (by omega)) | exact lrE p120 | exact lrG _ _ _ _ _ _ hgt p25 p42 p65 p97 p120)
 have p120 := h120; try simp only [bs] at p120
 refine .sr ?_
 refine .m ?_
 refine .step rfl (.c [.slice (some ⟨gw, 0, none⟩) (W.length) cw] Tcall_83 (fun w hs => l5Gate_spec (hs.slOwn (.head _)) hW1 hWl hW16) ?_)
 rintro _ _ ⟨c0, c1, c2, c3, bb, rfl, rfl, hgt⟩
 show Run _ _ (putF _ _ _ (.tuple #[.agg #[sv c0, .int .i64 c1, .int .i64 c2, .int .i64 c3, .int .i64 0, sv ([]), .slice none 0 0], .bool bb])) [.own (.slice (some ⟨gw, 0, none⟩) (W.length) cw) 9 1 (W.length) (strs W), .blk b1 77 [sv ([]), .int .i64 0, .int .i64 0, .int .i64 0, .int .i64 0, sv ([]), .slice none 0 0]]
 refine .w (.agg #[sv c0, .int .i64 c1, .int .i64 c2, .int .i64 c3, .int .i64 0, sv ([]), .slice none 0 0]) ?_
 refine .w (.bool bb) ?_
 refine .step rfl (.storeAll (us := [sv c0, .int .i64 c1, .int .i64 c2, .int .i64 c3, .int .i64 0, sv ([]), .slice none 0 0]) Tsize_77 rfl rfl rfl (.there _ (.here _)) rfl ?_)
 refine .m ?_
 refine .done ?_
 refine .ret ?_
 refine ⟨.tuple #[.agg #[sv c0, .int .i64 c1, .int .i64 c2, .int .i64 c3, .int .i64 0, sv ([]), .slice none 0 0], .bool bb], [.own (.slice none 0 0) 3 1 0 (ints [])], Out.cell2 rfl Tagg_77 rfl (Cells.blk (.tail _ (.head _)) ⟨rfl, rfl, rfl, rfl, rfl, rfl, rfl, trivial⟩) rfl, ((Weak.nilOwn 3 1).trans (Some'.weak (.takeEq (by first | rfl | simp [ints]) (.nil _)))), ?_⟩
 refine ⟨_, _, _, _, _, _, _, [], _, rfl, rfl, ?_⟩
 rw [lnAt_F hW]
 first | exact LnR.no (if_neg p16) | (refine lrF p16 ?_; first | exact lrC0 p97 (.inl (by omega)) | exact lrE p120 | exact lrG _ _ _ _ _ _ hgt p25 p42 p65 p97 p120)

end Go.Proofs.YtgpkpopbajkklaaGreatDoor
/- Walks: the reference looks at the blocks of a circuit text. -/
set_option linter.unusedSimpArgs false
set_option linter.unusedVariables false
namespace Go.Proofs.YtgpkpopbajkklaaGreatDoor
open Go Go.RowKit
namespace TxpT
theorem Tagg_77 : aggOf Tryz.prog 77 = some 7 := by kernel_rfl
theorem Tfo_54_0 : fieldOff Tryz.prog 54 0 = some 0 := by kernel_rfl
theorem Tfo_77_0 : fieldOff Tryz.prog 77 0 = some 0 := by kernel_rfl
theorem Tone_3 : oneOf Tryz.prog 3 = true := by kernel_rfl
theorem Tone_51 : oneOf Tryz.prog 51 = true := by kernel_rfl
theorem Tone_9 : oneOf Tryz.prog 9 = true := by kernel_rfl
theorem Tsize_77 : (Tryz.prog.info? 77).map (·.size) = some 7 := by kernel_rfl
theorem Tsl_51 : sliceOf Tryz.prog 51 = some (77, 7, 88, [sv ([]), .int .i64 0, .int .i64 0, .int .i64 0, .int .i64 0, sv ([]), .slice none 0 0]) := by kernel_rfl
theorem Tsl_75 : sliceOf Tryz.prog 75 = some (3, 1, 8, [.int .i64 0]) := by kernel_rfl
theorem Tzero_77 : zeroOf Tryz.prog 77 = some [sv ([]), .int .i64 0, .int .i64 0, .int .i64 0, .int .i64 0, sv ([]), .slice none 0 0] := by kernel_rfl
end TxpT
open TxpT
def rle (p : LV) : List Value := [sv p.1.word, .int .i64 p.1.g3.1, .int .i64 p.1.g3.2.1, .int .i64 p.1.g3.2.2, .int .i64 p.1.num, sv p.1.nm, p.2]
/-- Lines as the reference's cells. -/
def rls (L : List LV) : List Value := L.flatMap rle
def rgr (L : List LV) : List (Value × Nat × List Value) := L.map fun p => (p.2, p.1.ar.length, ints p.1.ar)
theorem rle_len (p : LV) : (rle p).length = 7 := rfl
@[simp] theorem rls_length (L : List LV) : (rls L).length = L.length * 7 := flat_len rle_len L
theorem rls_preF {L : List LV} {k : Nat} {x : Li} {v : Value} (hk : k < L.length) (hx : (tx L k).1 = x) (hv : (tx L k).2 = v) : Pre (rls L) (k * 7) [sv x.word, .int .i64 x.g3.1, .int .i64 x.g3.2.1, .int .i64 x.g3.2.2, .int .i64 x.num, sv x.nm, v] := by
  subst hx; subst hv; exact flat_pre rle_len (.cl, undef) hk 7 0 (by decide)
theorem rls_pre {L : List LV} {k : Nat} (hk : k < L.length) (c j : Nat) (h : j + c ≤ 7) : Pre (rls L) (k * 7 + j) (((rle (tx L k)).drop j).take c) := flat_pre rle_len _ hk c j h
theorem rls_word {L : List LV} {k : Nat} {x : Li} (hk : k < L.length) (hx : (tx L k).1 = x) : Pre (rls L) (k * 7) [sv x.word] := by subst hx; exact rls_pre hk 1 0 (by decide)
theorem rls_num {L : List LV} {k : Nat} {x : Li} (hk : k < L.length) (hx : (tx L k).1 = x) : Pre (rls L) (k * 7 + 4) [.int .i64 x.num] := by subst hx; exact rls_pre hk 1 4 (by decide)
def RQ (w : World) (L : List LV) : Prop := ∀ k, k < L.length → Sl w (tx L k).2 1 (tx L k).1.ar.length (ints (tx L k).1.ar)
theorem RQ.go {w0 w : World} {H : List Res} {L : List LV} (h : RQ w0 L) (hs : St No w0 w H) : RQ w L := fun k hk => hs.sl (h k hk)
theorem St.rq {M : Nat → Prop} {w0 w : World} {H : List Res} {e : TypeId} {L : List LV} (hs : St M w0 w H) (hm : Res.grp e 1 (rgr L) ∈ H) : RQ w L :=
  fun k hk => hs.slGrpG hm (p := ((tx L k).2, (tx L k).1.ar.length, ints (tx L k).1.ar)) (List.mem_map.2 ⟨_, tx_mem hk, rfl⟩)
theorem k1_of {X : List Li} {k : Nat} {x : Li} {w : Bs} (hq0 : (liAt X 0).word = wQ) (hx : liAt X k = x) (hw : x.word = w) (hne : w ≠ wQ) : 1 ≤ k := by
  rcases Nat.eq_zero_or_pos k with h | h
  · subst h; rw [hx, hw] at hq0; exact absurd hq0 hne
  · exact h
theorem up_dropLast (os : List Int) : (os.dropLast).map (· + 1) = (os.map (· + 1)).dropLast := by simp [List.dropLast_eq_take, List.map_take]
theorem up_last {os : List Int} (h : 0 < os.length) : ((os.map (· + 1)).getLast?).getD 0 = ix os (os.length - 1) + 1 := by
  rw [getLast_ix (by simpa using h)]
  simp [ix, List.getD, List.getElem?_eq_getElem (show os.length - 1 < os.length by omega)]

def Rg (os : List Int) : Prop := ∀ v ∈ os, 0 ≤ v ∧ v ≤ 16777216
theorem Rg.drop {os : List Int} (h : Rg os) : Rg os.dropLast := fun v hv => h v (by rw [List.dropLast_eq_take] at hv; exact List.mem_of_mem_take hv)
theorem Rg.app {os : List Int} (h : Rg os) {k : Nat} (hk : k ≤ 16777216) : Rg (os ++ [((k : Nat) : Int)]) := fun v hv => by
  rcases List.mem_append.1 hv with h1 | h1
  · exact h v h1
  · simp at h1; omega
theorem Rg.at_ {os : List Int} (h : Rg os) {i : Nat} (hi : i < os.length) : 0 ≤ ix os i ∧ ix os i ≤ 16777216 := by
  have e : ix os i = os[i] := by simp [ix, List.getD, List.getElem?_eq_getElem hi]
  rw [e]; exact h _ (List.getElem_mem hi)
theorem bl_first {X : List Li} {k : Nat} {os : List Int} {on : Bool} (h : k = 0) (h0 : os = [] ∧ on = true) : fbGo (X.drop (k + 1)) (((k + 1 : Nat) : Int) + 1) (os.map (· + 1)) on = fbL X := by
  obtain ⟨rfl, rfl⟩ := h0
  subst h; rfl
theorem bl_next {Y : List Li} {a b : Int} {s t : List Int} {u v : Bool} {r : Int} (h : fbGo Y a s u = r) (hab : b = a) (hst : t = s) (huv : v = u) : fbGo Y b t v = r := by subst hab; subst hst; subst huv; exact h

set_option maxHeartbeats 4000000 in
set_option maxRecDepth 20000 in
theorem blocks_spec {r n : Nat} {va vd : Value} {L : List LV} {w : World} (hr : Sl w (.slice (some ⟨r, 0, none⟩) 1 1) 2 1 [va, vd]) (ha : Sl w va 7 n (rls L)) (hA : RQ w L) (hq0 : (liAt (L.map (·.1)) 0).word = wQ) (h1 : 1 ≤ n) (hn16 : n ≤ 16777216) : Calls Tryz.prog 51 #[.pointer (some ⟨r, 0, none⟩)] w (Post No w fun v _ => v = .int .i64 (fbL (L.map (·.1)))) := by
 have hLn : L.length = n := by have := ha.1; simp at this; omega
 have hn := ha.le
 obtain ⟨A, c, rfl, hnc, _⟩ := ha.form0
 obtain ⟨X, hX⟩ : ∃ X, L.map (·.1) = X := ⟨_, rfl⟩
 have hXl : X.length = n := by rw [← hX, List.length_map]; exact hLn
 rw [hX] at hq0 ⊢
 refine enter (n := 76) (args := [.pointer (some ⟨r, 0, none⟩)]) Tryz.func51 rfl rfl (St.empty _ _) ?_
 refine .sr ?_
 refine .m ?_
 refine .dsr ?_
 refine .m ?_
 refine .dsr ?_
 refine .m ?_
 refine .done ?_
 refine .seq ?_
 refine .seq ?_
 refine Run.weak (H' := [.own (.slice none 0 0) 3 1 0 (ints [])]) (Weak.nilOwn _ _) ?_ ⟨_, _, rfl, fun _ => nofun, fun _ => nofun⟩
 refine .region ?_
 refine .m ?_
 refine .u (.pointer (some ⟨r, 0, none⟩)) (.nilCheck rfl) ?_
 refine .fa Tfo_54_0 ?_
 refine .u (.slice A n c) (.load1 Tone_51 rfl (Cells.env (k := 0) hr rfl (by decide) ⟨rfl, trivial⟩)) ?_
 refine .u (.int .i64 (((n : Nat) : Int))) (.len Tsl_51 rfl) ?_
 refine .m ?_
 refine .done ?_
 refine .block ?_
 refine Run.loop (ι := Nat × List Int × Bool × Value) ([2, 3, 4, 5, 6, 12, 13, 14, 15, 16, 17, 18, 19, 20, 21, 22, 23, 24, 25, 26, 27, 28, 29, 30, 31, 32, 33, 34, 35, 36, 37, 38, 39, 40, 41, 42, 43, 44, 45, 46, 47, 48, 49, 50, 51, 52, 53, 54, 55, 56] ++ [57, 58, 59, 60, 61, 62, 63, 64, 65]) (fun ⟨k, os, on, vo⟩ => [(3, vo), (4, .bool on), (12, .int .i64 (((k : Nat) : Int)))]) (fun ⟨k, os, on, vo⟩ => [.own vo 3 1 (os.length) (ints os)]) (fun ⟨k, os, on, vo⟩ => k ≤ n ∧ Rg os ∧ os.length ≤ k ∧ (k = 0 → os = [] ∧ on = true) ∧ (1 ≤ k → fbGo (X.drop k) (((k : Nat) : Int) + 1) (os.map (· + 1)) on = fbL X)) (fun ⟨k, os, on, vo⟩ => n - k) (0, [], true, .slice none 0 0) ?_ ?_ ?_ ?_
 ·exact ⟨Nat.zero_le _, (fun v hv => nomatch hv), Nat.le_refl _, fun _ => ⟨rfl, rfl⟩, fun h => absurd h (by decide)⟩
 ·exact ⟨rfl, rfl, rfl, trivial⟩
 ·exact (Some'.weak (.takeEq (by first | rfl | simp) (.nil _)))
 rintro ⟨k, os, on, vo⟩ fr hinv
 show Run _ _ (over _ _ [(3, vo), (4, .bool on), (12, .int .i64 (((k : Nat) : Int)))] fr) [.own vo 3 1 (os.length) (ints os)]
 try dsimp only at hinv
 refine .sr ?_
 refine .w (.bool (decide ((((k : Nat) : Int)) < (((n : Nat) : Int))))) ?_
 refine .done ?_
 refine .seq ?_
 refine .cond (b := decide ((((k : Nat) : Int)) < (((n : Nat) : Int)))) rfl (fun h13 => ?_) (fun h13 => ?_)
 ·have p13 := h13; try simp only [bs] at p13
  have hltk : k < n := by omega
  obtain ⟨hk, hrg, hst, h0, hgo⟩ := hinv
  obtain ⟨x, hx⟩ : ∃ x, (tx L k).1 = x := ⟨_, rfl⟩
  obtain ⟨Aq, cq, hq, hqc, _⟩ := (hA k (by omega)).form0
  rw [hx] at hq hqc
  have hxX : liAt X k = x := by rw [← hX, ← tx_li, hx]
  obtain ⟨b, o, rfl⟩ := ha.opn (by omega)
  refine .skip ?_
  refine .seq ?_
  refine .block ?_
  refine .sr ?_
  refine .m ?_
  refine .u (.pointer (some ⟨b, o + k * 7, none⟩)) (.ix k Tsl_51) ?_
  refine .u (.agg #[sv (x.word), .int .i64 (x.g3.1), .int .i64 (x.g3.2.1), .int .i64 (x.g3.2.2), .int .i64 (x.num), sv (x.nm), .slice Aq (x.ar.length) cq]) (.loadN (cs := [sv (x.word), .int .i64 (x.g3.1), .int .i64 (x.g3.2.1), .int .i64 (x.g3.2.2), .int .i64 (x.num), sv (x.nm), .slice Aq (x.ar.length) cq]) Tagg_77 rfl (Cells.arg (k := k * 7) ha rfl (by omega) (rls_preF (k := k) (by omega) hx hq))) ?_
  refine .step rfl (.alloc (zs := [sv ([]), .int .i64 0, .int .i64 0, .int .i64 0, .int .i64 0, sv ([]), .slice none 0 0]) Tzero_77 fun b1 => ?_)
  refine .m ?_
  refine .step rfl (.storeAll (us := [sv (x.word), .int .i64 (x.g3.1), .int .i64 (x.g3.2.1), .int .i64 (x.g3.2.2), .int .i64 (x.num), sv (x.nm), .slice Aq (x.ar.length) cq]) Tsize_77 rfl rfl rfl (.here _) rfl ?_)
  refine .done ?_
  refine .seq ?_
  refine .sr ?_
  refine .fa Tfo_77_0 ?_
  refine .u (sv (x.word)) (.load1 Tone_9 rfl (.b (.head _))) ?_
  refine .done ?_
  refine .block ?_
  refine .sr ?_
  refine .u (.bool ((x.word) == wE)) (.eqS rfl rfl) ?_
  refine .m ?_
  refine .done ?_
  refine .cond (b := (x.word) == wE) rfl (fun h19 => ?_) (fun h19 => ?_)
  ·have p19 := h19; try simp only [bs] at p19
   have hk1 : 1 ≤ k := k1_of hq0 hxX p19 (by decide)
   replace hgo := hgo hk1
   rw [drop_li (by omega), show X.getD k .cl = x from hxX, fbGo, if_pos p19] at hgo
   refine .seq ?_
   refine .sr ?_
   refine .w vo ?_
   refine Run.formOwn (.tail _ (.head _)) (fun A_vo1 c_vo1 hv hcapc_vo1 hmaxc_vo1 => ?_) (fun _ _ _ => ⟨nofun, nofun, nofun⟩)
   subst hv
   refine .u (.int .i64 (((os.length : Nat) : Int))) (.len Tsl_75 rfl) ?_
   refine .w (.bool ((((os.length : Nat) : Int)) == 0)) ?_
   refine .done ?_
   refine .cond (b := (((os.length : Nat) : Int)) == 0) rfl (fun h23 => ?_) (fun h23 => ?_)
   ·have p23 := h23; try simp only [bs] at p23
    rw [if_pos (by rw [List.length_map]; omega)] at hgo
    refine .sr ?_
    refine .m ?_
    refine .u (.int .i64 ((((k : Nat) : Int)) + 1)) (.add rfl rfl rfl (by omega) (by omega)) ?_
    refine .m ?_
    refine .done ?_
    refine .ret ?_
    refine ⟨.int .i64 ((((k : Nat) : Int)) + 1), [], Out.one rfl rfl, (Some'.weak (.nil _)), ?_⟩
    first | exact congrArg _ hgo | (refine congrArg _ (Eq.trans ?_ hgo); first | (rw [up_last (by omega)]; done) | (rw [List.length_eq_zero_iff.1 (by omega : os.length = 0)]; rfl))
   have p23 := h23; try simp only [bs] at p23
   rw [if_neg (by rw [List.length_map]; omega)] at hgo
   refine .skip ?_
   refine .sr ?_
   iterate 2 refine .m ?_
   refine .u (.int .i64 (((os.length : Nat) : Int))) (.len Tsl_75 rfl) ?_
   refine .u (.int .i64 ((((os.length : Nat) : Int)) - 1)) (.sub rfl rfl rfl (by omega) (by omega)) ?_
   refine Run.weak (H' := [.own (.slice A_vo1 (os.length) c_vo1) 3 1 (os.length) (ints os), .blk b1 77 [sv (x.word), .int .i64 (x.g3.1), .int .i64 (x.g3.2.1), .int .i64 (x.g3.2.2), .int .i64 (x.num), sv (x.nm), .slice Aq (x.ar.length) cq]]) (Weak.selF [1]) ?_ ⟨_, _, rfl, fun _ => nofun, fun _ => nofun⟩
   refine Run.weak (H' := [.own (.slice A_vo1 ((os.length - 1)) c_vo1) 3 1 ((os.length - 1)) (ints os.dropLast), .blk b1 77 [sv (x.word), .int .i64 (x.g3.1), .int .i64 (x.g3.2.1), .int .i64 (x.g3.2.2), .int .i64 (x.num), sv (x.nm), .slice Aq (x.ar.length) cq]]) ((Weak.ownTake (m := (os.length - 1)) (by omega)).trans (Some'.weak (.takeEq (by rw [Nat.mul_one, ints_take', ← dropLast_take']) (.take (.nil _))))) ?_ ⟨_, _, rfl, fun _ => nofun, fun _ => nofun⟩
   refine Run.weak (H' := [.own (.slice A_vo1 ((os.length - 1)) c_vo1) 3 1 (os.dropLast.length) (ints os.dropLast), .blk b1 77 [sv (x.word), .int .i64 (x.g3.1), .int .i64 (x.g3.2.1), .int .i64 (x.g3.2.2), .int .i64 (x.num), sv (x.nm), .slice Aq (x.ar.length) cq]]) (Some'.weak (.takeEq (by rw [List.length_dropLast]) (.take (.nil _)))) ?_ ⟨_, _, rfl, fun _ => nofun, fun _ => nofun⟩
   refine .u (.slice A_vo1 (os.length - 1) c_vo1) (.sliceHN (h := os.length - 1) Tsl_75 rfl rfl (by omega) (by omega)) ?_
   refine .m ?_
   refine .done ?_
   refine .exit rfl ?_
   refine .region ?_
   refine .u (.int .i64 ((((k : Nat) : Int)) + 1)) (.add rfl rfl rfl (by omega) (by omega)) ?_
   refine .m ?_
   refine .done ?_
   refine .goal ⟨(by repeat (first | exact Same.refl _ _ | refine Same.put rfl ?_ | refine Same.over rfl rfl ?_)), (k + 1, os.dropLast, on, .slice A_vo1 (os.length - 1) c_vo1), ?_, ?_, ?_, ?_⟩
   ·refine ⟨by omega, by first | exact hrg | exact hrg.drop | exact hrg.app (by omega), by first | omega | (simp; omega), fun h => by omega, fun _ => ?_⟩
    first | exact bl_next hgo rfl (by simp; done) rfl | (refine bl_next hgo rfl rfl ?_; rw [show decide (0 < (os.map (· + 1)).length) = true from decide_eq_true (by rw [List.length_map]; omega), Bool.and_true]; done) | (refine bl_next hgo rfl ?_ ?_ <;> first | (simp; done) | (simp_all; done)) | exact bl_next hgo rfl (by rw [up_dropLast]) rfl | exact bl_first (by omega) (h0 (by omega))
   ·show n - (k + 1) < n - k; omega
   ·exact ⟨(by first | rfl | (congr 1; omega) | simp), (by first | rfl | (congr 1; omega) | simp), (by first | rfl | (congr 1; omega) | simp), trivial⟩
   ·exact (Some'.weak (.takeEq (by first | rfl | simp) (.nil _)))
  have p19 := h19; try simp only [bs] at p19
  refine .sr ?_
  refine .u (.bool ((x.word) == wD)) (.eqS rfl rfl) ?_
  refine .m ?_
  refine .done ?_
  refine .cond (b := (x.word) == wD) rfl (fun h31 => ?_) (fun h31 => ?_)
  ·have p31 := h31; try simp only [bs] at p31
   have hk1 : 1 ≤ k := k1_of hq0 hxX p31 (by decide)
   replace hgo := hgo hk1
   rw [drop_li (by omega), show X.getD k .cl = x from hxX, fbGo, if_neg p19, if_pos p31] at hgo
   refine .seq ?_
   refine .sr ?_
   refine .m ?_
   refine .w (.bool (!on)) ?_
   rcases Bool.eq_false_or_eq_true (!on) with h35 | h35
   ·refine .mb h35 ?_
    have p35 := h35; try simp only [bs] at p35
    iterate 3 refine .pass rfl ?_
    refine .w (.bool true) ?_
    refine .done ?_
    refine .cond (b := true) rfl (fun _ => ?_) (fun h => nomatch h)
    refine .seq ?_
    rw [if_pos (by first | exact .inl (by rw [List.length_map]; omega) | exact .inr (by simp_all))] at hgo
    refine .region ?_
    refine .m ?_
    refine .u (.int .i64 ((((k : Nat) : Int)) + 1)) (.add rfl rfl rfl (by omega) (by omega)) ?_
    refine .m ?_
    refine .done ?_
    refine .ret ?_
    refine ⟨.int .i64 ((((k : Nat) : Int)) + 1), [], Out.one rfl rfl, (Some'.weak (.nil _)), ?_⟩
    first | exact congrArg _ hgo | (refine congrArg _ (Eq.trans ?_ hgo); first | (rw [up_last (by omega)]; done) | (rw [List.length_eq_zero_iff.1 (by omega : os.length = 0)]; rfl))
   refine .mb h35 ?_
   have p35 := h35; try simp only [bs] at p35
   refine .w vo ?_
   refine Run.formOwn (.tail _ (.head _)) (fun A_vo2 c_vo2 hv hcapc_vo2 hmaxc_vo2 => ?_) (fun _ _ _ => ⟨nofun, nofun, nofun⟩)
   subst hv
   refine .u (.int .i64 (((os.length : Nat) : Int))) (.len Tsl_75 rfl) ?_
   refine .w (.bool (decide ((((os.length : Nat) : Int)) > 0))) ?_
   refine .w (.bool (decide ((((os.length : Nat) : Int)) > 0))) ?_
   refine .done ?_
   refine .cond (b := decide ((((os.length : Nat) : Int)) > 0)) rfl (fun h39 => ?_) (fun h39 => ?_)
   ·have p39 := h39; try simp only [bs] at p39
    refine .seq ?_
    rw [if_pos (by first | exact .inl (by rw [List.length_map]; omega) | exact .inr (by simp_all))] at hgo
    refine .region ?_
    refine .m ?_
    refine .u (.int .i64 ((((k : Nat) : Int)) + 1)) (.add rfl rfl rfl (by omega) (by omega)) ?_
    refine .m ?_
    refine .done ?_
    refine .ret ?_
    refine ⟨.int .i64 ((((k : Nat) : Int)) + 1), [], Out.one rfl rfl, (Some'.weak (.nil _)), ?_⟩
    first | exact congrArg _ hgo | (refine congrArg _ (Eq.trans ?_ hgo); first | (rw [up_last (by omega)]; done) | (rw [List.length_eq_zero_iff.1 (by omega : os.length = 0)]; rfl))
   have p39 := h39; try simp only [bs] at p39
   refine .skip ?_
   refine .seq ?_
   rw [if_neg (by rintro (h | h) <;> simp_all)] at hgo
   refine .region ?_
   iterate 2 refine .m ?_
   refine .step rfl (.buildSlice (us := [.int .i64 (((k : Nat) : Int))]) Tsl_75 (by decide) (by decide) ⟨rfl, [.int .i64 (((k : Nat) : Int))], _, rfl, rfl, rfl, rfl⟩ rfl fun b2 => ?_)
   refine .step rfl (.append (H1 := [.own (.slice (some ⟨b2, 0, none⟩) 1 1) 3 1 1 ([.int .i64 (((k : Nat) : Int))]), .blk b1 77 [sv (x.word), .int .i64 (x.g3.1), .int .i64 (x.g3.2.1), .int .i64 (x.g3.2.2), .int .i64 (x.num), sv (x.nm), .slice Aq (x.ar.length) cq]]) (H2 := []) (v := .slice A_vo2 (os.length) c_vo2) (u := .slice (some ⟨b2, 0, none⟩) 1 1) (n := os.length) (m := 1) (xs := ints os) (ys := [.int .i64 (((k : Nat) : Int))]) Tsl_75 (by decide) rfl rfl rfl rfl (fun w hs => hs.slOwn (.head _)) (by simp [Value.oneCell']) (by omega) (by simp only [maxLen]; omega) fun av1 hnav1 => ?_)
   refine Run.weak (H' := [.own (.slice (some ⟨b2, 0, none⟩) 1 1) 3 1 1 ([.int .i64 (((k : Nat) : Int))]), .blk b1 77 [sv (x.word), .int .i64 (x.g3.1), .int .i64 (x.g3.2.1), .int .i64 (x.g3.2.2), .int .i64 (x.num), sv (x.nm), .slice Aq (x.ar.length) cq], .own av1 3 1 ((os ++ [((k : Nat) : Int)]).length) (ints (os ++ [((k : Nat) : Int)]))]) (Some'.weak (.take (.take (.takeEq (by simp [ints]) (.nil _))))) ?_ ⟨_, _, rfl, fun _ => nofun, fun _ => nofun⟩
   refine .w av1 ?_
   refine .done ?_
   refine .exit rfl ?_
   refine .region ?_
   refine .u (.int .i64 ((((k : Nat) : Int)) + 1)) (.add rfl rfl rfl (by omega) (by omega)) ?_
   refine .m ?_
   refine .done ?_
   refine .goal ⟨(by repeat (first | exact Same.refl _ _ | refine Same.put rfl ?_ | refine Same.over rfl rfl ?_)), (k + 1, (os ++ [((k : Nat) : Int)]), on, av1), ?_, ?_, ?_, ?_⟩
   ·refine ⟨by omega, by first | exact hrg | exact hrg.drop | exact hrg.app (by omega), by first | omega | (simp; omega), fun h => by omega, fun _ => ?_⟩
    first | exact bl_next hgo rfl (by simp; done) rfl | (refine bl_next hgo rfl rfl ?_; rw [show decide (0 < (os.map (· + 1)).length) = true from decide_eq_true (by rw [List.length_map]; omega), Bool.and_true]; done) | (refine bl_next hgo rfl ?_ ?_ <;> first | (simp; done) | (simp_all; done)) | exact bl_next hgo rfl (by rw [up_dropLast]) rfl | exact bl_first (by omega) (h0 (by omega))
   ·show n - (k + 1) < n - k; omega
   ·exact ⟨(by first | rfl | (congr 1; omega) | simp), (by first | rfl | (congr 1; omega) | simp), (by first | rfl | (congr 1; omega) | simp), trivial⟩
   ·exact (Some'.weak (.skip (.skip (.takeEq (by first | rfl | simp) (.nil _)))))
  have p31 := h31; try simp only [bs] at p31
  refine .sr ?_
  refine .u (.bool ((x.word) == wR)) (.eqS rfl rfl) ?_
  refine .m ?_
  refine .done ?_
  refine .cond (b := (x.word) == wR) rfl (fun h46 => ?_) (fun h46 => ?_)
  ·have p46 := h46; try simp only [bs] at p46
   have hk1 : 1 ≤ k := k1_of hq0 hxX p46 (by decide)
   replace hgo := hgo hk1
   rw [drop_li (by omega), show X.getD k .cl = x from hxX, fbGo, if_neg p19, if_neg p31, if_pos p46] at hgo
   refine .sr ?_
   refine .m ?_
   rcases Bool.eq_false_or_eq_true (on) with h49 | h49
   ·refine .mb h49 ?_
    have p49 := h49; try simp only [bs] at p49
    refine .w vo ?_
    refine Run.formOwn (.tail _ (.head _)) (fun A_vo3 c_vo3 hv hcapc_vo3 hmaxc_vo3 => ?_) (fun _ _ _ => ⟨nofun, nofun, nofun⟩)
    subst hv
    refine .u (.int .i64 (((os.length : Nat) : Int))) (.len Tsl_75 rfl) ?_
    refine .w (.bool (decide ((((os.length : Nat) : Int)) > 0))) ?_
    refine .w (.bool (decide ((((os.length : Nat) : Int)) > 0))) ?_
    refine .m ?_
    refine .dsr ?_
    iterate 2 refine .m ?_
    refine .step rfl (.buildSlice (us := [.int .i64 (((k : Nat) : Int))]) Tsl_75 (by decide) (by decide) ⟨rfl, [.int .i64 (((k : Nat) : Int))], _, rfl, rfl, rfl, rfl⟩ rfl fun b3 => ?_)
    refine .step rfl (.append (H1 := [.own (.slice (some ⟨b3, 0, none⟩) 1 1) 3 1 1 ([.int .i64 (((k : Nat) : Int))]), .blk b1 77 [sv (x.word), .int .i64 (x.g3.1), .int .i64 (x.g3.2.1), .int .i64 (x.g3.2.2), .int .i64 (x.num), sv (x.nm), .slice Aq (x.ar.length) cq]]) (H2 := []) (v := .slice A_vo3 (os.length) c_vo3) (u := .slice (some ⟨b3, 0, none⟩) 1 1) (n := os.length) (m := 1) (xs := ints os) (ys := [.int .i64 (((k : Nat) : Int))]) Tsl_75 (by decide) rfl rfl rfl rfl (fun w hs => hs.slOwn (.head _)) (by simp [Value.oneCell']) (by omega) (by simp only [maxLen]; omega) fun av2 hnav2 => ?_)
    refine Run.weak (H' := [.own (.slice (some ⟨b3, 0, none⟩) 1 1) 3 1 1 ([.int .i64 (((k : Nat) : Int))]), .blk b1 77 [sv (x.word), .int .i64 (x.g3.1), .int .i64 (x.g3.2.1), .int .i64 (x.g3.2.2), .int .i64 (x.num), sv (x.nm), .slice Aq (x.ar.length) cq], .own av2 3 1 ((os ++ [((k : Nat) : Int)]).length) (ints (os ++ [((k : Nat) : Int)]))]) (Some'.weak (.take (.take (.takeEq (by simp [ints]) (.nil _))))) ?_ ⟨_, _, rfl, fun _ => nofun, fun _ => nofun⟩
    refine .w av2 ?_
    refine .done ?_
    refine .exit rfl ?_
    refine .region ?_
    refine .u (.int .i64 ((((k : Nat) : Int)) + 1)) (.add rfl rfl rfl (by omega) (by omega)) ?_
    refine .m ?_
    refine .done ?_
    refine .goal ⟨(by repeat (first | exact Same.refl _ _ | refine Same.put rfl ?_ | refine Same.over rfl rfl ?_)), (k + 1, (os ++ [((k : Nat) : Int)]), ((decide ((((os.length : Nat) : Int)) > 0))), av2), ?_, ?_, ?_, ?_⟩
    ·refine ⟨by omega, by first | exact hrg | exact hrg.drop | exact hrg.app (by omega), by first | omega | (simp; omega), fun h => by omega, fun _ => ?_⟩
     first | exact bl_next hgo rfl (by simp; done) rfl | (refine bl_next hgo rfl rfl ?_; rw [show decide (0 < (os.map (· + 1)).length) = true from decide_eq_true (by rw [List.length_map]; omega), Bool.and_true]; done) | (refine bl_next hgo rfl ?_ ?_ <;> first | (simp; done) | (simp_all; done)) | exact bl_next hgo rfl (by rw [up_dropLast]) rfl | exact bl_first (by omega) (h0 (by omega))
    ·show n - (k + 1) < n - k; omega
    ·exact ⟨(by first | rfl | (congr 1; omega) | simp), (by first | rfl | (congr 1; omega) | simp), (by first | rfl | (congr 1; omega) | simp), trivial⟩
    ·exact (Some'.weak (.skip (.skip (.takeEq (by first | rfl | simp) (.nil _)))))
   refine .mb h49 ?_
   have p49 := h49; try simp only [bs] at p49
   iterate 3 refine .pass rfl ?_
   refine .w (.bool false) ?_
   refine .m ?_
   refine .dsr ?_
   refine .w vo ?_
   refine .m ?_
   refine .step rfl (.buildSlice (us := [.int .i64 (((k : Nat) : Int))]) Tsl_75 (by decide) (by decide) ⟨rfl, [.int .i64 (((k : Nat) : Int))], _, rfl, rfl, rfl, rfl⟩ rfl fun b4 => ?_)
   refine .step rfl (.append (H1 := [.own (.slice (some ⟨b4, 0, none⟩) 1 1) 3 1 1 ([.int .i64 (((k : Nat) : Int))]), .blk b1 77 [sv (x.word), .int .i64 (x.g3.1), .int .i64 (x.g3.2.1), .int .i64 (x.g3.2.2), .int .i64 (x.num), sv (x.nm), .slice Aq (x.ar.length) cq]]) (H2 := []) (v := vo) (u := .slice (some ⟨b4, 0, none⟩) 1 1) (n := os.length) (m := 1) (xs := ints os) (ys := [.int .i64 (((k : Nat) : Int))]) Tsl_75 (by decide) rfl rfl rfl rfl (fun w hs => hs.slOwn (.head _)) (by simp [Value.oneCell']) (by omega) (by simp only [maxLen]; omega) fun av3 hnav3 => ?_)
   refine Run.weak (H' := [.own (.slice (some ⟨b4, 0, none⟩) 1 1) 3 1 1 ([.int .i64 (((k : Nat) : Int))]), .blk b1 77 [sv (x.word), .int .i64 (x.g3.1), .int .i64 (x.g3.2.1), .int .i64 (x.g3.2.2), .int .i64 (x.num), sv (x.nm), .slice Aq (x.ar.length) cq], .own av3 3 1 ((os ++ [((k : Nat) : Int)]).length) (ints (os ++ [((k : Nat) : Int)]))]) (Some'.weak (.take (.take (.takeEq (by simp [ints]) (.nil _))))) ?_ ⟨_, _, rfl, fun _ => nofun, fun _ => nofun⟩
   refine .w av3 ?_
   refine .done ?_
   refine .exit rfl ?_
   refine .region ?_
   refine .u (.int .i64 ((((k : Nat) : Int)) + 1)) (.add rfl rfl rfl (by omega) (by omega)) ?_
   refine .m ?_
   refine .done ?_
   refine .goal ⟨(by repeat (first | exact Same.refl _ _ | refine Same.put rfl ?_ | refine Same.over rfl rfl ?_)), (k + 1, (os ++ [((k : Nat) : Int)]), false, av3), ?_, ?_, ?_, ?_⟩
   ·refine ⟨by omega, by first | exact hrg | exact hrg.drop | exact hrg.app (by omega), by first | omega | (simp; omega), fun h => by omega, fun _ => ?_⟩
    first | exact bl_next hgo rfl (by simp; done) rfl | (refine bl_next hgo rfl rfl ?_; rw [show decide (0 < (os.map (· + 1)).length) = true from decide_eq_true (by rw [List.length_map]; omega), Bool.and_true]; done) | (refine bl_next hgo rfl ?_ ?_ <;> first | (simp; done) | (simp_all; done)) | exact bl_next hgo rfl (by rw [up_dropLast]) rfl | exact bl_first (by omega) (h0 (by omega))
   ·show n - (k + 1) < n - k; omega
   ·exact ⟨(by first | rfl | (congr 1; omega) | simp), (by first | rfl | (congr 1; omega) | simp), (by first | rfl | (congr 1; omega) | simp), trivial⟩
   ·exact (Some'.weak (.skip (.skip (.takeEq (by first | rfl | simp) (.nil _)))))
  have p46 := h46; try simp only [bs] at p46
  refine .skip ?_
  refine .blockEnd ?_
  refine .sr ?_
  refine .m ?_
  refine .w (.bool (decide ((((k : Nat) : Int)) > 0))) ?_
  rcases Bool.eq_false_or_eq_true (decide ((((k : Nat) : Int)) > 0)) with h60 | h60
  ·refine .mb h60 ?_
   have p60 := h60; try simp only [bs] at p60
   have hk1 : 1 ≤ k := by omega
   replace hgo := hgo hk1
   rw [drop_li (by omega), show X.getD k .cl = x from hxX, fbGo, if_neg p19, if_neg p31, if_neg p46] at hgo
   refine .w vo ?_
   refine Run.formOwn (.tail _ (.head _)) (fun A_vo4 c_vo4 hv hcapc_vo4 hmaxc_vo4 => ?_) (fun _ _ _ => ⟨nofun, nofun, nofun⟩)
   subst hv
   refine .u (.int .i64 (((os.length : Nat) : Int))) (.len Tsl_75 rfl) ?_
   refine .w (.bool ((((os.length : Nat) : Int)) == 0)) ?_
   refine .w (.bool ((((os.length : Nat) : Int)) == 0)) ?_
   refine .done ?_
   refine .cond (b := (((os.length : Nat) : Int)) == 0) rfl (fun h64 => ?_) (fun h64 => ?_)
   ·have p64 := h64; try simp only [bs] at p64
    refine .region ?_
    refine .m ?_
    refine .done ?_
    refine .blockEnd ?_
    refine .region ?_
    refine .u (.int .i64 ((((k : Nat) : Int)) + 1)) (.add rfl rfl rfl (by omega) (by omega)) ?_
    refine .m ?_
    refine .done ?_
    refine .goal ⟨(by repeat (first | exact Same.refl _ _ | refine Same.put rfl ?_ | refine Same.over rfl rfl ?_)), (k + 1, os, false, .slice A_vo4 (os.length) c_vo4), ?_, ?_, ?_, ?_⟩
    ·refine ⟨by omega, by first | exact hrg | exact hrg.drop | exact hrg.app (by omega), by first | omega | (simp; omega), fun h => by omega, fun _ => ?_⟩
     first | exact bl_next hgo rfl (by simp; done) rfl | (refine bl_next hgo rfl rfl ?_; rw [show decide (0 < (os.map (· + 1)).length) = true from decide_eq_true (by rw [List.length_map]; omega), Bool.and_true]; done) | (refine bl_next hgo rfl ?_ ?_ <;> first | (simp; done) | (simp_all; done)) | exact bl_next hgo rfl (by rw [up_dropLast]) rfl | exact bl_first (by omega) (h0 (by omega))
    ·show n - (k + 1) < n - k; omega
    ·exact ⟨(by first | rfl | (congr 1; omega) | simp), (by first | rfl | (congr 1; omega) | simp), (by first | rfl | (congr 1; omega) | simp), trivial⟩
    ·exact (Some'.weak (.skip (.takeEq (by first | rfl | simp) (.nil _))))
   have p64 := h64; try simp only [bs] at p64
   refine .skip ?_
   refine .blockEnd ?_
   refine .region ?_
   refine .u (.int .i64 ((((k : Nat) : Int)) + 1)) (.add rfl rfl rfl (by omega) (by omega)) ?_
   refine .m ?_
   refine .done ?_
   refine .goal ⟨(by repeat (first | exact Same.refl _ _ | refine Same.put rfl ?_ | refine Same.over rfl rfl ?_)), (k + 1, os, on, .slice A_vo4 (os.length) c_vo4), ?_, ?_, ?_, ?_⟩
   ·refine ⟨by omega, by first | exact hrg | exact hrg.drop | exact hrg.app (by omega), by first | omega | (simp; omega), fun h => by omega, fun _ => ?_⟩
    first | exact bl_next hgo rfl (by simp; done) rfl | (refine bl_next hgo rfl rfl ?_; rw [show decide (0 < (os.map (· + 1)).length) = true from decide_eq_true (by rw [List.length_map]; omega), Bool.and_true]; done) | (refine bl_next hgo rfl ?_ ?_ <;> first | (simp; done) | (simp_all; done)) | exact bl_next hgo rfl (by rw [up_dropLast]) rfl | exact bl_first (by omega) (h0 (by omega))
   ·show n - (k + 1) < n - k; omega
   ·exact ⟨(by first | rfl | (congr 1; omega) | simp), (by first | rfl | (congr 1; omega) | simp), (by first | rfl | (congr 1; omega) | simp), trivial⟩
   ·exact (Some'.weak (.skip (.takeEq (by first | rfl | simp) (.nil _))))
  refine .mb h60 ?_
  have p60 := h60; try simp only [bs] at p60
  iterate 3 refine .pass rfl ?_
  refine .w (.bool false) ?_
  refine .done ?_
  refine .cond (b := false) rfl (fun h => nomatch h) (fun _ => ?_)
  refine .skip ?_
  refine .blockEnd ?_
  refine .region ?_
  refine .u (.int .i64 ((((k : Nat) : Int)) + 1)) (.add rfl rfl rfl (by omega) (by omega)) ?_
  refine .m ?_
  refine .done ?_
  refine .goal ⟨(by repeat (first | exact Same.refl _ _ | refine Same.put rfl ?_ | refine Same.over rfl rfl ?_)), (k + 1, os, on, vo), ?_, ?_, ?_, ?_⟩
  ·refine ⟨by omega, by first | exact hrg | exact hrg.drop | exact hrg.app (by omega), by first | omega | (simp; omega), fun h => by omega, fun _ => ?_⟩
   first | exact bl_next hgo rfl (by simp; done) rfl | (refine bl_next hgo rfl rfl ?_; rw [show decide (0 < (os.map (· + 1)).length) = true from decide_eq_true (by rw [List.length_map]; omega), Bool.and_true]; done) | (refine bl_next hgo rfl ?_ ?_ <;> first | (simp; done) | (simp_all; done)) | exact bl_next hgo rfl (by rw [up_dropLast]) rfl | exact bl_first (by omega) (h0 (by omega))
  ·show n - (k + 1) < n - k; omega
  ·exact ⟨(by first | rfl | (congr 1; omega) | simp), (by first | rfl | (congr 1; omega) | simp), (by first | rfl | (congr 1; omega) | simp), trivial⟩
  ·exact (Some'.weak (.skip (.takeEq (by first | rfl | simp) (.nil _))))
 have p13 := h13; try simp only [bs] at p13
 have hkn : k = n := by omega
 obtain ⟨hk, hrg, hst, h0, hgo⟩ := hinv
 replace hgo := hgo (by omega)
 rw [List.drop_eq_nil_iff.2 (by omega), fbGo] at hgo
 refine .exit rfl ?_
 refine .seq ?_
 refine .sr ?_
 refine .w vo ?_
 refine Run.formOwn (.head _) (fun A_vo5 c_vo5 hv hcapc_vo5 hmaxc_vo5 => ?_) (fun _ _ _ => ⟨nofun, nofun, nofun⟩)
 subst hv
 refine .u (.int .i64 (((os.length : Nat) : Int))) (.len Tsl_75 rfl) ?_
 refine .w (.bool (decide ((((os.length : Nat) : Int)) > 0))) ?_
 refine .done ?_
 refine .cond (b := decide ((((os.length : Nat) : Int)) > 0)) rfl (fun h68 => ?_) (fun h68 => ?_)
 ·have p68 := h68; try simp only [bs] at p68
  have hix := hrg.at_ (i := os.length - 1) (by omega)
  refine Run.openOwn (.head _) (by omega) (fun gs cgs hvgs hcapgs _ => ?_) (fun _ _ _ => ⟨nofun, nofun, nofun⟩)
  injection hvgs with hAgs _ hcgs; subst hAgs; subst hcgs
  refine .sr ?_
  iterate 2 refine .m ?_
  refine .u (.int .i64 (((os.length : Nat) : Int))) (.len Tsl_75 rfl) ?_
  refine .u (.int .i64 ((((os.length : Nat) : Int)) - 1)) (.sub rfl rfl rfl (by omega) (by omega)) ?_
  refine .u (.pointer (some ⟨gs, os.length - 1, none⟩)) (.ix (os.length - 1) Tsl_75) ?_
  refine .u (.int .i64 (ix os (os.length - 1))) (.load1 Tone_3 rfl (Cells.own0 (.head _) (pre1 (by omega)))) ?_
  refine .u (.int .i64 ((ix os (os.length - 1)) + 1)) (.add rfl rfl rfl (by omega) (by omega)) ?_
  refine .m ?_
  refine .done ?_
  refine .ret ?_
  refine ⟨.int .i64 ((ix os (os.length - 1)) + 1), [], Out.one rfl rfl, (Some'.weak (.nil _)), ?_⟩
  first | exact congrArg _ hgo | (refine congrArg _ (Eq.trans ?_ hgo); first | (rw [up_last (by omega)]; done) | (rw [List.length_eq_zero_iff.1 (by omega : os.length = 0)]; rfl))
 have p68 := h68; try simp only [bs] at p68
 refine .skip ?_
 refine .sr ?_
 refine .m ?_
 refine .done ?_
 refine .ret ?_
 refine ⟨.int .i64 0, [], Out.one rfl rfl, (Some'.weak (.nil _)), ?_⟩
 first | exact congrArg _ hgo | (refine congrArg _ (Eq.trans ?_ hgo); first | (rw [up_last (by omega)]; done) | (rw [List.length_eq_zero_iff.1 (by omega : os.length = 0)]; rfl))

end Go.Proofs.YtgpkpopbajkklaaGreatDoor
