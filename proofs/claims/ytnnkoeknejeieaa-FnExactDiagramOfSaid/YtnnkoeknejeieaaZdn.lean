/- Walks: DiagramOf of the program and of the reference. -/
import Derived.Test.YtnnkoeknejeieaaZdi
import Derived.Test.YtnnkoeknejeieaaZdm
import Derived.Test.YtnnkoeknejeieaaProg
set_option linter.unusedSimpArgs false
set_option linter.unusedVariables false
namespace Go.Proofs.Ytnnkoeknejeieaa
open Go Go.RowKit
namespace ZdnT
theorem Tagg_29 : aggOf Try.prog 29 = some 5 := by kernel_rfl
theorem Tagg_34 : aggOf Try.prog 34 = some 2 := by kernel_rfl
theorem Tagg_54 : aggOf Try.prog 54 = some 3 := by kernel_rfl
theorem Tcall_14 : callable Try.prog 14 = true := by kernel_rfl
theorem Tcall_15 : callable Try.prog 15 = true := by kernel_rfl
theorem Tcall_16 : callable Try.prog 16 = true := by kernel_rfl
theorem Tcall_18 : callable Try.prog 18 = true := by kernel_rfl
theorem Tcall_19 : callable Try.prog 19 = true := by kernel_rfl
theorem Tcall_20 : callable Try.prog 20 = true := by kernel_rfl
theorem Tcall_21 : callable Try.prog 21 = true := by kernel_rfl
theorem Tcall_47 : callable Try.prog 47 = true := by kernel_rfl
theorem Tfo_29_1 : fieldOff Try.prog 29 1 = some 1 := by kernel_rfl
theorem Tfo_34_0 : fieldOff Try.prog 34 0 = some 0 := by kernel_rfl
theorem Tfo_34_1 : fieldOff Try.prog 34 1 = some 1 := by kernel_rfl
theorem Tfo_50_0 : fieldOff Try.prog 50 0 = some 0 := by kernel_rfl
theorem Tfo_50_1 : fieldOff Try.prog 50 1 = some 5 := by kernel_rfl
theorem Tone_26 : oneOf Try.prog 26 = true := by kernel_rfl
theorem Tone_3 : oneOf Try.prog 3 = true := by kernel_rfl
theorem Tone_32 : oneOf Try.prog 32 = true := by kernel_rfl
theorem Tone_48 : oneOf Try.prog 48 = true := by kernel_rfl
theorem Tsize_26 : (Try.prog.info? 26).map (·.size) = some 1 := by kernel_rfl
theorem Tsize_29 : (Try.prog.info? 29).map (·.size) = some 5 := by kernel_rfl
theorem Tsize_48 : (Try.prog.info? 48).map (·.size) = some 1 := by kernel_rfl
theorem Tsize_54 : (Try.prog.info? 54).map (·.size) = some 3 := by kernel_rfl
theorem Tsl_26 : sliceOf Try.prog 26 = some (52, 2, 16, [.int .i64 0, .int .i64 0]) := by kernel_rfl
theorem Tsl_32 : sliceOf Try.prog 32 = some (54, 3, 24, [.int .i64 0, .int .i64 0, .int .i64 0]) := by kernel_rfl
theorem Tsl_47 : sliceOf Try.prog 47 = some (4, 1, 1, [.bool false]) := by kernel_rfl
theorem Tsl_48 : sliceOf Try.prog 48 = some (3, 1, 8, [.int .i64 0]) := by kernel_rfl
theorem Tzero_29 : zeroOf Try.prog 29 = some [.int .i64 0, .slice none 0 0, .slice none 0 0, .int .i64 0, .int .i64 0] := by kernel_rfl
theorem Tzero_54 : zeroOf Try.prog 54 = some [.int .i64 0, .int .i64 0, .int .i64 0] := by kernel_rfl
end ZdnT
open ZdnT

/-- A diagram. -/
structure DgR where
  q : Int
  ns : List N2
  ws : List W3
  t : Int
  rt : Int
def dgZero : DgR := ⟨0, [], [], 0, 0⟩
def dgOf (Q : Nat) (xs : List Int) (n : Nat) : DgR := ⟨Q, (DgS.fin Q xs n).ns, (DgS.fin Q xs n).ws, DgS.runT xs n % 8, (DgS.fin Q xs n).rt⟩
def dgGood (Q : Nat) (xs : List Int) (n : Nat) : Bool := gdP Q (DgS.fin Q xs n).ns (DgS.fin Q xs n).ws (DgS.runT xs n % 8) (DgS.fin Q xs n).rt
/-- Whether a circuit has a diagram, and which. -/
def dOk (N : Int) (xs : List Int) (n : Nat) : Bool := circOk N xs n && dgGood N.toNat xs n
def dRes (N : Int) (xs : List Int) (n : Nat) : DgR := if dOk N xs n = true then dgOf N.toNat xs n else dgZero
theorem valid_is {b : Bool} {N : Int} {va : Value} {n : Nat} {xs : List Int} {w : World} (hc : circOk N xs n = b) (ha : Sl w va 3 n (ints xs)) : Calls Try.prog 18 #[.agg #[.int .i64 N, va]] w (Post No w fun v _ => v = .bool b) := by
  subst hc; exact IsValidCircuit_spec ha
theorem good_is {b : Bool} {N : Int} {va : Value} {n : Nat} {xs : List Int} {w : World} (hc : circOk N xs n = b) (ha : Sl w va 3 n (ints xs)) : Calls Try.prog 14 #[.agg #[.int .i64 N, va]] w (Post No w fun v _ => v = .bool b) := by
  subst hc; exact l4Good_spec ha
theorem diag_is {b : Bool} {Q : Nat} {t r : Int} {va vw : Value} {n m : Nat} {L : List N2} {ws : List W3} {w : World} (hQ : 1 ≤ Q ∧ Q ≤ 5) (hg : gdP Q L ws t r = b) (ha : Sl w va 2 n (nds L)) (hw : Sl w vw 3 m (wls ws)) : Calls Try.prog 47 #[.agg #[.int .i64 (Q : Nat), va, vw, .int .i64 t, .int .i64 r]] w (Post No w fun v _ => v = .bool b) := by
  subst hg; exact IsValidDiagram_spec hQ ha hw
theorem l16_is {b : Bool} {Q : Nat} {t r : Int} {va vw : Value} {n m : Nat} {L : List N2} {ws : List W3} {w : World} (hQ : 1 ≤ Q ∧ Q ≤ 5) (hwb : ∀ x ∈ ws, 0 ≤ x.2.1 ∧ x.2.1 ≤ 1000000) (hg : gdP Q L ws t r = b) (ha : Sl w va 2 n (nds L)) (hw : Sl w vw 3 m (wls ws)) : Calls Try.prog 16 #[.agg #[.int .i64 (Q : Nat), va, vw, .int .i64 t, .int .i64 r]] w (Post No w fun v _ => v = .bool b) := by
  subst hg; rw [gd_same]; exact l16Good_spec hQ hwb ha hw
theorem circ_parts {N : Int} {xs : List Int} {n : Nat} (h : circOk N xs n = true) : ∃ Q : Nat, N = Q ∧ (1 ≤ Q ∧ Q ≤ 5) ∧ n ≤ 400 ∧ ∀ i, i < n → gateAt (Q : Int) xs i = true := by
  have h1 := circOk_N h
  refine ⟨N.toNat, by omega, by omega, circOk_n h, fun i hi => ?_⟩
  rw [Int.toNat_of_nonneg (by omega)]
  exact circOk_gate h hi
theorem fin_wb {Q n : Nat} {xs : List Int} (hQ : 1 ≤ Q ∧ Q ≤ 5) (hn4 : n ≤ 400) (hgs : ∀ i, i < n → gateAt (Q : Int) xs i = true) : ∀ x ∈ (DgS.fin Q xs n).ws, 0 ≤ x.2.1 ∧ x.2.1 ≤ 1000000 := by
  have h := DgS.outs_ok hQ.2 (DgS.runG_ok hQ hgs n (Nat.le_refl _)) Q (Nat.le_refl _)
  intro x hx
  have h1 := h.wr x hx
  have h2 := h.bn
  omega

set_option maxHeartbeats 1000000 in
set_option maxRecDepth 20000 in
theorem checked_true {Q : Nat} {t r : Int} {va vw : Value} {n m : Nat} {L : List N2} {ws : List W3} {w : World} (hQ : 1 ≤ Q ∧ Q ≤ 5) (hg : gdP Q L ws t r = true) (ha : Sl w va 2 n (nds L)) (hw : Sl w vw 3 m (wls ws)) : Calls Try.prog 21 #[.agg #[.int .i64 (Q : Nat), va, vw, .int .i64 t, .int .i64 r]] w (Post No w fun v _ => v = .tuple #[.agg #[.int .i64 (Q : Nat), va, vw, .int .i64 t, .int .i64 r], .bool true]) := by
 obtain ⟨A, c, rfl, _, _⟩ := ha.form0
 obtain ⟨Aw, cw, rfl, _, _⟩ := hw.form0
 refine enter (n := 9) (args := [.agg #[.int .i64 (((Q : Nat) : Int)), .slice A n c, .slice Aw m cw, .int .i64 t, .int .i64 r]]) Try.func21 rfl rfl (St.empty _ _) ?_
 refine .sr ?_
 refine .step rfl (.box (us := [.int .i64 (((Q : Nat) : Int)), .slice A n c, .slice Aw m cw, .int .i64 t, .int .i64 r]) rfl fun b1 => ?_)
 refine .step rfl (.alloc (zs := [.int .i64 0, .slice none 0 0, .slice none 0 0, .int .i64 0, .int .i64 0]) Tzero_29 fun b2 => ?_)
 refine .m ?_
 refine .done ?_
 refine .seq ?_
 refine .sr ?_
 refine .u (.agg #[.int .i64 (((Q : Nat) : Int)), .slice A n c, .slice Aw m cw, .int .i64 t, .int .i64 r]) (.loadN (cs := [.int .i64 (((Q : Nat) : Int)), .slice A n c, .slice Aw m cw, .int .i64 t, .int .i64 r]) Tagg_29 rfl (Cells.blk (.tail _ (.head _)) ⟨rfl, rfl, rfl, rfl, rfl, trivial⟩)) ?_
 refine .c (.bool true) [.agg #[.int .i64 (((Q : Nat) : Int)), .slice A n c, .slice Aw m cw, .int .i64 t, .int .i64 r]] Tcall_47 (fun w hs => diag_is hQ hg (hs.sl ha) (hs.sl hw)) ?_
 refine .w (.bool false) ?_
 refine .done ?_
 refine .cond (b := false) rfl (fun h => nomatch h) (fun _ => ?_)
 refine .skip ?_
 refine .sr ?_
 refine .u (.agg #[.int .i64 (((Q : Nat) : Int)), .slice A n c, .slice Aw m cw, .int .i64 t, .int .i64 r]) (.loadN (cs := [.int .i64 (((Q : Nat) : Int)), .slice A n c, .slice Aw m cw, .int .i64 t, .int .i64 r]) Tagg_29 rfl (Cells.blk (.tail _ (.head _)) ⟨rfl, rfl, rfl, rfl, rfl, trivial⟩)) ?_
 refine .step rfl (.storeAll (us := [.int .i64 (((Q : Nat) : Int)), .slice A n c, .slice Aw m cw, .int .i64 t, .int .i64 r]) Tsize_29 rfl rfl rfl (.here _) rfl ?_)
 refine .m ?_
 refine .done ?_
 refine .ret ?_
 refine ⟨.tuple #[.agg #[.int .i64 (((Q : Nat) : Int)), .slice A n c, .slice Aw m cw, .int .i64 t, .int .i64 r], .bool true], [], Out.cell2 rfl Tagg_29 rfl (Cells.blk (.head _) ⟨rfl, rfl, rfl, rfl, rfl, trivial⟩) rfl, (Some'.weak (.nil _)), ?_⟩
 rfl

set_option maxHeartbeats 1000000 in
set_option maxRecDepth 20000 in
theorem checked_false {Q : Nat} {t r : Int} {va vw : Value} {n m : Nat} {L : List N2} {ws : List W3} {w : World} (hQ : 1 ≤ Q ∧ Q ≤ 5) (hg : gdP Q L ws t r = false) (ha : Sl w va 2 n (nds L)) (hw : Sl w vw 3 m (wls ws)) : Calls Try.prog 21 #[.agg #[.int .i64 (Q : Nat), va, vw, .int .i64 t, .int .i64 r]] w (Post No w fun v _ => v = .tuple #[.agg #[.int .i64 0, .slice none 0 0, .slice none 0 0, .int .i64 0, .int .i64 0], .bool false]) := by
 obtain ⟨A, c, rfl, _, _⟩ := ha.form0
 obtain ⟨Aw, cw, rfl, _, _⟩ := hw.form0
 refine enter (n := 9) (args := [.agg #[.int .i64 (((Q : Nat) : Int)), .slice A n c, .slice Aw m cw, .int .i64 t, .int .i64 r]]) Try.func21 rfl rfl (St.empty _ _) ?_
 refine .sr ?_
 refine .step rfl (.box (us := [.int .i64 (((Q : Nat) : Int)), .slice A n c, .slice Aw m cw, .int .i64 t, .int .i64 r]) rfl fun b1 => ?_)
 refine .step rfl (.alloc (zs := [.int .i64 0, .slice none 0 0, .slice none 0 0, .int .i64 0, .int .i64 0]) Tzero_29 fun b2 => ?_)
 refine .m ?_
 refine .done ?_
 refine .seq ?_
 refine .sr ?_
 refine .u (.agg #[.int .i64 (((Q : Nat) : Int)), .slice A n c, .slice Aw m cw, .int .i64 t, .int .i64 r]) (.loadN (cs := [.int .i64 (((Q : Nat) : Int)), .slice A n c, .slice Aw m cw, .int .i64 t, .int .i64 r]) Tagg_29 rfl (Cells.blk (.tail _ (.head _)) ⟨rfl, rfl, rfl, rfl, rfl, trivial⟩)) ?_
 refine .c (.bool false) [.agg #[.int .i64 (((Q : Nat) : Int)), .slice A n c, .slice Aw m cw, .int .i64 t, .int .i64 r]] Tcall_47 (fun w hs => diag_is hQ hg (hs.sl ha) (hs.sl hw)) ?_
 refine .w (.bool true) ?_
 refine .done ?_
 refine .cond (b := true) rfl (fun _ => ?_) (fun h => nomatch h)
 refine .sr ?_
 refine .u (.agg #[.int .i64 0, .slice none 0 0, .slice none 0 0, .int .i64 0, .int .i64 0]) (.build (cs := [.int .i64 0, .slice none 0 0, .slice none 0 0, .int .i64 0, .int .i64 0]) (by kernel_rfl)) ?_
 refine .step rfl (.storeAll (us := [.int .i64 0, .slice none 0 0, .slice none 0 0, .int .i64 0, .int .i64 0]) Tsize_29 rfl rfl rfl (.here _) rfl ?_)
 refine .m ?_
 refine .done ?_
 refine .ret ?_
 refine ⟨.tuple #[.agg #[.int .i64 0, .slice none 0 0, .slice none 0 0, .int .i64 0, .int .i64 0], .bool false], [], Out.cell2 rfl Tagg_29 rfl (Cells.blk (.head _) ⟨rfl, rfl, rfl, rfl, rfl, trivial⟩) rfl, (Some'.weak (.nil _)), ?_⟩
 rfl

set_option maxHeartbeats 1000000 in
set_option maxRecDepth 20000 in
theorem DiagramOf_a {N : Int} {n : Nat} {va : Value} {xs : List Int} {w : World} (hc : circOk N xs n = false) (hxs : Sl w va 3 n (ints xs)) : Calls Try.prog 7 #[.agg #[.int .i64 N, va]] w (Post No w fun v H => ∃ vn vw, v = .tuple #[.agg #[.int .i64 0, vn, vw, .int .i64 0, .int .i64 0], .bool false] ∧ H = [.own vn 52 2 ([] : List N2).length (nds ([] : List N2)), .own vw 71 3 ([] : List W3).length (wls ([] : List W3))]) := by
 obtain ⟨A, c, rfl, _, _⟩ := hxs.form0
 refine enter (n := 79) (args := [.agg #[.int .i64 N, .slice A n c]]) Try.func7 rfl rfl (St.empty _ _) ?_
 refine .sr ?_
 refine .step rfl (.box (us := [.int .i64 N, .slice A n c]) rfl fun b1 => ?_)
 refine .step rfl (.alloc (zs := [.int .i64 0, .slice none 0 0, .slice none 0 0, .int .i64 0, .int .i64 0]) Tzero_29 fun b2 => ?_)
 refine .m ?_
 refine .done ?_
 refine .seq ?_
 refine .sr ?_
 refine .u (.agg #[.int .i64 N, .slice A n c]) (.loadN (cs := [.int .i64 N, .slice A n c]) Tagg_34 rfl (Cells.blk (.tail _ (.head _)) ⟨rfl, rfl, trivial⟩)) ?_
 refine .c (.bool false) [.agg #[.int .i64 N, .slice A n c]] Tcall_18 (fun w hs => valid_is hc (hs.sl hxs)) ?_
 refine .w (.bool true) ?_
 refine .done ?_
 refine .cond (b := true) rfl (fun _ => ?_) (fun h => nomatch h)
 refine .seq ?_
 refine Run.weak (H' := [.own (.slice none 0 0) 52 2 0 (nds []), .blk b2 29 [.int .i64 0, .slice none 0 0, .slice none 0 0, .int .i64 0, .int .i64 0], .blk b1 34 [.int .i64 N, .slice A n c]]) (Weak.nilOwn _ _) ?_ ⟨_, _, rfl, fun _ => nofun, fun _ => nofun⟩
 refine Run.weak (H' := [.own (.slice none 0 0) 71 3 0 (wls []), .own (.slice none 0 0) 52 2 0 (nds []), .blk b2 29 [.int .i64 0, .slice none 0 0, .slice none 0 0, .int .i64 0, .int .i64 0], .blk b1 34 [.int .i64 N, .slice A n c]]) (Weak.nilOwn _ _) ?_ ⟨_, _, rfl, fun _ => nofun, fun _ => nofun⟩
 refine .region ?_
 refine .u (.agg #[.int .i64 0, .slice none 0 0, .slice none 0 0, .int .i64 0, .int .i64 0]) (.build (cs := [.int .i64 0, .slice none 0 0, .slice none 0 0, .int .i64 0, .int .i64 0]) (by kernel_rfl)) ?_
 refine .step rfl (.storeAll (us := [.int .i64 0, .slice none 0 0, .slice none 0 0, .int .i64 0, .int .i64 0]) Tsize_29 rfl rfl rfl (.there _ (.there _ (.here _))) rfl ?_)
 refine .m ?_
 refine .done ?_
 refine .ret ?_
 refine ⟨.tuple #[.agg #[.int .i64 0, .slice none 0 0, .slice none 0 0, .int .i64 0, .int .i64 0], .bool false], [.own (.slice none 0 0) 52 2 0 (nds []), .own (.slice none 0 0) 71 3 0 (wls [])], Out.cell2 rfl Tagg_29 rfl (Cells.blk (.tail _ (.tail _ (.head _))) ⟨rfl, rfl, rfl, rfl, rfl, trivial⟩) rfl, ((Weak.selF [1, 0]).trans (Some'.weak (.take (.take (.nil _))))), ?_⟩
 exact ⟨_, _, rfl, rfl⟩

set_option maxHeartbeats 4000000 in
set_option maxRecDepth 20000 in
theorem DiagramOf_true {Q n : Nat} {va : Value} {xs : List Int} {w : World} (hQ : 1 ≤ Q ∧ Q ≤ 5) (hn4 : n ≤ 400) (hgs : ∀ i, i < n → gateAt (Q : Int) xs i = true) (hxs : Sl w va 3 n (ints xs)) (hc : circOk (Q : Nat) xs n = true) (hg : dgGood Q xs n = true) : Calls Try.prog 7 #[.agg #[.int .i64 (Q : Nat), va]] w (Post No w fun v H => ∃ vn vw, v = .tuple #[.agg #[.int .i64 (Q : Nat), vn, vw, .int .i64 (DgS.runT xs n % 8), .int .i64 (DgS.fin Q xs n).rt], .bool true] ∧ H = [.own vn 52 2 (DgS.fin Q xs n).ns.length (nds (DgS.fin Q xs n).ns), .own vw 71 3 (DgS.fin Q xs n).ws.length (wls (DgS.fin Q xs n).ws)]) := by
 have hxl := hxs.len
 have hnle := hxs.le
 obtain ⟨A, c, rfl, _, _⟩ := hxs.form0
 have h0n : (DgS.st0 Q).ns.length = Q := by simp [DgS.st0]
 have h0l : (DgS.st0 Q).la.length = Q := by simp [DgS.st0]
 have hbT := DgS.runT_bd xs n
 refine enter (n := 79) (args := [.agg #[.int .i64 (((Q : Nat) : Int)), .slice A n c]]) Try.func7 rfl rfl (St.empty _ _) ?_
 refine .sr ?_
 refine .step rfl (.box (us := [.int .i64 (((Q : Nat) : Int)), .slice A n c]) rfl fun b1 => ?_)
 refine .step rfl (.alloc (zs := [.int .i64 0, .slice none 0 0, .slice none 0 0, .int .i64 0, .int .i64 0]) Tzero_29 fun b2 => ?_)
 refine .m ?_
 refine .done ?_
 refine .seq ?_
 refine .sr ?_
 refine .u (.agg #[.int .i64 (((Q : Nat) : Int)), .slice A n c]) (.loadN (cs := [.int .i64 (((Q : Nat) : Int)), .slice A n c]) Tagg_34 rfl (Cells.blk (.tail _ (.head _)) ⟨rfl, rfl, trivial⟩)) ?_
 refine .c (.bool true) [.agg #[.int .i64 (((Q : Nat) : Int)), .slice A n c]] Tcall_18 (fun w hs => valid_is hc (hs.sl hxs)) ?_
 refine .w (.bool false) ?_
 refine .done ?_
 refine .cond (b := false) rfl (fun h => nomatch h) (fun _ => ?_)
 refine .skip ?_
 refine .seq ?_
 refine .held (by kernel_rfl) ?_
 refine DW.t 0 rfl (Weak.refl _) (.pointer (some ⟨b1, 0, none⟩)) (.fieldAddr Tfo_34_0 rfl rfl) ?_
 refine DW.t 1 rfl (Weak.refl _) (.int .i64 (((Q : Nat) : Int))) (.load1 Tone_3 rfl (.b (.tail _ (.head _)))) ?_
 refine DW.t 2 rfl (Weak.refl _) (.agg #[.int .i64 (((Q : Nat) : Int)), .slice none 0 0, .slice none 0 0, .int .i64 0, .int .i64 0]) (.build (cs := [.int .i64 (((Q : Nat) : Int)), .slice none 0 0, .slice none 0 0, .int .i64 0, .int .i64 0]) (by kernel_rfl)) ?_
 refine DW.t 3 rfl (Weak.refl _) (.pointer (some ⟨b1, 0, none⟩)) (.fieldAddr Tfo_34_0 rfl rfl) ?_
 refine DW.t 4 rfl (Weak.refl _) (.int .i64 (((Q : Nat) : Int))) (.load1 Tone_3 rfl (.b (.tail _ (.head _)))) ?_
 refine DW.step (i := 5) (by kernel_rfl) rfl rfl (OpStep.makeSlice (n := Q) Tsl_47 rfl (by decide) (by first | rfl | omega) (by first | rfl | omega) (by omega) (by simp only [maxLen]; omega) fun b3 => ?_)
 refine ⟨(Some'.weak (.skip (.take (.take (.nil _))))), ?_⟩
 refine DW.t 6 rfl (Some'.weak (.skip (.take (.take (.nil _))))) (.agg #[.int .i64 (((Q : Nat) : Int)), .slice none 0 0, .slice none 0 0, .int .i64 0, .int .i64 0, .slice none 0 0, .slice (some ⟨b3, 0, none⟩) Q Q]) (.build (cs := [.int .i64 (((Q : Nat) : Int)), .slice none 0 0, .slice none 0 0, .int .i64 0, .int .i64 0, .slice none 0 0, .slice (some ⟨b3, 0, none⟩) Q Q]) (by kernel_rfl)) ?_
 refine DW.step (i := 7) (by kernel_rfl) rfl rfl (OpStep.box (us := [.int .i64 (((Q : Nat) : Int)), .slice none 0 0, .slice none 0 0, .int .i64 0, .int .i64 0, .slice none 0 0, .slice (some ⟨b3, 0, none⟩) Q Q]) rfl fun b4 => ?_)
 refine ⟨(Some'.weak (.skip (.skip (.take (.take (.nil _)))))), ?_⟩
 refine DW.m 8 rfl (Some'.weak (.skip (.skip (.take (.take (.nil _)))))) ?_
 refine DW.done (by kernel_rfl) ?_
 refine .seq ?_
 refine .seq ?_
 refine Run.weak (H' := [.blk b4 50 [.int .i64 (((Q : Nat) : Int)), .slice none 0 0, .slice none 0 0, .int .i64 0, .int .i64 0, .slice none 0 0, .slice (some ⟨b3, 0, none⟩) Q Q], .own (.slice (some ⟨b3, 0, none⟩) Q Q) 4 1 Q (bls (DgS.st0 Q).ha), .blk b2 29 [.int .i64 0, .slice none 0 0, .slice none 0 0, .int .i64 0, .int .i64 0], .blk b1 34 [.int .i64 (((Q : Nat) : Int)), .slice A n c]]) (Some'.weak (.take (.takeEq (by rw [bls_rep]; rfl) (.take (.take (.nil _)))))) ?_ ⟨_, _, rfl, fun _ => nofun, fun _ => nofun⟩
 refine Run.weak (H' := [.own (.slice none 0 0) 52 2 0 (nds []), .blk b4 50 [.int .i64 (((Q : Nat) : Int)), .slice none 0 0, .slice none 0 0, .int .i64 0, .int .i64 0, .slice none 0 0, .slice (some ⟨b3, 0, none⟩) Q Q], .own (.slice (some ⟨b3, 0, none⟩) Q Q) 4 1 Q (bls (DgS.st0 Q).ha), .blk b2 29 [.int .i64 0, .slice none 0 0, .slice none 0 0, .int .i64 0, .int .i64 0], .blk b1 34 [.int .i64 (((Q : Nat) : Int)), .slice A n c]]) (Weak.nilOwn _ _) ?_ ⟨_, _, rfl, fun _ => nofun, fun _ => nofun⟩
 refine Run.weak (H' := [.own (.slice none 0 0) 3 1 0 (ints []), .own (.slice none 0 0) 52 2 0 (nds []), .blk b4 50 [.int .i64 (((Q : Nat) : Int)), .slice none 0 0, .slice none 0 0, .int .i64 0, .int .i64 0, .slice none 0 0, .slice (some ⟨b3, 0, none⟩) Q Q], .own (.slice (some ⟨b3, 0, none⟩) Q Q) 4 1 Q (bls (DgS.st0 Q).ha), .blk b2 29 [.int .i64 0, .slice none 0 0, .slice none 0 0, .int .i64 0, .int .i64 0], .blk b1 34 [.int .i64 (((Q : Nat) : Int)), .slice A n c]]) (Weak.nilOwn _ _) ?_ ⟨_, _, rfl, fun _ => nofun, fun _ => nofun⟩
 refine .region ?_
 refine .fa Tfo_34_0 ?_
 refine .u (.int .i64 (((Q : Nat) : Int))) (.load1 Tone_3 rfl (.b (.tail _ (.tail _ (.tail _ (.tail _ (.tail _ (.head _)))))))) ?_
 refine .m ?_
 refine .done ?_
 refine .block ?_
 refine Run.loop (ι := Nat × Value × Value) [5, 23, 24, 25, 26, 27, 28, 29, 30, 31, 32, 33, 34, 35, 36, 37, 38, 39, 40, 41, 42, 43, 44, 45, 46, 47, 48, 49] (fun ⟨q, v1, v2⟩ => [(23, .int .i64 (((q : Nat) : Int)))]) (fun ⟨q, v1, v2⟩ => [.blk b4 50 [.int .i64 (((Q : Nat) : Int)), v1, .slice none 0 0, .int .i64 0, .int .i64 0, v2, .slice (some ⟨b3, 0, none⟩) Q Q], .own v1 52 2 q (nds ((DgS.st0 Q).ns.take q)), .own v2 3 1 q (ints ((DgS.st0 Q).la.take q)), .own (.slice (some ⟨b3, 0, none⟩) Q Q) 4 1 Q (bls (DgS.st0 Q).ha), .blk b2 29 [.int .i64 0, .slice none 0 0, .slice none 0 0, .int .i64 0, .int .i64 0], .blk b1 34 [.int .i64 (((Q : Nat) : Int)), .slice A n c]]) (fun ⟨q, v1, v2⟩ => q ≤ Q) (fun ⟨q, v1, v2⟩ => Q - q) (0, .slice none 0 0, .slice none 0 0) ?_ ?_ ?_ ?_
 ·exact Nat.zero_le _
 ·exact ⟨rfl, trivial⟩
 ·exact ((Weak.selF [2, 1, 0, 0, 0, 0]).trans (Some'.weak (.takeEq (by first | rfl | simp) (.takeEq (by first | rfl | simp) (.takeEq (by first | rfl | simp) (.take (.take (.take (.nil _)))))))))
 rintro ⟨q, v1, v2⟩ fr hinv
 show Run _ _ (over _ _ [(23, .int .i64 (((q : Nat) : Int)))] fr) [.blk b4 50 [.int .i64 (((Q : Nat) : Int)), v1, .slice none 0 0, .int .i64 0, .int .i64 0, v2, .slice (some ⟨b3, 0, none⟩) Q Q], .own v1 52 2 q (nds ((DgS.st0 Q).ns.take q)), .own v2 3 1 q (ints ((DgS.st0 Q).la.take q)), .own (.slice (some ⟨b3, 0, none⟩) Q Q) 4 1 Q (bls (DgS.st0 Q).ha), .blk b2 29 [.int .i64 0, .slice none 0 0, .slice none 0 0, .int .i64 0, .int .i64 0], .blk b1 34 [.int .i64 (((Q : Nat) : Int)), .slice A n c]]
 try dsimp only at hinv
 refine .sr ?_
 refine .w (.bool (decide ((((q : Nat) : Int)) < (((Q : Nat) : Int))))) ?_
 refine .done ?_
 refine .seq ?_
 refine .cond (b := decide ((((q : Nat) : Int)) < (((Q : Nat) : Int)))) rfl (fun h24 => ?_) (fun h24 => ?_)
 ·have p24 := h24; try simp only [bs] at p24
  refine .skip ?_
  refine .seq ?_
  refine .block ?_
  refine .sr ?_
  iterate 2 refine .m ?_
  refine .dsr ?_
  iterate 2 refine .m ?_
  refine .u (.pointer (some ⟨b4, 0, none⟩)) (.nilCheck rfl) ?_
  refine .fa Tfo_50_0 ?_
  refine .fa Tfo_29_1 ?_
  refine .u v1 (.load1 Tone_26 rfl (.b (.head _))) ?_
  refine .m ?_
  refine .u (.agg #[.int .i64 1, .int .i64 (((q : Nat) : Int))]) (.build (cs := [.int .i64 1, .int .i64 (((q : Nat) : Int))]) (by kernel_rfl)) ?_
  refine .step rfl (.buildSlice (us := [.int .i64 1, .int .i64 (((q : Nat) : Int))]) Tsl_26 (by decide) (by decide) ⟨rfl, [.int .i64 1, .int .i64 (((q : Nat) : Int))], _, rfl, rfl, rfl, rfl⟩ rfl fun b5 => ?_)
  refine .step rfl (.append (H1 := [.own (.slice (some ⟨b5, 0, none⟩) 1 1) 52 2 1 ([.int .i64 1, .int .i64 (((q : Nat) : Int))]), .blk b4 50 [.int .i64 (((Q : Nat) : Int)), v1, .slice none 0 0, .int .i64 0, .int .i64 0, v2, .slice (some ⟨b3, 0, none⟩) Q Q]]) (H2 := [.own v2 3 1 q (ints ((DgS.st0 Q).la.take q)), .own (.slice (some ⟨b3, 0, none⟩) Q Q) 4 1 Q (bls (DgS.st0 Q).ha), .blk b2 29 [.int .i64 0, .slice none 0 0, .slice none 0 0, .int .i64 0, .int .i64 0], .blk b1 34 [.int .i64 (((Q : Nat) : Int)), .slice A n c]]) (v := v1) (u := .slice (some ⟨b5, 0, none⟩) 1 1) (n := q) (m := 1) (xs := nds ((DgS.st0 Q).ns.take q)) (ys := [.int .i64 1, .int .i64 (((q : Nat) : Int))]) Tsl_26 (by decide) rfl rfl rfl rfl (fun w hs => hs.slOwn (.head _)) (by simp [Value.oneCell']) (by omega) (by simp only [maxLen]; omega) fun av1 hnav1 => ?_)
  refine Run.weak (H' := [.own (.slice (some ⟨b5, 0, none⟩) 1 1) 52 2 1 ([.int .i64 1, .int .i64 (((q : Nat) : Int))]), .blk b4 50 [.int .i64 (((Q : Nat) : Int)), v1, .slice none 0 0, .int .i64 0, .int .i64 0, v2, .slice (some ⟨b3, 0, none⟩) Q Q], .own av1 52 2 (q + 1) (nds ((DgS.st0 Q).ns.take (q + 1))), .own v2 3 1 q (ints ((DgS.st0 Q).la.take q)), .own (.slice (some ⟨b3, 0, none⟩) Q Q) 4 1 Q (bls (DgS.st0 Q).ha), .blk b2 29 [.int .i64 0, .slice none 0 0, .slice none 0 0, .int .i64 0, .int .i64 0], .blk b1 34 [.int .i64 (((Q : Nat) : Int)), .slice A n c]]) (Some'.weak (.take (.take (.takeEq (by rw [DgS.st0_ns Q q (by omega), nds_append, nds_one]) (.take (.take (.take (.take (.nil _))))))))) ?_ ⟨_, _, rfl, fun _ => nofun, fun _ => nofun⟩
  refine .u (.pointer (some ⟨b4, 0, none⟩)) (.nilCheck rfl) ?_
  refine .fa Tfo_50_0 ?_
  refine .fa Tfo_29_1 ?_
  refine Run.formOwn (.tail _ (.tail _ (.head _))) (fun A_av11 c_av11 hv hcapc_av11 hmaxc_av11 => ?_) (fun _ _ _ => ⟨nofun, nofun, nofun⟩)
  subst hv
  refine .step rfl (.store (us := [.slice A_av11 (q + 1) c_av11]) Tsize_26 rfl rfl rfl (.there _ (.here _)) (by simp only [List.length_cons, List.length_nil]; omega) ?_)
  show Run _ _ _ [.own (.slice (some ⟨b5, 0, none⟩) 1 1) 52 2 1 ([.int .i64 1, .int .i64 (((q : Nat) : Int))]), .blk b4 50 [.int .i64 (((Q : Nat) : Int)), .slice A_av11 (q + 1) c_av11, .slice none 0 0, .int .i64 0, .int .i64 0, v2, .slice (some ⟨b3, 0, none⟩) Q Q], .own (.slice A_av11 (q + 1) c_av11) 52 2 (q + 1) (nds ((DgS.st0 Q).ns.take (q + 1))), .own v2 3 1 q (ints ((DgS.st0 Q).la.take q)), .own (.slice (some ⟨b3, 0, none⟩) Q Q) 4 1 Q (bls (DgS.st0 Q).ha), .blk b2 29 [.int .i64 0, .slice none 0 0, .slice none 0 0, .int .i64 0, .int .i64 0], .blk b1 34 [.int .i64 (((Q : Nat) : Int)), .slice A n c]]
  refine .dr ?_
  iterate 2 refine .m ?_
  refine .u (.pointer (some ⟨b4, 0, none⟩)) (.nilCheck rfl) ?_
  refine .fa Tfo_50_1 ?_
  refine .u v2 (.load1 Tone_48 rfl (.b (.tail _ (.head _)))) ?_
  refine .m ?_
  refine .step rfl (.buildSlice (us := [.int .i64 (((q : Nat) : Int))]) Tsl_48 (by decide) (by decide) ⟨rfl, [.int .i64 (((q : Nat) : Int))], _, rfl, rfl, rfl, rfl⟩ rfl fun b6 => ?_)
  refine .step rfl (.append (H1 := [.own (.slice (some ⟨b6, 0, none⟩) 1 1) 3 1 1 ([.int .i64 (((q : Nat) : Int))]), .own (.slice (some ⟨b5, 0, none⟩) 1 1) 52 2 1 ([.int .i64 1, .int .i64 (((q : Nat) : Int))]), .blk b4 50 [.int .i64 (((Q : Nat) : Int)), .slice A_av11 (q + 1) c_av11, .slice none 0 0, .int .i64 0, .int .i64 0, v2, .slice (some ⟨b3, 0, none⟩) Q Q], .own (.slice A_av11 (q + 1) c_av11) 52 2 (q + 1) (nds ((DgS.st0 Q).ns.take (q + 1)))]) (H2 := [.own (.slice (some ⟨b3, 0, none⟩) Q Q) 4 1 Q (bls (DgS.st0 Q).ha), .blk b2 29 [.int .i64 0, .slice none 0 0, .slice none 0 0, .int .i64 0, .int .i64 0], .blk b1 34 [.int .i64 (((Q : Nat) : Int)), .slice A n c]]) (v := v2) (u := .slice (some ⟨b6, 0, none⟩) 1 1) (n := q) (m := 1) (xs := ints ((DgS.st0 Q).la.take q)) (ys := [.int .i64 (((q : Nat) : Int))]) Tsl_48 (by decide) rfl rfl rfl rfl (fun w hs => hs.slOwn (.head _)) (by simp [Value.oneCell']) (by omega) (by simp only [maxLen]; omega) fun av2 hnav2 => ?_)
  refine Run.weak (H' := [.own (.slice (some ⟨b6, 0, none⟩) 1 1) 3 1 1 ([.int .i64 (((q : Nat) : Int))]), .own (.slice (some ⟨b5, 0, none⟩) 1 1) 52 2 1 ([.int .i64 1, .int .i64 (((q : Nat) : Int))]), .blk b4 50 [.int .i64 (((Q : Nat) : Int)), .slice A_av11 (q + 1) c_av11, .slice none 0 0, .int .i64 0, .int .i64 0, v2, .slice (some ⟨b3, 0, none⟩) Q Q], .own (.slice A_av11 (q + 1) c_av11) 52 2 (q + 1) (nds ((DgS.st0 Q).ns.take (q + 1))), .own av2 3 1 (q + 1) (ints ((DgS.st0 Q).la.take (q + 1))), .own (.slice (some ⟨b3, 0, none⟩) Q Q) 4 1 Q (bls (DgS.st0 Q).ha), .blk b2 29 [.int .i64 0, .slice none 0 0, .slice none 0 0, .int .i64 0, .int .i64 0], .blk b1 34 [.int .i64 (((Q : Nat) : Int)), .slice A n c]]) (Some'.weak (.take (.take (.take (.take (.takeEq (by rw [DgS.st0_la Q q (by omega), ints_append]; rfl) (.take (.take (.take (.nil _)))))))))) ?_ ⟨_, _, rfl, fun _ => nofun, fun _ => nofun⟩
  refine .u (.pointer (some ⟨b4, 0, none⟩)) (.nilCheck rfl) ?_
  refine .fa Tfo_50_1 ?_
  refine Run.formOwn (.tail _ (.tail _ (.tail _ (.tail _ (.head _))))) (fun A_av21 c_av21 hv hcapc_av21 hmaxc_av21 => ?_) (fun _ _ _ => ⟨nofun, nofun, nofun⟩)
  subst hv
  refine .step rfl (.store (us := [.slice A_av21 (q + 1) c_av21]) Tsize_48 rfl rfl rfl (.there _ (.there _ (.here _))) (by simp only [List.length_cons, List.length_nil]; omega) ?_)
  show Run _ _ _ [.own (.slice (some ⟨b6, 0, none⟩) 1 1) 3 1 1 ([.int .i64 (((q : Nat) : Int))]), .own (.slice (some ⟨b5, 0, none⟩) 1 1) 52 2 1 ([.int .i64 1, .int .i64 (((q : Nat) : Int))]), .blk b4 50 [.int .i64 (((Q : Nat) : Int)), .slice A_av11 (q + 1) c_av11, .slice none 0 0, .int .i64 0, .int .i64 0, .slice A_av21 (q + 1) c_av21, .slice (some ⟨b3, 0, none⟩) Q Q], .own (.slice A_av11 (q + 1) c_av11) 52 2 (q + 1) (nds ((DgS.st0 Q).ns.take (q + 1))), .own (.slice A_av21 (q + 1) c_av21) 3 1 (q + 1) (ints ((DgS.st0 Q).la.take (q + 1))), .own (.slice (some ⟨b3, 0, none⟩) Q Q) 4 1 Q (bls (DgS.st0 Q).ha), .blk b2 29 [.int .i64 0, .slice none 0 0, .slice none 0 0, .int .i64 0, .int .i64 0], .blk b1 34 [.int .i64 (((Q : Nat) : Int)), .slice A n c]]
  refine .done ?_
  refine .blockEnd ?_
  refine .region ?_
  refine .u (.int .i64 ((((q : Nat) : Int)) + 1)) (.add rfl rfl rfl (by omega) (by omega)) ?_
  refine .m ?_
  refine .done ?_
  refine .goal ⟨(by repeat (first | exact Same.refl _ _ | refine Same.put rfl ?_ | refine Same.over rfl rfl ?_)), (q + 1, .slice A_av11 (q + 1) c_av11, .slice A_av21 (q + 1) c_av21), ?_, ?_, ?_, ?_⟩
  ·show q + 1 ≤ Q; omega
  ·show Q - (q + 1) < Q - q; omega
  ·exact ⟨(by first | rfl | (congr 1; omega) | simp), trivial⟩
  ·exact ((Weak.selF [2, 2, 2, 2, 2, 2]).trans (Some'.weak (.takeEq (by first | rfl | simp) (.takeEq (by first | rfl | simp) (.takeEq (by first | rfl | simp) (.takeEq (by first | rfl | simp) (.take (.take (.nil _)))))))))
 have p24 := h24; try simp only [bs] at p24
 have hqQ : q = Q := by omega
 have hq1 : (DgS.st0 Q).ns.take Q = (DgS.st0 Q).ns := List.take_of_length_le (by omega)
 have hq2 : (DgS.st0 Q).la.take Q = (DgS.st0 Q).la := List.take_of_length_le (by omega)
 refine .exit rfl ?_
 refine .seq ?_
 refine .seq ?_
 refine Run.weak (H' := [.own (.slice none 0 0) 71 3 0 (wls []), .blk b4 50 [.int .i64 (((Q : Nat) : Int)), v1, .slice none 0 0, .int .i64 0, .int .i64 0, v2, .slice (some ⟨b3, 0, none⟩) Q Q], .own v1 52 2 q (nds ((DgS.st0 Q).ns.take q)), .own v2 3 1 q (ints ((DgS.st0 Q).la.take q)), .own (.slice (some ⟨b3, 0, none⟩) Q Q) 4 1 Q (bls (DgS.st0 Q).ha), .blk b2 29 [.int .i64 0, .slice none 0 0, .slice none 0 0, .int .i64 0, .int .i64 0], .blk b1 34 [.int .i64 (((Q : Nat) : Int)), .slice A n c]]) (Weak.nilOwn _ _) ?_ ⟨_, _, rfl, fun _ => nofun, fun _ => nofun⟩
 refine .region ?_
 refine .fa Tfo_34_1 ?_
 refine .u (.slice A n c) (.load1 Tone_32 rfl (.b (.tail _ (.tail _ (.tail _ (.tail _ (.tail _ (.tail _ (.head _))))))))) ?_
 refine .u (.int .i64 (((n : Nat) : Int))) (.len Tsl_32 rfl) ?_
 refine .m ?_
 refine .done ?_
 refine .block ?_
 refine Run.loop (ι := Nat × Value × Value) [7, 53, 54, 55, 56, 57, 58, 59, 60] (fun ⟨i, v3, v4⟩ => [(53, .int .i64 (((i : Nat) : Int)))]) (fun ⟨i, v3, v4⟩ => [.blk b4 50 [.int .i64 (((Q : Nat) : Int)), v3, v4, .int .i64 (DgS.runT xs i % 8), .int .i64 ((DgS.runG Q xs i).rt), v2, .slice (some ⟨b3, 0, none⟩) Q Q], .own v3 52 2 ((DgS.runG Q xs i).ns.length) (nds (DgS.runG Q xs i).ns), .own v4 71 3 ((DgS.runG Q xs i).ws.length) (wls (DgS.runG Q xs i).ws), .own v2 3 1 Q (ints (DgS.runG Q xs i).la), .own (.slice (some ⟨b3, 0, none⟩) Q Q) 4 1 Q (bls (DgS.runG Q xs i).ha), .blk b2 29 [.int .i64 0, .slice none 0 0, .slice none 0 0, .int .i64 0, .int .i64 0], .blk b1 34 [.int .i64 (((Q : Nat) : Int)), .slice A n c]]) (fun ⟨i, v3, v4⟩ => i ≤ n) (fun ⟨i, v3, v4⟩ => n - i) (0, v1, .slice none 0 0) ?_ ?_ ?_ ?_
 ·exact Nat.zero_le _
 ·exact ⟨rfl, trivial⟩
 ·exact ((Weak.selF [1, 1, 0, 0, 0, 0, 0]).trans (Some'.weak (.takeEq (by first | rfl | (show _ = Res.own _ _ _ (DgS.st0 Q).ns.length (nds (DgS.st0 Q).ns); rw [hqQ, hq1, h0n]; done) | (show _ = Res.own _ _ _ _ (ints (DgS.st0 Q).la); rw [hqQ, hq2]; done) | (rw [hRG]; done) | (rw [hRG, hRT]; done) | (rw [hRG, hRT, Int.emod_add_emod]; done) | (simp [DgS.runG, DgS.runT, DgS.st0]; done)) (.takeEq (by first | rfl | (show _ = Res.own _ _ _ (DgS.st0 Q).ns.length (nds (DgS.st0 Q).ns); rw [hqQ, hq1, h0n]; done) | (show _ = Res.own _ _ _ _ (ints (DgS.st0 Q).la); rw [hqQ, hq2]; done) | (rw [hRG]; done) | (rw [hRG, hRT]; done) | (rw [hRG, hRT, Int.emod_add_emod]; done) | (simp [DgS.runG, DgS.runT, DgS.st0]; done)) (.takeEq (by first | rfl | (show _ = Res.own _ _ _ (DgS.st0 Q).ns.length (nds (DgS.st0 Q).ns); rw [hqQ, hq1, h0n]; done) | (show _ = Res.own _ _ _ _ (ints (DgS.st0 Q).la); rw [hqQ, hq2]; done) | (rw [hRG]; done) | (rw [hRG, hRT]; done) | (rw [hRG, hRT, Int.emod_add_emod]; done) | (simp [DgS.runG, DgS.runT, DgS.st0]; done)) (.takeEq (by first | rfl | (show _ = Res.own _ _ _ (DgS.st0 Q).ns.length (nds (DgS.st0 Q).ns); rw [hqQ, hq1, h0n]; done) | (show _ = Res.own _ _ _ _ (ints (DgS.st0 Q).la); rw [hqQ, hq2]; done) | (rw [hRG]; done) | (rw [hRG, hRT]; done) | (rw [hRG, hRT, Int.emod_add_emod]; done) | (simp [DgS.runG, DgS.runT, DgS.st0]; done)) (.takeEq (by first | rfl | (show _ = Res.own _ _ _ (DgS.st0 Q).ns.length (nds (DgS.st0 Q).ns); rw [hqQ, hq1, h0n]; done) | (show _ = Res.own _ _ _ _ (ints (DgS.st0 Q).la); rw [hqQ, hq2]; done) | (rw [hRG]; done) | (rw [hRG, hRT]; done) | (rw [hRG, hRT, Int.emod_add_emod]; done) | (simp [DgS.runG, DgS.runT, DgS.st0]; done)) (.take (.take (.nil _))))))))))
 rintro ⟨i, v3, v4⟩ fr hinv
 show Run _ _ (over _ _ [(53, .int .i64 (((i : Nat) : Int)))] fr) [.blk b4 50 [.int .i64 (((Q : Nat) : Int)), v3, v4, .int .i64 (DgS.runT xs i % 8), .int .i64 ((DgS.runG Q xs i).rt), v2, .slice (some ⟨b3, 0, none⟩) Q Q], .own v3 52 2 ((DgS.runG Q xs i).ns.length) (nds (DgS.runG Q xs i).ns), .own v4 71 3 ((DgS.runG Q xs i).ws.length) (wls (DgS.runG Q xs i).ws), .own v2 3 1 Q (ints (DgS.runG Q xs i).la), .own (.slice (some ⟨b3, 0, none⟩) Q Q) 4 1 Q (bls (DgS.runG Q xs i).ha), .blk b2 29 [.int .i64 0, .slice none 0 0, .slice none 0 0, .int .i64 0, .int .i64 0], .blk b1 34 [.int .i64 (((Q : Nat) : Int)), .slice A n c]]
 try dsimp only at hinv
 refine .sr ?_
 refine .w (.bool (decide ((((i : Nat) : Int)) < (((n : Nat) : Int))))) ?_
 refine .done ?_
 refine .seq ?_
 refine .cond (b := decide ((((i : Nat) : Int)) < (((n : Nat) : Int)))) rfl (fun h54 => ?_) (fun h54 => ?_)
 ·have p54 := h54; try simp only [bs] at p54
  have hgi := hgs i (by omega)
  have hgd := DgS.gateAt_split hgi hQ.1
  obtain ⟨k, hk⟩ : ∃ k, ix xs (i * 3) = k := ⟨_, rfl⟩
  obtain ⟨a, ha1⟩ : ∃ a, (ix xs (i * 3 + 1)).toNat = a := ⟨_, rfl⟩
  obtain ⟨b, hb1⟩ : ∃ b, (ix xs (i * 3 + 2)).toNat = b := ⟨_, rfl⟩
  have ha0 : ix xs (i * 3 + 1) = (a : Nat) := by omega
  have hb0 : ix xs (i * 3 + 2) = (b : Nat) := by omega
  rw [hk, ha1, hb1] at hgd
  have hRG : DgS.runG Q xs (i + 1) = (DgS.runG Q xs i).gate k a b := by rw [DgS.runG, hk, ha1, hb1]
  have hRT : DgS.runT xs (i + 1) = DgS.runT xs i + DgS.tn k := by rw [DgS.runT, hk]
  have hok := DgS.runG_ok hQ hgs i (by omega)
  have hTb := DgS.runT_bd xs i
  obtain ⟨ba, oa, rfl⟩ := hxs.opn (by omega)
  refine .skip ?_
  refine .seq ?_
  refine .block ?_
  refine .sr ?_
  refine .u (.pointer (some ⟨ba, oa + i * 3, none⟩)) (.ix i Tsl_32) ?_
  refine .u (.agg #[.int .i64 k, .int .i64 (((a : Nat) : Int)), .int .i64 (((b : Nat) : Int))]) (.loadN (cs := [.int .i64 k, .int .i64 (((a : Nat) : Int)), .int .i64 (((b : Nat) : Int))]) Tagg_54 rfl (Cells.arg (k := i * 3) hxs rfl (by omega) (by have h := pre3 (xs := xs) (o := i * 3) (by omega); rw [hk, ha0, hb0] at h; exact h))) ?_
  refine .step rfl (.alloc (zs := [.int .i64 0, .int .i64 0, .int .i64 0]) Tzero_54 fun b7 => ?_)
  refine .step rfl (.storeAll (us := [.int .i64 k, .int .i64 (((a : Nat) : Int)), .int .i64 (((b : Nat) : Int))]) Tsize_54 rfl rfl rfl (.here _) rfl ?_)
  refine .dr ?_
  refine .m ?_
  refine .u (.agg #[.int .i64 k, .int .i64 (((a : Nat) : Int)), .int .i64 (((b : Nat) : Int))]) (.loadN (cs := [.int .i64 k, .int .i64 (((a : Nat) : Int)), .int .i64 (((b : Nat) : Int))]) Tagg_54 rfl (Cells.blk (.head _) ⟨rfl, rfl, rfl, trivial⟩)) ?_
  refine .step rfl (.callM (H1 := [.blk b4 50 [.int .i64 (((Q : Nat) : Int)), v3, v4, .int .i64 (DgS.runT xs i % 8), .int .i64 ((DgS.runG Q xs i).rt), v2, .slice (some ⟨b3, 0, none⟩) Q Q], .own v3 52 2 ((DgS.runG Q xs i).ns.length) (nds (DgS.runG Q xs i).ns), .own v4 71 3 ((DgS.runG Q xs i).ws.length) (wls (DgS.runG Q xs i).ws), .own v2 3 1 Q (ints (DgS.runG Q xs i).la), .own (.slice (some ⟨b3, 0, none⟩) Q Q) 4 1 Q (bls (DgS.runG Q xs i).ha)]) (H2 := [.blk b7 54 [.int .i64 k, .int .i64 (((a : Nat) : Int)), .int .i64 (((b : Nat) : Int))], .blk b2 29 [.int .i64 0, .slice none 0 0, .slice none 0 0, .int .i64 0, .int .i64 0], .blk b1 34 [.int .i64 (((Q : Nat) : Int)), .slice (some ⟨ba, oa, none⟩) n c]]) (vs := [.pointer (some ⟨b4, 0, none⟩), .agg #[.int .i64 k, .int .i64 (((a : Nat) : Int)), .int .i64 (((b : Nat) : Int))]]) (caps := []) Tcall_19 rfl rfl (Weak.selF [1, 1, 1, 1, 1]) (fun w hs => draw_spec hok (by omega) (by omega) hgd.2.1.2 hgd.2.2.1.2 (by omega) (hs.sub (List.sublist_append_left _ _)).self) ?_)
  rintro _ _ ⟨vn1, vw1, rfl, rfl⟩
  show Run _ _ (putF _ _ _ (.tuple #[])) [.blk b4 50 [.int .i64 (((Q : Nat) : Int)), vn1, vw1, .int .i64 ((DgS.runT xs i % 8 + DgS.tn k) % 8), .int .i64 ((DgS.gate (DgS.runG Q xs i) k a b).rt), v2, .slice (some ⟨b3, 0, none⟩) Q Q], .own vn1 52 2 ((DgS.gate (DgS.runG Q xs i) k a b).ns.length) (nds (DgS.gate (DgS.runG Q xs i) k a b).ns), .own vw1 71 3 ((DgS.gate (DgS.runG Q xs i) k a b).ws.length) (wls (DgS.gate (DgS.runG Q xs i) k a b).ws), .own v2 3 1 Q (ints (DgS.gate (DgS.runG Q xs i) k a b).la), .own (.slice (some ⟨b3, 0, none⟩) Q Q) 4 1 Q (bls (DgS.gate (DgS.runG Q xs i) k a b).ha), .blk b7 54 [.int .i64 k, .int .i64 (((a : Nat) : Int)), .int .i64 (((b : Nat) : Int))], .blk b2 29 [.int .i64 0, .slice none 0 0, .slice none 0 0, .int .i64 0, .int .i64 0], .blk b1 34 [.int .i64 (((Q : Nat) : Int)), .slice (some ⟨ba, oa, none⟩) n c]]
  refine .done ?_
  refine .blockEnd ?_
  refine .region ?_
  refine .u (.int .i64 ((((i : Nat) : Int)) + 1)) (.add rfl rfl rfl (by omega) (by omega)) ?_
  refine .m ?_
  refine .done ?_
  refine .goal ⟨(by repeat (first | exact Same.refl _ _ | refine Same.put rfl ?_ | refine Same.over rfl rfl ?_)), (i + 1, vn1, vw1), ?_, ?_, ?_, ?_⟩
  ·show i + 1 ≤ n; omega
  ·show n - (i + 1) < n - i; omega
  ·exact ⟨(by first | rfl | (congr 1; omega) | simp), trivial⟩
  ·exact ((Weak.selF [0, 0, 0, 0, 0, 1, 1]).trans (Some'.weak (.takeEq (by first | rfl | (show _ = Res.own _ _ _ (DgS.st0 Q).ns.length (nds (DgS.st0 Q).ns); rw [hqQ, hq1, h0n]; done) | (show _ = Res.own _ _ _ _ (ints (DgS.st0 Q).la); rw [hqQ, hq2]; done) | (rw [hRG]; done) | (rw [hRG, hRT]; done) | (rw [hRG, hRT, Int.emod_add_emod]; done) | (simp [DgS.runG, DgS.runT, DgS.st0]; done)) (.takeEq (by first | rfl | (show _ = Res.own _ _ _ (DgS.st0 Q).ns.length (nds (DgS.st0 Q).ns); rw [hqQ, hq1, h0n]; done) | (show _ = Res.own _ _ _ _ (ints (DgS.st0 Q).la); rw [hqQ, hq2]; done) | (rw [hRG]; done) | (rw [hRG, hRT]; done) | (rw [hRG, hRT, Int.emod_add_emod]; done) | (simp [DgS.runG, DgS.runT, DgS.st0]; done)) (.takeEq (by first | rfl | (show _ = Res.own _ _ _ (DgS.st0 Q).ns.length (nds (DgS.st0 Q).ns); rw [hqQ, hq1, h0n]; done) | (show _ = Res.own _ _ _ _ (ints (DgS.st0 Q).la); rw [hqQ, hq2]; done) | (rw [hRG]; done) | (rw [hRG, hRT]; done) | (rw [hRG, hRT, Int.emod_add_emod]; done) | (simp [DgS.runG, DgS.runT, DgS.st0]; done)) (.takeEq (by first | rfl | (show _ = Res.own _ _ _ (DgS.st0 Q).ns.length (nds (DgS.st0 Q).ns); rw [hqQ, hq1, h0n]; done) | (show _ = Res.own _ _ _ _ (ints (DgS.st0 Q).la); rw [hqQ, hq2]; done) | (rw [hRG]; done) | (rw [hRG, hRT]; done) | (rw [hRG, hRT, Int.emod_add_emod]; done) | (simp [DgS.runG, DgS.runT, DgS.st0]; done)) (.takeEq (by first | rfl | (show _ = Res.own _ _ _ (DgS.st0 Q).ns.length (nds (DgS.st0 Q).ns); rw [hqQ, hq1, h0n]; done) | (show _ = Res.own _ _ _ _ (ints (DgS.st0 Q).la); rw [hqQ, hq2]; done) | (rw [hRG]; done) | (rw [hRG, hRT]; done) | (rw [hRG, hRT, Int.emod_add_emod]; done) | (simp [DgS.runG, DgS.runT, DgS.st0]; done)) (.take (.takeEq (by first | rfl | (show _ = Res.own _ _ _ (DgS.st0 Q).ns.length (nds (DgS.st0 Q).ns); rw [hqQ, hq1, h0n]; done) | (show _ = Res.own _ _ _ _ (ints (DgS.st0 Q).la); rw [hqQ, hq2]; done) | (rw [hRG]; done) | (rw [hRG, hRT]; done) | (rw [hRG, hRT, Int.emod_add_emod]; done) | (simp [DgS.runG, DgS.runT, DgS.st0]; done)) (.nil _))))))))))
 have p54 := h54; try simp only [bs] at p54
 have hin : i = n := by omega
 refine .exit rfl ?_
 refine .seq ?_
 refine .sr ?_
 refine .fa Tfo_34_0 ?_
 refine .u (.int .i64 (((Q : Nat) : Int))) (.load1 Tone_3 rfl (.b (.tail _ (.tail _ (.tail _ (.tail _ (.tail _ (.tail _ (.head _))))))))) ?_
 refine .m ?_
 refine .done ?_
 refine .block ?_
 refine Run.loop (ι := Nat × Value × Value) [8, 63, 64, 65, 66, 67, 68, 69, 70, 71] (fun ⟨j, v5, v6⟩ => [(63, .int .i64 (((j : Nat) : Int)))]) (fun ⟨j, v5, v6⟩ => [.blk b4 50 [.int .i64 (((Q : Nat) : Int)), v5, v6, .int .i64 (DgS.runT xs n % 8), .int .i64 ((DgS.outs (DgS.runG Q xs n) j).rt), v2, .slice (some ⟨b3, 0, none⟩) Q Q], .own v5 52 2 ((DgS.outs (DgS.runG Q xs n) j).ns.length) (nds (DgS.outs (DgS.runG Q xs n) j).ns), .own v6 71 3 ((DgS.outs (DgS.runG Q xs n) j).ws.length) (wls (DgS.outs (DgS.runG Q xs n) j).ws), .own v2 3 1 Q (ints (DgS.outs (DgS.runG Q xs n) j).la), .own (.slice (some ⟨b3, 0, none⟩) Q Q) 4 1 Q (bls (DgS.outs (DgS.runG Q xs n) j).ha), .blk b2 29 [.int .i64 0, .slice none 0 0, .slice none 0 0, .int .i64 0, .int .i64 0], .blk b1 34 [.int .i64 (((Q : Nat) : Int)), .slice A n c]]) (fun ⟨j, v5, v6⟩ => j ≤ Q) (fun ⟨j, v5, v6⟩ => Q - j) (0, v3, v4) ?_ ?_ ?_ ?_
 ·exact Nat.zero_le _
 ·exact ⟨rfl, trivial⟩
 ·exact ((Weak.refl _).trans (Some'.weak (.takeEq (by first | rfl | (rw [hin]; rfl) | (rw [hin]; done)) (.takeEq (by first | rfl | (rw [hin]; rfl) | (rw [hin]; done)) (.takeEq (by first | rfl | (rw [hin]; rfl) | (rw [hin]; done)) (.takeEq (by first | rfl | (rw [hin]; rfl) | (rw [hin]; done)) (.takeEq (by first | rfl | (rw [hin]; rfl) | (rw [hin]; done)) (.take (.take (.nil _))))))))))
 rintro ⟨j, v5, v6⟩ fr hinv
 show Run _ _ (over _ _ [(63, .int .i64 (((j : Nat) : Int)))] fr) [.blk b4 50 [.int .i64 (((Q : Nat) : Int)), v5, v6, .int .i64 (DgS.runT xs n % 8), .int .i64 ((DgS.outs (DgS.runG Q xs n) j).rt), v2, .slice (some ⟨b3, 0, none⟩) Q Q], .own v5 52 2 ((DgS.outs (DgS.runG Q xs n) j).ns.length) (nds (DgS.outs (DgS.runG Q xs n) j).ns), .own v6 71 3 ((DgS.outs (DgS.runG Q xs n) j).ws.length) (wls (DgS.outs (DgS.runG Q xs n) j).ws), .own v2 3 1 Q (ints (DgS.outs (DgS.runG Q xs n) j).la), .own (.slice (some ⟨b3, 0, none⟩) Q Q) 4 1 Q (bls (DgS.outs (DgS.runG Q xs n) j).ha), .blk b2 29 [.int .i64 0, .slice none 0 0, .slice none 0 0, .int .i64 0, .int .i64 0], .blk b1 34 [.int .i64 (((Q : Nat) : Int)), .slice A n c]]
 try dsimp only at hinv
 refine .sr ?_
 refine .w (.bool (decide ((((j : Nat) : Int)) < (((Q : Nat) : Int))))) ?_
 refine .done ?_
 refine .seq ?_
 refine .cond (b := decide ((((j : Nat) : Int)) < (((Q : Nat) : Int)))) rfl (fun h64 => ?_) (fun h64 => ?_)
 ·have p64 := h64; try simp only [bs] at p64
  have hjQ : j < Q := by omega
  have hokj := DgS.outs_ok hQ.2 (DgS.runG_ok hQ hgs n (Nat.le_refl _)) j (by omega)
  refine .skip ?_
  refine .seq ?_
  refine .block ?_
  refine .sr ?_
  iterate 2 refine .m ?_
  refine .dr ?_
  iterate 3 refine .m ?_
  refine .u (.agg #[.int .i64 2, .int .i64 (((j : Nat) : Int))]) (.build (cs := [.int .i64 2, .int .i64 (((j : Nat) : Int))]) (by kernel_rfl)) ?_
  refine .step rfl (.callM (H1 := [.blk b4 50 [.int .i64 (((Q : Nat) : Int)), v5, v6, .int .i64 (DgS.runT xs n % 8), .int .i64 ((DgS.outs (DgS.runG Q xs n) j).rt), v2, .slice (some ⟨b3, 0, none⟩) Q Q], .own v5 52 2 ((DgS.outs (DgS.runG Q xs n) j).ns.length) (nds (DgS.outs (DgS.runG Q xs n) j).ns), .own v6 71 3 ((DgS.outs (DgS.runG Q xs n) j).ws.length) (wls (DgS.outs (DgS.runG Q xs n) j).ws), .own v2 3 1 Q (ints (DgS.outs (DgS.runG Q xs n) j).la), .own (.slice (some ⟨b3, 0, none⟩) Q Q) 4 1 Q (bls (DgS.outs (DgS.runG Q xs n) j).ha)]) (H2 := [.blk b2 29 [.int .i64 0, .slice none 0 0, .slice none 0 0, .int .i64 0, .int .i64 0], .blk b1 34 [.int .i64 (((Q : Nat) : Int)), .slice A n c]]) (vs := [.pointer (some ⟨b4, 0, none⟩), .int .i64 (((j : Nat) : Int)), .agg #[.int .i64 2, .int .i64 (((j : Nat) : Int))]]) (caps := []) Tcall_20 rfl rfl (Weak.refl _) (fun w hs => append_spec hokj (by omega) hjQ (hs.sub (List.sublist_append_left _ _)).self) ?_)
  rintro _ _ ⟨vn2, vw2, rfl, rfl⟩
  show Run _ _ (putF _ _ _ (.tuple #[])) [.blk b4 50 [.int .i64 (((Q : Nat) : Int)), vn2, vw2, .int .i64 (DgS.runT xs n % 8), .int .i64 ((DgS.app (DgS.outs (DgS.runG Q xs n) j) j (2, ((j : Nat) : Int))).rt), v2, .slice (some ⟨b3, 0, none⟩) Q Q], .own vn2 52 2 ((DgS.app (DgS.outs (DgS.runG Q xs n) j) j (2, ((j : Nat) : Int))).ns.length) (nds (DgS.app (DgS.outs (DgS.runG Q xs n) j) j (2, ((j : Nat) : Int))).ns), .own vw2 71 3 ((DgS.app (DgS.outs (DgS.runG Q xs n) j) j (2, ((j : Nat) : Int))).ws.length) (wls (DgS.app (DgS.outs (DgS.runG Q xs n) j) j (2, ((j : Nat) : Int))).ws), .own v2 3 1 Q (ints (DgS.app (DgS.outs (DgS.runG Q xs n) j) j (2, ((j : Nat) : Int))).la), .own (.slice (some ⟨b3, 0, none⟩) Q Q) 4 1 Q (bls (DgS.app (DgS.outs (DgS.runG Q xs n) j) j (2, ((j : Nat) : Int))).ha), .blk b2 29 [.int .i64 0, .slice none 0 0, .slice none 0 0, .int .i64 0, .int .i64 0], .blk b1 34 [.int .i64 (((Q : Nat) : Int)), .slice A n c]]
  refine .done ?_
  refine .blockEnd ?_
  refine .region ?_
  refine .u (.int .i64 ((((j : Nat) : Int)) + 1)) (.add rfl rfl rfl (by omega) (by omega)) ?_
  refine .m ?_
  refine .done ?_
  refine .goal ⟨(by repeat (first | exact Same.refl _ _ | refine Same.put rfl ?_ | refine Same.over rfl rfl ?_)), (j + 1, vn2, vw2), ?_, ?_, ?_, ?_⟩
  ·show j + 1 ≤ Q; omega
  ·show Q - (j + 1) < Q - j; omega
  ·exact ⟨(by first | rfl | (congr 1; omega) | simp), trivial⟩
  ·exact ((Weak.refl _).trans (Some'.weak (.takeEq (by first | rfl | (rw [hin]; rfl) | (rw [hin]; done)) (.takeEq (by first | rfl | (rw [hin]; rfl) | (rw [hin]; done)) (.takeEq (by first | rfl | (rw [hin]; rfl) | (rw [hin]; done)) (.takeEq (by first | rfl | (rw [hin]; rfl) | (rw [hin]; done)) (.takeEq (by first | rfl | (rw [hin]; rfl) | (rw [hin]; done)) (.take (.take (.nil _))))))))))
 have p64 := h64; try simp only [bs] at p64
 have hjQ : j = Q := by omega
 have hRO : (DgS.outs (DgS.runG Q xs n) j) = (DgS.fin Q xs n) := by rw [hjQ]; rfl
 rw [hRO]
 refine .exit rfl ?_
 refine .sr ?_
 refine .m ?_
 refine .u (.pointer (some ⟨b4, 0, none⟩)) (.nilCheck rfl) ?_
 refine .fa Tfo_50_0 ?_
 refine .u (.agg #[.int .i64 (((Q : Nat) : Int)), v5, v6, .int .i64 (DgS.runT xs n % 8), .int .i64 ((DgS.fin Q xs n).rt)]) (.loadN (cs := [.int .i64 (((Q : Nat) : Int)), v5, v6, .int .i64 (DgS.runT xs n % 8), .int .i64 ((DgS.fin Q xs n).rt)]) Tagg_29 rfl (Cells.blk (.head _) ⟨rfl, rfl, rfl, rfl, rfl, trivial⟩)) ?_
 refine .c (.tuple #[.agg #[.int .i64 (((Q : Nat) : Int)), v5, v6, .int .i64 (DgS.runT xs n % 8), .int .i64 ((DgS.fin Q xs n).rt)], .bool true]) [.agg #[.int .i64 (((Q : Nat) : Int)), v5, v6, .int .i64 (DgS.runT xs n % 8), .int .i64 ((DgS.fin Q xs n).rt)]] Tcall_21 (fun w hs => checked_true hQ hg (hs.slOwn (.tail _ (.head _))) (hs.slOwn (.tail _ (.tail _ (.head _))))) ?_
 refine .w (.agg #[.int .i64 (((Q : Nat) : Int)), v5, v6, .int .i64 (DgS.runT xs n % 8), .int .i64 ((DgS.fin Q xs n).rt)]) ?_
 refine .w (.bool true) ?_
 refine Run.formOwn (.tail _ (.head _)) (fun A_v51 c_v51 hv hcapc_v51 hmaxc_v51 => ?_) (fun _ _ _ => ⟨nofun, nofun, nofun⟩)
 subst hv
 refine Run.formOwn (.tail _ (.tail _ (.head _))) (fun A_v61 c_v61 hv hcapc_v61 hmaxc_v61 => ?_) (fun _ _ _ => ⟨nofun, nofun, nofun⟩)
 subst hv
 refine .step rfl (.storeAll (us := [.int .i64 (((Q : Nat) : Int)), .slice A_v51 ((DgS.fin Q xs n).ns.length) c_v51, .slice A_v61 ((DgS.fin Q xs n).ws.length) c_v61, .int .i64 (DgS.runT xs n % 8), .int .i64 ((DgS.fin Q xs n).rt)]) Tsize_29 rfl rfl rfl (.there _ (.there _ (.there _ (.there _ (.there _ (.here _)))))) rfl ?_)
 refine .m ?_
 refine .done ?_
 refine .ret ?_
 refine ⟨.tuple #[.agg #[.int .i64 (((Q : Nat) : Int)), .slice A_v51 ((DgS.fin Q xs n).ns.length) c_v51, .slice A_v61 ((DgS.fin Q xs n).ws.length) c_v61, .int .i64 (DgS.runT xs n % 8), .int .i64 ((DgS.fin Q xs n).rt)], .bool true], [.own (.slice A_v51 ((DgS.fin Q xs n).ns.length) c_v51) 52 2 ((DgS.fin Q xs n).ns.length) (nds (DgS.fin Q xs n).ns), .own (.slice A_v61 ((DgS.fin Q xs n).ws.length) c_v61) 71 3 ((DgS.fin Q xs n).ws.length) (wls (DgS.fin Q xs n).ws)], Out.cell2 rfl Tagg_29 rfl (Cells.blk (.tail _ (.tail _ (.tail _ (.tail _ (.tail _ (.head _)))))) ⟨rfl, rfl, rfl, rfl, rfl, trivial⟩) rfl, (Some'.weak (.skip (.take (.take (.nil _))))), ?_⟩
 exact ⟨_, _, rfl, rfl⟩

set_option maxHeartbeats 4000000 in
set_option maxRecDepth 20000 in
theorem DiagramOf_false {Q n : Nat} {va : Value} {xs : List Int} {w : World} (hQ : 1 ≤ Q ∧ Q ≤ 5) (hn4 : n ≤ 400) (hgs : ∀ i, i < n → gateAt (Q : Int) xs i = true) (hxs : Sl w va 3 n (ints xs)) (hc : circOk (Q : Nat) xs n = true) (hg : dgGood Q xs n = false) : Calls Try.prog 7 #[.agg #[.int .i64 (Q : Nat), va]] w (Post No w fun v H => ∃ vn vw, v = .tuple #[.agg #[.int .i64 0, vn, vw, .int .i64 0, .int .i64 0], .bool false] ∧ H = [.own vn 52 2 ([] : List N2).length (nds ([] : List N2)), .own vw 71 3 ([] : List W3).length (wls ([] : List W3))]) := by
 have hxl := hxs.len
 have hnle := hxs.le
 obtain ⟨A, c, rfl, _, _⟩ := hxs.form0
 have h0n : (DgS.st0 Q).ns.length = Q := by simp [DgS.st0]
 have h0l : (DgS.st0 Q).la.length = Q := by simp [DgS.st0]
 have hbT := DgS.runT_bd xs n
 refine enter (n := 79) (args := [.agg #[.int .i64 (((Q : Nat) : Int)), .slice A n c]]) Try.func7 rfl rfl (St.empty _ _) ?_
 refine .sr ?_
 refine .step rfl (.box (us := [.int .i64 (((Q : Nat) : Int)), .slice A n c]) rfl fun b1 => ?_)
 refine .step rfl (.alloc (zs := [.int .i64 0, .slice none 0 0, .slice none 0 0, .int .i64 0, .int .i64 0]) Tzero_29 fun b2 => ?_)
 refine .m ?_
 refine .done ?_
 refine .seq ?_
 refine .sr ?_
 refine .u (.agg #[.int .i64 (((Q : Nat) : Int)), .slice A n c]) (.loadN (cs := [.int .i64 (((Q : Nat) : Int)), .slice A n c]) Tagg_34 rfl (Cells.blk (.tail _ (.head _)) ⟨rfl, rfl, trivial⟩)) ?_
 refine .c (.bool true) [.agg #[.int .i64 (((Q : Nat) : Int)), .slice A n c]] Tcall_18 (fun w hs => valid_is hc (hs.sl hxs)) ?_
 refine .w (.bool false) ?_
 refine .done ?_
 refine .cond (b := false) rfl (fun h => nomatch h) (fun _ => ?_)
 refine .skip ?_
 refine .seq ?_
 refine .held (by kernel_rfl) ?_
 refine DW.t 0 rfl (Weak.refl _) (.pointer (some ⟨b1, 0, none⟩)) (.fieldAddr Tfo_34_0 rfl rfl) ?_
 refine DW.t 1 rfl (Weak.refl _) (.int .i64 (((Q : Nat) : Int))) (.load1 Tone_3 rfl (.b (.tail _ (.head _)))) ?_
 refine DW.t 2 rfl (Weak.refl _) (.agg #[.int .i64 (((Q : Nat) : Int)), .slice none 0 0, .slice none 0 0, .int .i64 0, .int .i64 0]) (.build (cs := [.int .i64 (((Q : Nat) : Int)), .slice none 0 0, .slice none 0 0, .int .i64 0, .int .i64 0]) (by kernel_rfl)) ?_
 refine DW.t 3 rfl (Weak.refl _) (.pointer (some ⟨b1, 0, none⟩)) (.fieldAddr Tfo_34_0 rfl rfl) ?_
 refine DW.t 4 rfl (Weak.refl _) (.int .i64 (((Q : Nat) : Int))) (.load1 Tone_3 rfl (.b (.tail _ (.head _)))) ?_
 refine DW.step (i := 5) (by kernel_rfl) rfl rfl (OpStep.makeSlice (n := Q) Tsl_47 rfl (by decide) (by first | rfl | omega) (by first | rfl | omega) (by omega) (by simp only [maxLen]; omega) fun b3 => ?_)
 refine ⟨(Some'.weak (.skip (.take (.take (.nil _))))), ?_⟩
 refine DW.t 6 rfl (Some'.weak (.skip (.take (.take (.nil _))))) (.agg #[.int .i64 (((Q : Nat) : Int)), .slice none 0 0, .slice none 0 0, .int .i64 0, .int .i64 0, .slice none 0 0, .slice (some ⟨b3, 0, none⟩) Q Q]) (.build (cs := [.int .i64 (((Q : Nat) : Int)), .slice none 0 0, .slice none 0 0, .int .i64 0, .int .i64 0, .slice none 0 0, .slice (some ⟨b3, 0, none⟩) Q Q]) (by kernel_rfl)) ?_
 refine DW.step (i := 7) (by kernel_rfl) rfl rfl (OpStep.box (us := [.int .i64 (((Q : Nat) : Int)), .slice none 0 0, .slice none 0 0, .int .i64 0, .int .i64 0, .slice none 0 0, .slice (some ⟨b3, 0, none⟩) Q Q]) rfl fun b4 => ?_)
 refine ⟨(Some'.weak (.skip (.skip (.take (.take (.nil _)))))), ?_⟩
 refine DW.m 8 rfl (Some'.weak (.skip (.skip (.take (.take (.nil _)))))) ?_
 refine DW.done (by kernel_rfl) ?_
 refine .seq ?_
 refine .seq ?_
 refine Run.weak (H' := [.blk b4 50 [.int .i64 (((Q : Nat) : Int)), .slice none 0 0, .slice none 0 0, .int .i64 0, .int .i64 0, .slice none 0 0, .slice (some ⟨b3, 0, none⟩) Q Q], .own (.slice (some ⟨b3, 0, none⟩) Q Q) 4 1 Q (bls (DgS.st0 Q).ha), .blk b2 29 [.int .i64 0, .slice none 0 0, .slice none 0 0, .int .i64 0, .int .i64 0], .blk b1 34 [.int .i64 (((Q : Nat) : Int)), .slice A n c]]) (Some'.weak (.take (.takeEq (by rw [bls_rep]; rfl) (.take (.take (.nil _)))))) ?_ ⟨_, _, rfl, fun _ => nofun, fun _ => nofun⟩
 refine Run.weak (H' := [.own (.slice none 0 0) 52 2 0 (nds []), .blk b4 50 [.int .i64 (((Q : Nat) : Int)), .slice none 0 0, .slice none 0 0, .int .i64 0, .int .i64 0, .slice none 0 0, .slice (some ⟨b3, 0, none⟩) Q Q], .own (.slice (some ⟨b3, 0, none⟩) Q Q) 4 1 Q (bls (DgS.st0 Q).ha), .blk b2 29 [.int .i64 0, .slice none 0 0, .slice none 0 0, .int .i64 0, .int .i64 0], .blk b1 34 [.int .i64 (((Q : Nat) : Int)), .slice A n c]]) (Weak.nilOwn _ _) ?_ ⟨_, _, rfl, fun _ => nofun, fun _ => nofun⟩
 refine Run.weak (H' := [.own (.slice none 0 0) 3 1 0 (ints []), .own (.slice none 0 0) 52 2 0 (nds []), .blk b4 50 [.int .i64 (((Q : Nat) : Int)), .slice none 0 0, .slice none 0 0, .int .i64 0, .int .i64 0, .slice none 0 0, .slice (some ⟨b3, 0, none⟩) Q Q], .own (.slice (some ⟨b3, 0, none⟩) Q Q) 4 1 Q (bls (DgS.st0 Q).ha), .blk b2 29 [.int .i64 0, .slice none 0 0, .slice none 0 0, .int .i64 0, .int .i64 0], .blk b1 34 [.int .i64 (((Q : Nat) : Int)), .slice A n c]]) (Weak.nilOwn _ _) ?_ ⟨_, _, rfl, fun _ => nofun, fun _ => nofun⟩
 refine .region ?_
 refine .fa Tfo_34_0 ?_
 refine .u (.int .i64 (((Q : Nat) : Int))) (.load1 Tone_3 rfl (.b (.tail _ (.tail _ (.tail _ (.tail _ (.tail _ (.head _)))))))) ?_
 refine .m ?_
 refine .done ?_
 refine .block ?_
 refine Run.loop (ι := Nat × Value × Value) [5, 23, 24, 25, 26, 27, 28, 29, 30, 31, 32, 33, 34, 35, 36, 37, 38, 39, 40, 41, 42, 43, 44, 45, 46, 47, 48, 49] (fun ⟨q, v1, v2⟩ => [(23, .int .i64 (((q : Nat) : Int)))]) (fun ⟨q, v1, v2⟩ => [.blk b4 50 [.int .i64 (((Q : Nat) : Int)), v1, .slice none 0 0, .int .i64 0, .int .i64 0, v2, .slice (some ⟨b3, 0, none⟩) Q Q], .own v1 52 2 q (nds ((DgS.st0 Q).ns.take q)), .own v2 3 1 q (ints ((DgS.st0 Q).la.take q)), .own (.slice (some ⟨b3, 0, none⟩) Q Q) 4 1 Q (bls (DgS.st0 Q).ha), .blk b2 29 [.int .i64 0, .slice none 0 0, .slice none 0 0, .int .i64 0, .int .i64 0], .blk b1 34 [.int .i64 (((Q : Nat) : Int)), .slice A n c]]) (fun ⟨q, v1, v2⟩ => q ≤ Q) (fun ⟨q, v1, v2⟩ => Q - q) (0, .slice none 0 0, .slice none 0 0) ?_ ?_ ?_ ?_
 ·exact Nat.zero_le _
 ·exact ⟨rfl, trivial⟩
 ·exact ((Weak.selF [2, 1, 0, 0, 0, 0]).trans (Some'.weak (.takeEq (by first | rfl | simp) (.takeEq (by first | rfl | simp) (.takeEq (by first | rfl | simp) (.take (.take (.take (.nil _)))))))))
 rintro ⟨q, v1, v2⟩ fr hinv
 show Run _ _ (over _ _ [(23, .int .i64 (((q : Nat) : Int)))] fr) [.blk b4 50 [.int .i64 (((Q : Nat) : Int)), v1, .slice none 0 0, .int .i64 0, .int .i64 0, v2, .slice (some ⟨b3, 0, none⟩) Q Q], .own v1 52 2 q (nds ((DgS.st0 Q).ns.take q)), .own v2 3 1 q (ints ((DgS.st0 Q).la.take q)), .own (.slice (some ⟨b3, 0, none⟩) Q Q) 4 1 Q (bls (DgS.st0 Q).ha), .blk b2 29 [.int .i64 0, .slice none 0 0, .slice none 0 0, .int .i64 0, .int .i64 0], .blk b1 34 [.int .i64 (((Q : Nat) : Int)), .slice A n c]]
 try dsimp only at hinv
 refine .sr ?_
 refine .w (.bool (decide ((((q : Nat) : Int)) < (((Q : Nat) : Int))))) ?_
 refine .done ?_
 refine .seq ?_
 refine .cond (b := decide ((((q : Nat) : Int)) < (((Q : Nat) : Int)))) rfl (fun h24 => ?_) (fun h24 => ?_)
 ·have p24 := h24; try simp only [bs] at p24
  refine .skip ?_
  refine .seq ?_
  refine .block ?_
  refine .sr ?_
  iterate 2 refine .m ?_
  refine .dsr ?_
  iterate 2 refine .m ?_
  refine .u (.pointer (some ⟨b4, 0, none⟩)) (.nilCheck rfl) ?_
  refine .fa Tfo_50_0 ?_
  refine .fa Tfo_29_1 ?_
  refine .u v1 (.load1 Tone_26 rfl (.b (.head _))) ?_
  refine .m ?_
  refine .u (.agg #[.int .i64 1, .int .i64 (((q : Nat) : Int))]) (.build (cs := [.int .i64 1, .int .i64 (((q : Nat) : Int))]) (by kernel_rfl)) ?_
  refine .step rfl (.buildSlice (us := [.int .i64 1, .int .i64 (((q : Nat) : Int))]) Tsl_26 (by decide) (by decide) ⟨rfl, [.int .i64 1, .int .i64 (((q : Nat) : Int))], _, rfl, rfl, rfl, rfl⟩ rfl fun b5 => ?_)
  refine .step rfl (.append (H1 := [.own (.slice (some ⟨b5, 0, none⟩) 1 1) 52 2 1 ([.int .i64 1, .int .i64 (((q : Nat) : Int))]), .blk b4 50 [.int .i64 (((Q : Nat) : Int)), v1, .slice none 0 0, .int .i64 0, .int .i64 0, v2, .slice (some ⟨b3, 0, none⟩) Q Q]]) (H2 := [.own v2 3 1 q (ints ((DgS.st0 Q).la.take q)), .own (.slice (some ⟨b3, 0, none⟩) Q Q) 4 1 Q (bls (DgS.st0 Q).ha), .blk b2 29 [.int .i64 0, .slice none 0 0, .slice none 0 0, .int .i64 0, .int .i64 0], .blk b1 34 [.int .i64 (((Q : Nat) : Int)), .slice A n c]]) (v := v1) (u := .slice (some ⟨b5, 0, none⟩) 1 1) (n := q) (m := 1) (xs := nds ((DgS.st0 Q).ns.take q)) (ys := [.int .i64 1, .int .i64 (((q : Nat) : Int))]) Tsl_26 (by decide) rfl rfl rfl rfl (fun w hs => hs.slOwn (.head _)) (by simp [Value.oneCell']) (by omega) (by simp only [maxLen]; omega) fun av1 hnav1 => ?_)
  refine Run.weak (H' := [.own (.slice (some ⟨b5, 0, none⟩) 1 1) 52 2 1 ([.int .i64 1, .int .i64 (((q : Nat) : Int))]), .blk b4 50 [.int .i64 (((Q : Nat) : Int)), v1, .slice none 0 0, .int .i64 0, .int .i64 0, v2, .slice (some ⟨b3, 0, none⟩) Q Q], .own av1 52 2 (q + 1) (nds ((DgS.st0 Q).ns.take (q + 1))), .own v2 3 1 q (ints ((DgS.st0 Q).la.take q)), .own (.slice (some ⟨b3, 0, none⟩) Q Q) 4 1 Q (bls (DgS.st0 Q).ha), .blk b2 29 [.int .i64 0, .slice none 0 0, .slice none 0 0, .int .i64 0, .int .i64 0], .blk b1 34 [.int .i64 (((Q : Nat) : Int)), .slice A n c]]) (Some'.weak (.take (.take (.takeEq (by rw [DgS.st0_ns Q q (by omega), nds_append, nds_one]) (.take (.take (.take (.take (.nil _))))))))) ?_ ⟨_, _, rfl, fun _ => nofun, fun _ => nofun⟩
  refine .u (.pointer (some ⟨b4, 0, none⟩)) (.nilCheck rfl) ?_
  refine .fa Tfo_50_0 ?_
  refine .fa Tfo_29_1 ?_
  refine Run.formOwn (.tail _ (.tail _ (.head _))) (fun A_av11 c_av11 hv hcapc_av11 hmaxc_av11 => ?_) (fun _ _ _ => ⟨nofun, nofun, nofun⟩)
  subst hv
  refine .step rfl (.store (us := [.slice A_av11 (q + 1) c_av11]) Tsize_26 rfl rfl rfl (.there _ (.here _)) (by simp only [List.length_cons, List.length_nil]; omega) ?_)
  show Run _ _ _ [.own (.slice (some ⟨b5, 0, none⟩) 1 1) 52 2 1 ([.int .i64 1, .int .i64 (((q : Nat) : Int))]), .blk b4 50 [.int .i64 (((Q : Nat) : Int)), .slice A_av11 (q + 1) c_av11, .slice none 0 0, .int .i64 0, .int .i64 0, v2, .slice (some ⟨b3, 0, none⟩) Q Q], .own (.slice A_av11 (q + 1) c_av11) 52 2 (q + 1) (nds ((DgS.st0 Q).ns.take (q + 1))), .own v2 3 1 q (ints ((DgS.st0 Q).la.take q)), .own (.slice (some ⟨b3, 0, none⟩) Q Q) 4 1 Q (bls (DgS.st0 Q).ha), .blk b2 29 [.int .i64 0, .slice none 0 0, .slice none 0 0, .int .i64 0, .int .i64 0], .blk b1 34 [.int .i64 (((Q : Nat) : Int)), .slice A n c]]
  refine .dr ?_
  iterate 2 refine .m ?_
  refine .u (.pointer (some ⟨b4, 0, none⟩)) (.nilCheck rfl) ?_
  refine .fa Tfo_50_1 ?_
  refine .u v2 (.load1 Tone_48 rfl (.b (.tail _ (.head _)))) ?_
  refine .m ?_
  refine .step rfl (.buildSlice (us := [.int .i64 (((q : Nat) : Int))]) Tsl_48 (by decide) (by decide) ⟨rfl, [.int .i64 (((q : Nat) : Int))], _, rfl, rfl, rfl, rfl⟩ rfl fun b6 => ?_)
  refine .step rfl (.append (H1 := [.own (.slice (some ⟨b6, 0, none⟩) 1 1) 3 1 1 ([.int .i64 (((q : Nat) : Int))]), .own (.slice (some ⟨b5, 0, none⟩) 1 1) 52 2 1 ([.int .i64 1, .int .i64 (((q : Nat) : Int))]), .blk b4 50 [.int .i64 (((Q : Nat) : Int)), .slice A_av11 (q + 1) c_av11, .slice none 0 0, .int .i64 0, .int .i64 0, v2, .slice (some ⟨b3, 0, none⟩) Q Q], .own (.slice A_av11 (q + 1) c_av11) 52 2 (q + 1) (nds ((DgS.st0 Q).ns.take (q + 1)))]) (H2 := [.own (.slice (some ⟨b3, 0, none⟩) Q Q) 4 1 Q (bls (DgS.st0 Q).ha), .blk b2 29 [.int .i64 0, .slice none 0 0, .slice none 0 0, .int .i64 0, .int .i64 0], .blk b1 34 [.int .i64 (((Q : Nat) : Int)), .slice A n c]]) (v := v2) (u := .slice (some ⟨b6, 0, none⟩) 1 1) (n := q) (m := 1) (xs := ints ((DgS.st0 Q).la.take q)) (ys := [.int .i64 (((q : Nat) : Int))]) Tsl_48 (by decide) rfl rfl rfl rfl (fun w hs => hs.slOwn (.head _)) (by simp [Value.oneCell']) (by omega) (by simp only [maxLen]; omega) fun av2 hnav2 => ?_)
  refine Run.weak (H' := [.own (.slice (some ⟨b6, 0, none⟩) 1 1) 3 1 1 ([.int .i64 (((q : Nat) : Int))]), .own (.slice (some ⟨b5, 0, none⟩) 1 1) 52 2 1 ([.int .i64 1, .int .i64 (((q : Nat) : Int))]), .blk b4 50 [.int .i64 (((Q : Nat) : Int)), .slice A_av11 (q + 1) c_av11, .slice none 0 0, .int .i64 0, .int .i64 0, v2, .slice (some ⟨b3, 0, none⟩) Q Q], .own (.slice A_av11 (q + 1) c_av11) 52 2 (q + 1) (nds ((DgS.st0 Q).ns.take (q + 1))), .own av2 3 1 (q + 1) (ints ((DgS.st0 Q).la.take (q + 1))), .own (.slice (some ⟨b3, 0, none⟩) Q Q) 4 1 Q (bls (DgS.st0 Q).ha), .blk b2 29 [.int .i64 0, .slice none 0 0, .slice none 0 0, .int .i64 0, .int .i64 0], .blk b1 34 [.int .i64 (((Q : Nat) : Int)), .slice A n c]]) (Some'.weak (.take (.take (.take (.take (.takeEq (by rw [DgS.st0_la Q q (by omega), ints_append]; rfl) (.take (.take (.take (.nil _)))))))))) ?_ ⟨_, _, rfl, fun _ => nofun, fun _ => nofun⟩
  refine .u (.pointer (some ⟨b4, 0, none⟩)) (.nilCheck rfl) ?_
  refine .fa Tfo_50_1 ?_
  refine Run.formOwn (.tail _ (.tail _ (.tail _ (.tail _ (.head _))))) (fun A_av21 c_av21 hv hcapc_av21 hmaxc_av21 => ?_) (fun _ _ _ => ⟨nofun, nofun, nofun⟩)
  subst hv
  refine .step rfl (.store (us := [.slice A_av21 (q + 1) c_av21]) Tsize_48 rfl rfl rfl (.there _ (.there _ (.here _))) (by simp only [List.length_cons, List.length_nil]; omega) ?_)
  show Run _ _ _ [.own (.slice (some ⟨b6, 0, none⟩) 1 1) 3 1 1 ([.int .i64 (((q : Nat) : Int))]), .own (.slice (some ⟨b5, 0, none⟩) 1 1) 52 2 1 ([.int .i64 1, .int .i64 (((q : Nat) : Int))]), .blk b4 50 [.int .i64 (((Q : Nat) : Int)), .slice A_av11 (q + 1) c_av11, .slice none 0 0, .int .i64 0, .int .i64 0, .slice A_av21 (q + 1) c_av21, .slice (some ⟨b3, 0, none⟩) Q Q], .own (.slice A_av11 (q + 1) c_av11) 52 2 (q + 1) (nds ((DgS.st0 Q).ns.take (q + 1))), .own (.slice A_av21 (q + 1) c_av21) 3 1 (q + 1) (ints ((DgS.st0 Q).la.take (q + 1))), .own (.slice (some ⟨b3, 0, none⟩) Q Q) 4 1 Q (bls (DgS.st0 Q).ha), .blk b2 29 [.int .i64 0, .slice none 0 0, .slice none 0 0, .int .i64 0, .int .i64 0], .blk b1 34 [.int .i64 (((Q : Nat) : Int)), .slice A n c]]
  refine .done ?_
  refine .blockEnd ?_
  refine .region ?_
  refine .u (.int .i64 ((((q : Nat) : Int)) + 1)) (.add rfl rfl rfl (by omega) (by omega)) ?_
  refine .m ?_
  refine .done ?_
  refine .goal ⟨(by repeat (first | exact Same.refl _ _ | refine Same.put rfl ?_ | refine Same.over rfl rfl ?_)), (q + 1, .slice A_av11 (q + 1) c_av11, .slice A_av21 (q + 1) c_av21), ?_, ?_, ?_, ?_⟩
  ·show q + 1 ≤ Q; omega
  ·show Q - (q + 1) < Q - q; omega
  ·exact ⟨(by first | rfl | (congr 1; omega) | simp), trivial⟩
  ·exact ((Weak.selF [2, 2, 2, 2, 2, 2]).trans (Some'.weak (.takeEq (by first | rfl | simp) (.takeEq (by first | rfl | simp) (.takeEq (by first | rfl | simp) (.takeEq (by first | rfl | simp) (.take (.take (.nil _)))))))))
 have p24 := h24; try simp only [bs] at p24
 have hqQ : q = Q := by omega
 have hq1 : (DgS.st0 Q).ns.take Q = (DgS.st0 Q).ns := List.take_of_length_le (by omega)
 have hq2 : (DgS.st0 Q).la.take Q = (DgS.st0 Q).la := List.take_of_length_le (by omega)
 refine .exit rfl ?_
 refine .seq ?_
 refine .seq ?_
 refine Run.weak (H' := [.own (.slice none 0 0) 71 3 0 (wls []), .blk b4 50 [.int .i64 (((Q : Nat) : Int)), v1, .slice none 0 0, .int .i64 0, .int .i64 0, v2, .slice (some ⟨b3, 0, none⟩) Q Q], .own v1 52 2 q (nds ((DgS.st0 Q).ns.take q)), .own v2 3 1 q (ints ((DgS.st0 Q).la.take q)), .own (.slice (some ⟨b3, 0, none⟩) Q Q) 4 1 Q (bls (DgS.st0 Q).ha), .blk b2 29 [.int .i64 0, .slice none 0 0, .slice none 0 0, .int .i64 0, .int .i64 0], .blk b1 34 [.int .i64 (((Q : Nat) : Int)), .slice A n c]]) (Weak.nilOwn _ _) ?_ ⟨_, _, rfl, fun _ => nofun, fun _ => nofun⟩
 refine .region ?_
 refine .fa Tfo_34_1 ?_
 refine .u (.slice A n c) (.load1 Tone_32 rfl (.b (.tail _ (.tail _ (.tail _ (.tail _ (.tail _ (.tail _ (.head _))))))))) ?_
 refine .u (.int .i64 (((n : Nat) : Int))) (.len Tsl_32 rfl) ?_
 refine .m ?_
 refine .done ?_
 refine .block ?_
 refine Run.loop (ι := Nat × Value × Value) [7, 53, 54, 55, 56, 57, 58, 59, 60] (fun ⟨i, v3, v4⟩ => [(53, .int .i64 (((i : Nat) : Int)))]) (fun ⟨i, v3, v4⟩ => [.blk b4 50 [.int .i64 (((Q : Nat) : Int)), v3, v4, .int .i64 (DgS.runT xs i % 8), .int .i64 ((DgS.runG Q xs i).rt), v2, .slice (some ⟨b3, 0, none⟩) Q Q], .own v3 52 2 ((DgS.runG Q xs i).ns.length) (nds (DgS.runG Q xs i).ns), .own v4 71 3 ((DgS.runG Q xs i).ws.length) (wls (DgS.runG Q xs i).ws), .own v2 3 1 Q (ints (DgS.runG Q xs i).la), .own (.slice (some ⟨b3, 0, none⟩) Q Q) 4 1 Q (bls (DgS.runG Q xs i).ha), .blk b2 29 [.int .i64 0, .slice none 0 0, .slice none 0 0, .int .i64 0, .int .i64 0], .blk b1 34 [.int .i64 (((Q : Nat) : Int)), .slice A n c]]) (fun ⟨i, v3, v4⟩ => i ≤ n) (fun ⟨i, v3, v4⟩ => n - i) (0, v1, .slice none 0 0) ?_ ?_ ?_ ?_
 ·exact Nat.zero_le _
 ·exact ⟨rfl, trivial⟩
 ·exact ((Weak.selF [1, 1, 0, 0, 0, 0, 0]).trans (Some'.weak (.takeEq (by first | rfl | (show _ = Res.own _ _ _ (DgS.st0 Q).ns.length (nds (DgS.st0 Q).ns); rw [hqQ, hq1, h0n]; done) | (show _ = Res.own _ _ _ _ (ints (DgS.st0 Q).la); rw [hqQ, hq2]; done) | (rw [hRG]; done) | (rw [hRG, hRT]; done) | (rw [hRG, hRT, Int.emod_add_emod]; done) | (simp [DgS.runG, DgS.runT, DgS.st0]; done)) (.takeEq (by first | rfl | (show _ = Res.own _ _ _ (DgS.st0 Q).ns.length (nds (DgS.st0 Q).ns); rw [hqQ, hq1, h0n]; done) | (show _ = Res.own _ _ _ _ (ints (DgS.st0 Q).la); rw [hqQ, hq2]; done) | (rw [hRG]; done) | (rw [hRG, hRT]; done) | (rw [hRG, hRT, Int.emod_add_emod]; done) | (simp [DgS.runG, DgS.runT, DgS.st0]; done)) (.takeEq (by first | rfl | (show _ = Res.own _ _ _ (DgS.st0 Q).ns.length (nds (DgS.st0 Q).ns); rw [hqQ, hq1, h0n]; done) | (show _ = Res.own _ _ _ _ (ints (DgS.st0 Q).la); rw [hqQ, hq2]; done) | (rw [hRG]; done) | (rw [hRG, hRT]; done) | (rw [hRG, hRT, Int.emod_add_emod]; done) | (simp [DgS.runG, DgS.runT, DgS.st0]; done)) (.takeEq (by first | rfl | (show _ = Res.own _ _ _ (DgS.st0 Q).ns.length (nds (DgS.st0 Q).ns); rw [hqQ, hq1, h0n]; done) | (show _ = Res.own _ _ _ _ (ints (DgS.st0 Q).la); rw [hqQ, hq2]; done) | (rw [hRG]; done) | (rw [hRG, hRT]; done) | (rw [hRG, hRT, Int.emod_add_emod]; done) | (simp [DgS.runG, DgS.runT, DgS.st0]; done)) (.takeEq (by first | rfl | (show _ = Res.own _ _ _ (DgS.st0 Q).ns.length (nds (DgS.st0 Q).ns); rw [hqQ, hq1, h0n]; done) | (show _ = Res.own _ _ _ _ (ints (DgS.st0 Q).la); rw [hqQ, hq2]; done) | (rw [hRG]; done) | (rw [hRG, hRT]; done) | (rw [hRG, hRT, Int.emod_add_emod]; done) | (simp [DgS.runG, DgS.runT, DgS.st0]; done)) (.take (.take (.nil _))))))))))
 rintro ⟨i, v3, v4⟩ fr hinv
 show Run _ _ (over _ _ [(53, .int .i64 (((i : Nat) : Int)))] fr) [.blk b4 50 [.int .i64 (((Q : Nat) : Int)), v3, v4, .int .i64 (DgS.runT xs i % 8), .int .i64 ((DgS.runG Q xs i).rt), v2, .slice (some ⟨b3, 0, none⟩) Q Q], .own v3 52 2 ((DgS.runG Q xs i).ns.length) (nds (DgS.runG Q xs i).ns), .own v4 71 3 ((DgS.runG Q xs i).ws.length) (wls (DgS.runG Q xs i).ws), .own v2 3 1 Q (ints (DgS.runG Q xs i).la), .own (.slice (some ⟨b3, 0, none⟩) Q Q) 4 1 Q (bls (DgS.runG Q xs i).ha), .blk b2 29 [.int .i64 0, .slice none 0 0, .slice none 0 0, .int .i64 0, .int .i64 0], .blk b1 34 [.int .i64 (((Q : Nat) : Int)), .slice A n c]]
 try dsimp only at hinv
 refine .sr ?_
 refine .w (.bool (decide ((((i : Nat) : Int)) < (((n : Nat) : Int))))) ?_
 refine .done ?_
 refine .seq ?_
 refine .cond (b := decide ((((i : Nat) : Int)) < (((n : Nat) : Int)))) rfl (fun h54 => ?_) (fun h54 => ?_)
 ·have p54 := h54; try simp only [bs] at p54
  have hgi := hgs i (by omega)
  have hgd := DgS.gateAt_split hgi hQ.1
  obtain ⟨k, hk⟩ : ∃ k, ix xs (i * 3) = k := ⟨_, rfl⟩
  obtain ⟨a, ha1⟩ : ∃ a, (ix xs (i * 3 + 1)).toNat = a := ⟨_, rfl⟩
  obtain ⟨b, hb1⟩ : ∃ b, (ix xs (i * 3 + 2)).toNat = b := ⟨_, rfl⟩
  have ha0 : ix xs (i * 3 + 1) = (a : Nat) := by omega
  have hb0 : ix xs (i * 3 + 2) = (b : Nat) := by omega
  rw [hk, ha1, hb1] at hgd
  have hRG : DgS.runG Q xs (i + 1) = (DgS.runG Q xs i).gate k a b := by rw [DgS.runG, hk, ha1, hb1]
  have hRT : DgS.runT xs (i + 1) = DgS.runT xs i + DgS.tn k := by rw [DgS.runT, hk]
  have hok := DgS.runG_ok hQ hgs i (by omega)
  have hTb := DgS.runT_bd xs i
  obtain ⟨ba, oa, rfl⟩ := hxs.opn (by omega)
  refine .skip ?_
  refine .seq ?_
  refine .block ?_
  refine .sr ?_
  refine .u (.pointer (some ⟨ba, oa + i * 3, none⟩)) (.ix i Tsl_32) ?_
  refine .u (.agg #[.int .i64 k, .int .i64 (((a : Nat) : Int)), .int .i64 (((b : Nat) : Int))]) (.loadN (cs := [.int .i64 k, .int .i64 (((a : Nat) : Int)), .int .i64 (((b : Nat) : Int))]) Tagg_54 rfl (Cells.arg (k := i * 3) hxs rfl (by omega) (by have h := pre3 (xs := xs) (o := i * 3) (by omega); rw [hk, ha0, hb0] at h; exact h))) ?_
  refine .step rfl (.alloc (zs := [.int .i64 0, .int .i64 0, .int .i64 0]) Tzero_54 fun b7 => ?_)
  refine .step rfl (.storeAll (us := [.int .i64 k, .int .i64 (((a : Nat) : Int)), .int .i64 (((b : Nat) : Int))]) Tsize_54 rfl rfl rfl (.here _) rfl ?_)
  refine .dr ?_
  refine .m ?_
  refine .u (.agg #[.int .i64 k, .int .i64 (((a : Nat) : Int)), .int .i64 (((b : Nat) : Int))]) (.loadN (cs := [.int .i64 k, .int .i64 (((a : Nat) : Int)), .int .i64 (((b : Nat) : Int))]) Tagg_54 rfl (Cells.blk (.head _) ⟨rfl, rfl, rfl, trivial⟩)) ?_
  refine .step rfl (.callM (H1 := [.blk b4 50 [.int .i64 (((Q : Nat) : Int)), v3, v4, .int .i64 (DgS.runT xs i % 8), .int .i64 ((DgS.runG Q xs i).rt), v2, .slice (some ⟨b3, 0, none⟩) Q Q], .own v3 52 2 ((DgS.runG Q xs i).ns.length) (nds (DgS.runG Q xs i).ns), .own v4 71 3 ((DgS.runG Q xs i).ws.length) (wls (DgS.runG Q xs i).ws), .own v2 3 1 Q (ints (DgS.runG Q xs i).la), .own (.slice (some ⟨b3, 0, none⟩) Q Q) 4 1 Q (bls (DgS.runG Q xs i).ha)]) (H2 := [.blk b7 54 [.int .i64 k, .int .i64 (((a : Nat) : Int)), .int .i64 (((b : Nat) : Int))], .blk b2 29 [.int .i64 0, .slice none 0 0, .slice none 0 0, .int .i64 0, .int .i64 0], .blk b1 34 [.int .i64 (((Q : Nat) : Int)), .slice (some ⟨ba, oa, none⟩) n c]]) (vs := [.pointer (some ⟨b4, 0, none⟩), .agg #[.int .i64 k, .int .i64 (((a : Nat) : Int)), .int .i64 (((b : Nat) : Int))]]) (caps := []) Tcall_19 rfl rfl (Weak.selF [1, 1, 1, 1, 1]) (fun w hs => draw_spec hok (by omega) (by omega) hgd.2.1.2 hgd.2.2.1.2 (by omega) (hs.sub (List.sublist_append_left _ _)).self) ?_)
  rintro _ _ ⟨vn1, vw1, rfl, rfl⟩
  show Run _ _ (putF _ _ _ (.tuple #[])) [.blk b4 50 [.int .i64 (((Q : Nat) : Int)), vn1, vw1, .int .i64 ((DgS.runT xs i % 8 + DgS.tn k) % 8), .int .i64 ((DgS.gate (DgS.runG Q xs i) k a b).rt), v2, .slice (some ⟨b3, 0, none⟩) Q Q], .own vn1 52 2 ((DgS.gate (DgS.runG Q xs i) k a b).ns.length) (nds (DgS.gate (DgS.runG Q xs i) k a b).ns), .own vw1 71 3 ((DgS.gate (DgS.runG Q xs i) k a b).ws.length) (wls (DgS.gate (DgS.runG Q xs i) k a b).ws), .own v2 3 1 Q (ints (DgS.gate (DgS.runG Q xs i) k a b).la), .own (.slice (some ⟨b3, 0, none⟩) Q Q) 4 1 Q (bls (DgS.gate (DgS.runG Q xs i) k a b).ha), .blk b7 54 [.int .i64 k, .int .i64 (((a : Nat) : Int)), .int .i64 (((b : Nat) : Int))], .blk b2 29 [.int .i64 0, .slice none 0 0, .slice none 0 0, .int .i64 0, .int .i64 0], .blk b1 34 [.int .i64 (((Q : Nat) : Int)), .slice (some ⟨ba, oa, none⟩) n c]]
  refine .done ?_
  refine .blockEnd ?_
  refine .region ?_
  refine .u (.int .i64 ((((i : Nat) : Int)) + 1)) (.add rfl rfl rfl (by omega) (by omega)) ?_
  refine .m ?_
  refine .done ?_
  refine .goal ⟨(by repeat (first | exact Same.refl _ _ | refine Same.put rfl ?_ | refine Same.over rfl rfl ?_)), (i + 1, vn1, vw1), ?_, ?_, ?_, ?_⟩
  ·show i + 1 ≤ n; omega
  ·show n - (i + 1) < n - i; omega
  ·exact ⟨(by first | rfl | (congr 1; omega) | simp), trivial⟩
  ·exact ((Weak.selF [0, 0, 0, 0, 0, 1, 1]).trans (Some'.weak (.takeEq (by first | rfl | (show _ = Res.own _ _ _ (DgS.st0 Q).ns.length (nds (DgS.st0 Q).ns); rw [hqQ, hq1, h0n]; done) | (show _ = Res.own _ _ _ _ (ints (DgS.st0 Q).la); rw [hqQ, hq2]; done) | (rw [hRG]; done) | (rw [hRG, hRT]; done) | (rw [hRG, hRT, Int.emod_add_emod]; done) | (simp [DgS.runG, DgS.runT, DgS.st0]; done)) (.takeEq (by first | rfl | (show _ = Res.own _ _ _ (DgS.st0 Q).ns.length (nds (DgS.st0 Q).ns); rw [hqQ, hq1, h0n]; done) | (show _ = Res.own _ _ _ _ (ints (DgS.st0 Q).la); rw [hqQ, hq2]; done) | (rw [hRG]; done) | (rw [hRG, hRT]; done) | (rw [hRG, hRT, Int.emod_add_emod]; done) | (simp [DgS.runG, DgS.runT, DgS.st0]; done)) (.takeEq (by first | rfl | (show _ = Res.own _ _ _ (DgS.st0 Q).ns.length (nds (DgS.st0 Q).ns); rw [hqQ, hq1, h0n]; done) | (show _ = Res.own _ _ _ _ (ints (DgS.st0 Q).la); rw [hqQ, hq2]; done) | (rw [hRG]; done) | (rw [hRG, hRT]; done) | (rw [hRG, hRT, Int.emod_add_emod]; done) | (simp [DgS.runG, DgS.runT, DgS.st0]; done)) (.takeEq (by first | rfl | (show _ = Res.own _ _ _ (DgS.st0 Q).ns.length (nds (DgS.st0 Q).ns); rw [hqQ, hq1, h0n]; done) | (show _ = Res.own _ _ _ _ (ints (DgS.st0 Q).la); rw [hqQ, hq2]; done) | (rw [hRG]; done) | (rw [hRG, hRT]; done) | (rw [hRG, hRT, Int.emod_add_emod]; done) | (simp [DgS.runG, DgS.runT, DgS.st0]; done)) (.takeEq (by first | rfl | (show _ = Res.own _ _ _ (DgS.st0 Q).ns.length (nds (DgS.st0 Q).ns); rw [hqQ, hq1, h0n]; done) | (show _ = Res.own _ _ _ _ (ints (DgS.st0 Q).la); rw [hqQ, hq2]; done) | (rw [hRG]; done) | (rw [hRG, hRT]; done) | (rw [hRG, hRT, Int.emod_add_emod]; done) | (simp [DgS.runG, DgS.runT, DgS.st0]; done)) (.take (.takeEq (by first | rfl | (show _ = Res.own _ _ _ (DgS.st0 Q).ns.length (nds (DgS.st0 Q).ns); rw [hqQ, hq1, h0n]; done) | (show _ = Res.own _ _ _ _ (ints (DgS.st0 Q).la); rw [hqQ, hq2]; done) | (rw [hRG]; done) | (rw [hRG, hRT]; done) | (rw [hRG, hRT, Int.emod_add_emod]; done) | (simp [DgS.runG, DgS.runT, DgS.st0]; done)) (.nil _))))))))))
 have p54 := h54; try simp only [bs] at p54
 have hin : i = n := by omega
 refine .exit rfl ?_
 refine .seq ?_
 refine .sr ?_
 refine .fa Tfo_34_0 ?_
 refine .u (.int .i64 (((Q : Nat) : Int))) (.load1 Tone_3 rfl (.b (.tail _ (.tail _ (.tail _ (.tail _ (.tail _ (.tail _ (.head _))))))))) ?_
 refine .m ?_
 refine .done ?_
 refine .block ?_
 refine Run.loop (ι := Nat × Value × Value) [8, 63, 64, 65, 66, 67, 68, 69, 70, 71] (fun ⟨j, v5, v6⟩ => [(63, .int .i64 (((j : Nat) : Int)))]) (fun ⟨j, v5, v6⟩ => [.blk b4 50 [.int .i64 (((Q : Nat) : Int)), v5, v6, .int .i64 (DgS.runT xs n % 8), .int .i64 ((DgS.outs (DgS.runG Q xs n) j).rt), v2, .slice (some ⟨b3, 0, none⟩) Q Q], .own v5 52 2 ((DgS.outs (DgS.runG Q xs n) j).ns.length) (nds (DgS.outs (DgS.runG Q xs n) j).ns), .own v6 71 3 ((DgS.outs (DgS.runG Q xs n) j).ws.length) (wls (DgS.outs (DgS.runG Q xs n) j).ws), .own v2 3 1 Q (ints (DgS.outs (DgS.runG Q xs n) j).la), .own (.slice (some ⟨b3, 0, none⟩) Q Q) 4 1 Q (bls (DgS.outs (DgS.runG Q xs n) j).ha), .blk b2 29 [.int .i64 0, .slice none 0 0, .slice none 0 0, .int .i64 0, .int .i64 0], .blk b1 34 [.int .i64 (((Q : Nat) : Int)), .slice A n c]]) (fun ⟨j, v5, v6⟩ => j ≤ Q) (fun ⟨j, v5, v6⟩ => Q - j) (0, v3, v4) ?_ ?_ ?_ ?_
 ·exact Nat.zero_le _
 ·exact ⟨rfl, trivial⟩
 ·exact ((Weak.refl _).trans (Some'.weak (.takeEq (by first | rfl | (rw [hin]; rfl) | (rw [hin]; done)) (.takeEq (by first | rfl | (rw [hin]; rfl) | (rw [hin]; done)) (.takeEq (by first | rfl | (rw [hin]; rfl) | (rw [hin]; done)) (.takeEq (by first | rfl | (rw [hin]; rfl) | (rw [hin]; done)) (.takeEq (by first | rfl | (rw [hin]; rfl) | (rw [hin]; done)) (.take (.take (.nil _))))))))))
 rintro ⟨j, v5, v6⟩ fr hinv
 show Run _ _ (over _ _ [(63, .int .i64 (((j : Nat) : Int)))] fr) [.blk b4 50 [.int .i64 (((Q : Nat) : Int)), v5, v6, .int .i64 (DgS.runT xs n % 8), .int .i64 ((DgS.outs (DgS.runG Q xs n) j).rt), v2, .slice (some ⟨b3, 0, none⟩) Q Q], .own v5 52 2 ((DgS.outs (DgS.runG Q xs n) j).ns.length) (nds (DgS.outs (DgS.runG Q xs n) j).ns), .own v6 71 3 ((DgS.outs (DgS.runG Q xs n) j).ws.length) (wls (DgS.outs (DgS.runG Q xs n) j).ws), .own v2 3 1 Q (ints (DgS.outs (DgS.runG Q xs n) j).la), .own (.slice (some ⟨b3, 0, none⟩) Q Q) 4 1 Q (bls (DgS.outs (DgS.runG Q xs n) j).ha), .blk b2 29 [.int .i64 0, .slice none 0 0, .slice none 0 0, .int .i64 0, .int .i64 0], .blk b1 34 [.int .i64 (((Q : Nat) : Int)), .slice A n c]]
 try dsimp only at hinv
 refine .sr ?_
 refine .w (.bool (decide ((((j : Nat) : Int)) < (((Q : Nat) : Int))))) ?_
 refine .done ?_
 refine .seq ?_
 refine .cond (b := decide ((((j : Nat) : Int)) < (((Q : Nat) : Int)))) rfl (fun h64 => ?_) (fun h64 => ?_)
 ·have p64 := h64; try simp only [bs] at p64
  have hjQ : j < Q := by omega
  have hokj := DgS.outs_ok hQ.2 (DgS.runG_ok hQ hgs n (Nat.le_refl _)) j (by omega)
  refine .skip ?_
  refine .seq ?_
  refine .block ?_
  refine .sr ?_
  iterate 2 refine .m ?_
  refine .dr ?_
  iterate 3 refine .m ?_
  refine .u (.agg #[.int .i64 2, .int .i64 (((j : Nat) : Int))]) (.build (cs := [.int .i64 2, .int .i64 (((j : Nat) : Int))]) (by kernel_rfl)) ?_
  refine .step rfl (.callM (H1 := [.blk b4 50 [.int .i64 (((Q : Nat) : Int)), v5, v6, .int .i64 (DgS.runT xs n % 8), .int .i64 ((DgS.outs (DgS.runG Q xs n) j).rt), v2, .slice (some ⟨b3, 0, none⟩) Q Q], .own v5 52 2 ((DgS.outs (DgS.runG Q xs n) j).ns.length) (nds (DgS.outs (DgS.runG Q xs n) j).ns), .own v6 71 3 ((DgS.outs (DgS.runG Q xs n) j).ws.length) (wls (DgS.outs (DgS.runG Q xs n) j).ws), .own v2 3 1 Q (ints (DgS.outs (DgS.runG Q xs n) j).la), .own (.slice (some ⟨b3, 0, none⟩) Q Q) 4 1 Q (bls (DgS.outs (DgS.runG Q xs n) j).ha)]) (H2 := [.blk b2 29 [.int .i64 0, .slice none 0 0, .slice none 0 0, .int .i64 0, .int .i64 0], .blk b1 34 [.int .i64 (((Q : Nat) : Int)), .slice A n c]]) (vs := [.pointer (some ⟨b4, 0, none⟩), .int .i64 (((j : Nat) : Int)), .agg #[.int .i64 2, .int .i64 (((j : Nat) : Int))]]) (caps := []) Tcall_20 rfl rfl (Weak.refl _) (fun w hs => append_spec hokj (by omega) hjQ (hs.sub (List.sublist_append_left _ _)).self) ?_)
  rintro _ _ ⟨vn2, vw2, rfl, rfl⟩
  show Run _ _ (putF _ _ _ (.tuple #[])) [.blk b4 50 [.int .i64 (((Q : Nat) : Int)), vn2, vw2, .int .i64 (DgS.runT xs n % 8), .int .i64 ((DgS.app (DgS.outs (DgS.runG Q xs n) j) j (2, ((j : Nat) : Int))).rt), v2, .slice (some ⟨b3, 0, none⟩) Q Q], .own vn2 52 2 ((DgS.app (DgS.outs (DgS.runG Q xs n) j) j (2, ((j : Nat) : Int))).ns.length) (nds (DgS.app (DgS.outs (DgS.runG Q xs n) j) j (2, ((j : Nat) : Int))).ns), .own vw2 71 3 ((DgS.app (DgS.outs (DgS.runG Q xs n) j) j (2, ((j : Nat) : Int))).ws.length) (wls (DgS.app (DgS.outs (DgS.runG Q xs n) j) j (2, ((j : Nat) : Int))).ws), .own v2 3 1 Q (ints (DgS.app (DgS.outs (DgS.runG Q xs n) j) j (2, ((j : Nat) : Int))).la), .own (.slice (some ⟨b3, 0, none⟩) Q Q) 4 1 Q (bls (DgS.app (DgS.outs (DgS.runG Q xs n) j) j (2, ((j : Nat) : Int))).ha), .blk b2 29 [.int .i64 0, .slice none 0 0, .slice none 0 0, .int .i64 0, .int .i64 0], .blk b1 34 [.int .i64 (((Q : Nat) : Int)), .slice A n c]]
  refine .done ?_
  refine .blockEnd ?_
  refine .region ?_
  refine .u (.int .i64 ((((j : Nat) : Int)) + 1)) (.add rfl rfl rfl (by omega) (by omega)) ?_
  refine .m ?_
  refine .done ?_
  refine .goal ⟨(by repeat (first | exact Same.refl _ _ | refine Same.put rfl ?_ | refine Same.over rfl rfl ?_)), (j + 1, vn2, vw2), ?_, ?_, ?_, ?_⟩
  ·show j + 1 ≤ Q; omega
  ·show Q - (j + 1) < Q - j; omega
  ·exact ⟨(by first | rfl | (congr 1; omega) | simp), trivial⟩
  ·exact ((Weak.refl _).trans (Some'.weak (.takeEq (by first | rfl | (rw [hin]; rfl) | (rw [hin]; done)) (.takeEq (by first | rfl | (rw [hin]; rfl) | (rw [hin]; done)) (.takeEq (by first | rfl | (rw [hin]; rfl) | (rw [hin]; done)) (.takeEq (by first | rfl | (rw [hin]; rfl) | (rw [hin]; done)) (.takeEq (by first | rfl | (rw [hin]; rfl) | (rw [hin]; done)) (.take (.take (.nil _))))))))))
 have p64 := h64; try simp only [bs] at p64
 have hjQ : j = Q := by omega
 have hRO : (DgS.outs (DgS.runG Q xs n) j) = (DgS.fin Q xs n) := by rw [hjQ]; rfl
 rw [hRO]
 refine .exit rfl ?_
 refine .sr ?_
 refine .m ?_
 refine .u (.pointer (some ⟨b4, 0, none⟩)) (.nilCheck rfl) ?_
 refine .fa Tfo_50_0 ?_
 refine .u (.agg #[.int .i64 (((Q : Nat) : Int)), v5, v6, .int .i64 (DgS.runT xs n % 8), .int .i64 ((DgS.fin Q xs n).rt)]) (.loadN (cs := [.int .i64 (((Q : Nat) : Int)), v5, v6, .int .i64 (DgS.runT xs n % 8), .int .i64 ((DgS.fin Q xs n).rt)]) Tagg_29 rfl (Cells.blk (.head _) ⟨rfl, rfl, rfl, rfl, rfl, trivial⟩)) ?_
 refine .c (.tuple #[.agg #[.int .i64 0, .slice none 0 0, .slice none 0 0, .int .i64 0, .int .i64 0], .bool false]) [.agg #[.int .i64 (((Q : Nat) : Int)), v5, v6, .int .i64 (DgS.runT xs n % 8), .int .i64 ((DgS.fin Q xs n).rt)]] Tcall_21 (fun w hs => checked_false hQ hg (hs.slOwn (.tail _ (.head _))) (hs.slOwn (.tail _ (.tail _ (.head _))))) ?_
 refine .w (.agg #[.int .i64 0, .slice none 0 0, .slice none 0 0, .int .i64 0, .int .i64 0]) ?_
 refine .w (.bool false) ?_
 refine .step rfl (.storeAll (us := [.int .i64 0, .slice none 0 0, .slice none 0 0, .int .i64 0, .int .i64 0]) Tsize_29 rfl rfl rfl (.there _ (.there _ (.there _ (.there _ (.there _ (.here _)))))) rfl ?_)
 refine .m ?_
 refine .done ?_
 refine Run.weak (H' := [.own (.slice none 0 0) 52 2 0 (nds []), .blk b4 50 [.int .i64 (((Q : Nat) : Int)), v5, v6, .int .i64 (DgS.runT xs n % 8), .int .i64 ((DgS.fin Q xs n).rt), v2, .slice (some ⟨b3, 0, none⟩) Q Q], .own v5 52 2 ((DgS.fin Q xs n).ns.length) (nds (DgS.fin Q xs n).ns), .own v6 71 3 ((DgS.fin Q xs n).ws.length) (wls (DgS.fin Q xs n).ws), .own v2 3 1 Q (ints (DgS.fin Q xs n).la), .own (.slice (some ⟨b3, 0, none⟩) Q Q) 4 1 Q (bls (DgS.fin Q xs n).ha), .blk b2 29 [.int .i64 0, .slice none 0 0, .slice none 0 0, .int .i64 0, .int .i64 0], .blk b1 34 [.int .i64 (((Q : Nat) : Int)), .slice A n c]]) (Weak.nilOwn _ _) ?_ ⟨_, _, rfl, fun _ => nofun, fun _ => nofun⟩
 refine Run.weak (H' := [.own (.slice none 0 0) 71 3 0 (wls []), .own (.slice none 0 0) 52 2 0 (nds []), .blk b4 50 [.int .i64 (((Q : Nat) : Int)), v5, v6, .int .i64 (DgS.runT xs n % 8), .int .i64 ((DgS.fin Q xs n).rt), v2, .slice (some ⟨b3, 0, none⟩) Q Q], .own v5 52 2 ((DgS.fin Q xs n).ns.length) (nds (DgS.fin Q xs n).ns), .own v6 71 3 ((DgS.fin Q xs n).ws.length) (wls (DgS.fin Q xs n).ws), .own v2 3 1 Q (ints (DgS.fin Q xs n).la), .own (.slice (some ⟨b3, 0, none⟩) Q Q) 4 1 Q (bls (DgS.fin Q xs n).ha), .blk b2 29 [.int .i64 0, .slice none 0 0, .slice none 0 0, .int .i64 0, .int .i64 0], .blk b1 34 [.int .i64 (((Q : Nat) : Int)), .slice A n c]]) (Weak.nilOwn _ _) ?_ ⟨_, _, rfl, fun _ => nofun, fun _ => nofun⟩
 refine .ret ?_
 refine ⟨.tuple #[.agg #[.int .i64 0, .slice none 0 0, .slice none 0 0, .int .i64 0, .int .i64 0], .bool false], [.own (.slice none 0 0) 52 2 0 (nds []), .own (.slice none 0 0) 71 3 0 (wls [])], Out.cell2 rfl Tagg_29 rfl (Cells.blk (.tail _ (.tail _ (.tail _ (.tail _ (.tail _ (.tail _ (.tail _ (.head _)))))))) ⟨rfl, rfl, rfl, rfl, rfl, trivial⟩) rfl, ((Weak.selF [1, 0]).trans (Some'.weak (.take (.take (.nil _))))), ?_⟩
 exact ⟨_, _, rfl, rfl⟩


theorem DiagramOf_spec {N : Int} {n : Nat} {va : Value} {xs : List Int} {w : World} (hxs : Sl w va 3 n (ints xs)) : Calls Try.prog 7 #[.agg #[.int .i64 N, va]] w (Post No w fun v H => ∃ vn vw, v = .tuple #[.agg #[.int .i64 (dRes N xs n).q, vn, vw, .int .i64 (dRes N xs n).t, .int .i64 (dRes N xs n).rt], .bool (dOk N xs n)] ∧ H = [.own vn 52 2 (dRes N xs n).ns.length (nds (dRes N xs n).ns), .own vw 71 3 (dRes N xs n).ws.length (wls (dRes N xs n).ws)]) := by
  cases hc : circOk N xs n with
  | false =>
    have h1 : dOk N xs n = false := by rw [dOk, hc]; rfl
    have h2 : dRes N xs n = dgZero := by rw [dRes, h1]; rfl
    rw [h1, h2]; exact DiagramOf_a hc hxs
  | true =>
    obtain ⟨Q, rfl, hQ, hn4, hgs⟩ := circ_parts hc
    cases hg : dgGood Q xs n with
    | false =>
      have h1 : dOk (Q : Nat) xs n = false := by rw [dOk, hc, Int.toNat_natCast, hg]; rfl
      have h2 : dRes (Q : Nat) xs n = dgZero := by rw [dRes, h1]; rfl
      rw [h1, h2]; exact DiagramOf_false hQ hn4 hgs hxs hc hg
    | true =>
      have h1 : dOk (Q : Nat) xs n = true := by rw [dOk, hc, Int.toNat_natCast, hg]; rfl
      have h2 : dRes (Q : Nat) xs n = dgOf Q xs n := by rw [dRes, h1, Int.toNat_natCast]; rfl
      rw [h1, h2]; exact DiagramOf_true hQ hn4 hgs hxs hc hg

set_option maxHeartbeats 1000000 in
set_option maxRecDepth 20000 in
theorem sDiagramOf_a {N : Int} {n : Nat} {va : Value} {xs : List Int} {w : World} (hc : circOk N xs n = false) (hxs : Sl w va 3 n (ints xs)) : Calls Try.prog 5 #[.agg #[.int .i64 N, va]] w (Post No w fun v H => ∃ vn vw, v = .tuple #[.agg #[.int .i64 0, vn, vw, .int .i64 0, .int .i64 0], .bool false] ∧ H = [.own vn 52 2 ([] : List N2).length (nds ([] : List N2)), .own vw 71 3 ([] : List W3).length (wls ([] : List W3))]) := by
 obtain ⟨A, c, rfl, _, _⟩ := hxs.form0
 refine enter (n := 16) (args := [.agg #[.int .i64 N, .slice A n c]]) Try.func5 rfl rfl (St.empty _ _) ?_
 refine .sr ?_
 refine .step rfl (.box (us := [.int .i64 N, .slice A n c]) rfl fun b1 => ?_)
 refine .step rfl (.alloc (zs := [.int .i64 0, .slice none 0 0, .slice none 0 0, .int .i64 0, .int .i64 0]) Tzero_29 fun b2 => ?_)
 refine .m ?_
 refine .done ?_
 refine .seq ?_
 refine .sr ?_
 refine .u (.agg #[.int .i64 N, .slice A n c]) (.loadN (cs := [.int .i64 N, .slice A n c]) Tagg_34 rfl (Cells.blk (.tail _ (.head _)) ⟨rfl, rfl, trivial⟩)) ?_
 refine .c (.bool false) [.agg #[.int .i64 N, .slice A n c]] Tcall_14 (fun w hs => good_is hc (hs.sl hxs)) ?_
 refine .w (.bool true) ?_
 refine .done ?_
 refine .cond (b := true) rfl (fun _ => ?_) (fun h => nomatch h)
 refine .seq ?_
 refine Run.weak (H' := [.own (.slice none 0 0) 52 2 0 (nds []), .blk b2 29 [.int .i64 0, .slice none 0 0, .slice none 0 0, .int .i64 0, .int .i64 0], .blk b1 34 [.int .i64 N, .slice A n c]]) (Weak.nilOwn _ _) ?_ ⟨_, _, rfl, fun _ => nofun, fun _ => nofun⟩
 refine Run.weak (H' := [.own (.slice none 0 0) 71 3 0 (wls []), .own (.slice none 0 0) 52 2 0 (nds []), .blk b2 29 [.int .i64 0, .slice none 0 0, .slice none 0 0, .int .i64 0, .int .i64 0], .blk b1 34 [.int .i64 N, .slice A n c]]) (Weak.nilOwn _ _) ?_ ⟨_, _, rfl, fun _ => nofun, fun _ => nofun⟩
 refine .region ?_
 refine .u (.agg #[.int .i64 0, .slice none 0 0, .slice none 0 0, .int .i64 0, .int .i64 0]) (.build (cs := [.int .i64 0, .slice none 0 0, .slice none 0 0, .int .i64 0, .int .i64 0]) (by kernel_rfl)) ?_
 refine .step rfl (.storeAll (us := [.int .i64 0, .slice none 0 0, .slice none 0 0, .int .i64 0, .int .i64 0]) Tsize_29 rfl rfl rfl (.there _ (.there _ (.here _))) rfl ?_)
 refine .m ?_
 refine .done ?_
 refine .ret ?_
 refine ⟨.tuple #[.agg #[.int .i64 0, .slice none 0 0, .slice none 0 0, .int .i64 0, .int .i64 0], .bool false], [.own (.slice none 0 0) 52 2 0 (nds []), .own (.slice none 0 0) 71 3 0 (wls [])], Out.cell2 rfl Tagg_29 rfl (Cells.blk (.tail _ (.tail _ (.head _))) ⟨rfl, rfl, rfl, rfl, rfl, trivial⟩) rfl, ((Weak.selF [1, 0]).trans (Some'.weak (.take (.take (.nil _))))), ?_⟩
 exact ⟨_, _, rfl, rfl⟩

set_option maxHeartbeats 1000000 in
set_option maxRecDepth 20000 in
theorem sDiagramOf_true {Q n : Nat} {va : Value} {xs : List Int} {w : World} (hQ : 1 ≤ Q ∧ Q ≤ 5) (hn4 : n ≤ 400) (hgs : ∀ i, i < n → gateAt (Q : Int) xs i = true) (hxs : Sl w va 3 n (ints xs)) (hc : circOk (Q : Nat) xs n = true) (hg : dgGood Q xs n = true) : Calls Try.prog 5 #[.agg #[.int .i64 (Q : Nat), va]] w (Post No w fun v H => ∃ vn vw, v = .tuple #[.agg #[.int .i64 (Q : Nat), vn, vw, .int .i64 (DgS.runT xs n % 8), .int .i64 (DgS.fin Q xs n).rt], .bool true] ∧ H = [.own vn 52 2 (DgS.fin Q xs n).ns.length (nds (DgS.fin Q xs n).ns), .own vw 71 3 (DgS.fin Q xs n).ws.length (wls (DgS.fin Q xs n).ws)]) := by
 obtain ⟨A, c, rfl, _, _⟩ := hxs.form0
 have hwb := fin_wb hQ hn4 hgs
 refine enter (n := 16) (args := [.agg #[.int .i64 (((Q : Nat) : Int)), .slice A n c]]) Try.func5 rfl rfl (St.empty _ _) ?_
 refine .sr ?_
 refine .step rfl (.box (us := [.int .i64 (((Q : Nat) : Int)), .slice A n c]) rfl fun b1 => ?_)
 refine .step rfl (.alloc (zs := [.int .i64 0, .slice none 0 0, .slice none 0 0, .int .i64 0, .int .i64 0]) Tzero_29 fun b2 => ?_)
 refine .m ?_
 refine .done ?_
 refine .seq ?_
 refine .sr ?_
 refine .u (.agg #[.int .i64 (((Q : Nat) : Int)), .slice A n c]) (.loadN (cs := [.int .i64 (((Q : Nat) : Int)), .slice A n c]) Tagg_34 rfl (Cells.blk (.tail _ (.head _)) ⟨rfl, rfl, trivial⟩)) ?_
 refine .c (.bool true) [.agg #[.int .i64 (((Q : Nat) : Int)), .slice A n c]] Tcall_14 (fun w hs => good_is hc (hs.sl hxs)) ?_
 refine .w (.bool false) ?_
 refine .done ?_
 refine .cond (b := false) rfl (fun h => nomatch h) (fun _ => ?_)
 refine .skip ?_
 refine .sr ?_
 refine .u (.agg #[.int .i64 (((Q : Nat) : Int)), .slice A n c]) (.loadN (cs := [.int .i64 (((Q : Nat) : Int)), .slice A n c]) Tagg_34 rfl (Cells.blk (.tail _ (.head _)) ⟨rfl, rfl, trivial⟩)) ?_
 refine .step rfl (.c [.agg #[.int .i64 (((Q : Nat) : Int)), .slice A n c]] Tcall_15 (fun w hs => l16Of_spec hQ hn4 hgs (hs.sl hxs)) ?_)
 rintro _ _ ⟨vn, vw, rfl, rfl⟩
 show Run _ _ (putF _ _ _ (.agg #[.int .i64 (((Q : Nat) : Int)), vn, vw, .int .i64 (DgS.runT xs n % 8), .int .i64 ((DgS.fin Q xs n).rt)])) [.own vn 52 2 ((DgS.fin Q xs n).ns.length) (nds (DgS.fin Q xs n).ns), .own vw 71 3 ((DgS.fin Q xs n).ws.length) (wls (DgS.fin Q xs n).ws), .blk b2 29 [.int .i64 0, .slice none 0 0, .slice none 0 0, .int .i64 0, .int .i64 0], .blk b1 34 [.int .i64 (((Q : Nat) : Int)), .slice A n c]]
 refine .step rfl (.alloc (zs := [.int .i64 0, .slice none 0 0, .slice none 0 0, .int .i64 0, .int .i64 0]) Tzero_29 fun b3 => ?_)
 refine Run.formOwn (.tail _ (.head _)) (fun A_vn1 c_vn1 hv hcapc_vn1 hmaxc_vn1 => ?_) (fun _ _ _ => ⟨nofun, nofun, nofun⟩)
 subst hv
 refine Run.formOwn (.tail _ (.tail _ (.head _))) (fun A_vw1 c_vw1 hv hcapc_vw1 hmaxc_vw1 => ?_) (fun _ _ _ => ⟨nofun, nofun, nofun⟩)
 subst hv
 refine .step rfl (.storeAll (us := [.int .i64 (((Q : Nat) : Int)), .slice A_vn1 ((DgS.fin Q xs n).ns.length) c_vn1, .slice A_vw1 ((DgS.fin Q xs n).ws.length) c_vw1, .int .i64 (DgS.runT xs n % 8), .int .i64 ((DgS.fin Q xs n).rt)]) Tsize_29 rfl rfl rfl (.here _) rfl ?_)
 refine .done ?_
 refine .seq ?_
 refine .sr ?_
 refine .u (.agg #[.int .i64 (((Q : Nat) : Int)), .slice A_vn1 ((DgS.fin Q xs n).ns.length) c_vn1, .slice A_vw1 ((DgS.fin Q xs n).ws.length) c_vw1, .int .i64 (DgS.runT xs n % 8), .int .i64 ((DgS.fin Q xs n).rt)]) (.loadN (cs := [.int .i64 (((Q : Nat) : Int)), .slice A_vn1 ((DgS.fin Q xs n).ns.length) c_vn1, .slice A_vw1 ((DgS.fin Q xs n).ws.length) c_vw1, .int .i64 (DgS.runT xs n % 8), .int .i64 ((DgS.fin Q xs n).rt)]) Tagg_29 rfl (Cells.blk (.head _) ⟨rfl, rfl, rfl, rfl, rfl, trivial⟩)) ?_
 refine .c (.bool true) [.agg #[.int .i64 (((Q : Nat) : Int)), .slice A_vn1 ((DgS.fin Q xs n).ns.length) c_vn1, .slice A_vw1 ((DgS.fin Q xs n).ws.length) c_vw1, .int .i64 (DgS.runT xs n % 8), .int .i64 ((DgS.fin Q xs n).rt)]] Tcall_16 (fun w hs => l16_is hQ hwb hg (hs.slOwn (.tail _ (.head _))) (hs.slOwn (.tail _ (.tail _ (.head _))))) ?_
 refine .w (.bool false) ?_
 refine .done ?_
 refine .cond (b := false) rfl (fun h => nomatch h) (fun _ => ?_)
 refine .skip ?_
 refine .sr ?_
 refine .u (.agg #[.int .i64 (((Q : Nat) : Int)), .slice A_vn1 ((DgS.fin Q xs n).ns.length) c_vn1, .slice A_vw1 ((DgS.fin Q xs n).ws.length) c_vw1, .int .i64 (DgS.runT xs n % 8), .int .i64 ((DgS.fin Q xs n).rt)]) (.loadN (cs := [.int .i64 (((Q : Nat) : Int)), .slice A_vn1 ((DgS.fin Q xs n).ns.length) c_vn1, .slice A_vw1 ((DgS.fin Q xs n).ws.length) c_vw1, .int .i64 (DgS.runT xs n % 8), .int .i64 ((DgS.fin Q xs n).rt)]) Tagg_29 rfl (Cells.blk (.head _) ⟨rfl, rfl, rfl, rfl, rfl, trivial⟩)) ?_
 refine .step rfl (.storeAll (us := [.int .i64 (((Q : Nat) : Int)), .slice A_vn1 ((DgS.fin Q xs n).ns.length) c_vn1, .slice A_vw1 ((DgS.fin Q xs n).ws.length) c_vw1, .int .i64 (DgS.runT xs n % 8), .int .i64 ((DgS.fin Q xs n).rt)]) Tsize_29 rfl rfl rfl (.there _ (.there _ (.there _ (.here _)))) rfl ?_)
 refine .m ?_
 refine .done ?_
 refine .ret ?_
 refine ⟨.tuple #[.agg #[.int .i64 (((Q : Nat) : Int)), .slice A_vn1 ((DgS.fin Q xs n).ns.length) c_vn1, .slice A_vw1 ((DgS.fin Q xs n).ws.length) c_vw1, .int .i64 (DgS.runT xs n % 8), .int .i64 ((DgS.fin Q xs n).rt)], .bool true], [.own (.slice A_vn1 ((DgS.fin Q xs n).ns.length) c_vn1) 52 2 ((DgS.fin Q xs n).ns.length) (nds (DgS.fin Q xs n).ns), .own (.slice A_vw1 ((DgS.fin Q xs n).ws.length) c_vw1) 71 3 ((DgS.fin Q xs n).ws.length) (wls (DgS.fin Q xs n).ws)], Out.cell2 rfl Tagg_29 rfl (Cells.blk (.tail _ (.tail _ (.tail _ (.head _)))) ⟨rfl, rfl, rfl, rfl, rfl, trivial⟩) rfl, (Some'.weak (.skip (.take (.take (.nil _))))), ?_⟩
 exact ⟨_, _, rfl, rfl⟩

set_option maxHeartbeats 1000000 in
set_option maxRecDepth 20000 in
theorem sDiagramOf_false {Q n : Nat} {va : Value} {xs : List Int} {w : World} (hQ : 1 ≤ Q ∧ Q ≤ 5) (hn4 : n ≤ 400) (hgs : ∀ i, i < n → gateAt (Q : Int) xs i = true) (hxs : Sl w va 3 n (ints xs)) (hc : circOk (Q : Nat) xs n = true) (hg : dgGood Q xs n = false) : Calls Try.prog 5 #[.agg #[.int .i64 (Q : Nat), va]] w (Post No w fun v H => ∃ vn vw, v = .tuple #[.agg #[.int .i64 0, vn, vw, .int .i64 0, .int .i64 0], .bool false] ∧ H = [.own vn 52 2 ([] : List N2).length (nds ([] : List N2)), .own vw 71 3 ([] : List W3).length (wls ([] : List W3))]) := by
 obtain ⟨A, c, rfl, _, _⟩ := hxs.form0
 have hwb := fin_wb hQ hn4 hgs
 refine enter (n := 16) (args := [.agg #[.int .i64 (((Q : Nat) : Int)), .slice A n c]]) Try.func5 rfl rfl (St.empty _ _) ?_
 refine .sr ?_
 refine .step rfl (.box (us := [.int .i64 (((Q : Nat) : Int)), .slice A n c]) rfl fun b1 => ?_)
 refine .step rfl (.alloc (zs := [.int .i64 0, .slice none 0 0, .slice none 0 0, .int .i64 0, .int .i64 0]) Tzero_29 fun b2 => ?_)
 refine .m ?_
 refine .done ?_
 refine .seq ?_
 refine .sr ?_
 refine .u (.agg #[.int .i64 (((Q : Nat) : Int)), .slice A n c]) (.loadN (cs := [.int .i64 (((Q : Nat) : Int)), .slice A n c]) Tagg_34 rfl (Cells.blk (.tail _ (.head _)) ⟨rfl, rfl, trivial⟩)) ?_
 refine .c (.bool true) [.agg #[.int .i64 (((Q : Nat) : Int)), .slice A n c]] Tcall_14 (fun w hs => good_is hc (hs.sl hxs)) ?_
 refine .w (.bool false) ?_
 refine .done ?_
 refine .cond (b := false) rfl (fun h => nomatch h) (fun _ => ?_)
 refine .skip ?_
 refine .sr ?_
 refine .u (.agg #[.int .i64 (((Q : Nat) : Int)), .slice A n c]) (.loadN (cs := [.int .i64 (((Q : Nat) : Int)), .slice A n c]) Tagg_34 rfl (Cells.blk (.tail _ (.head _)) ⟨rfl, rfl, trivial⟩)) ?_
 refine .step rfl (.c [.agg #[.int .i64 (((Q : Nat) : Int)), .slice A n c]] Tcall_15 (fun w hs => l16Of_spec hQ hn4 hgs (hs.sl hxs)) ?_)
 rintro _ _ ⟨vn, vw, rfl, rfl⟩
 show Run _ _ (putF _ _ _ (.agg #[.int .i64 (((Q : Nat) : Int)), vn, vw, .int .i64 (DgS.runT xs n % 8), .int .i64 ((DgS.fin Q xs n).rt)])) [.own vn 52 2 ((DgS.fin Q xs n).ns.length) (nds (DgS.fin Q xs n).ns), .own vw 71 3 ((DgS.fin Q xs n).ws.length) (wls (DgS.fin Q xs n).ws), .blk b2 29 [.int .i64 0, .slice none 0 0, .slice none 0 0, .int .i64 0, .int .i64 0], .blk b1 34 [.int .i64 (((Q : Nat) : Int)), .slice A n c]]
 refine .step rfl (.alloc (zs := [.int .i64 0, .slice none 0 0, .slice none 0 0, .int .i64 0, .int .i64 0]) Tzero_29 fun b3 => ?_)
 refine Run.formOwn (.tail _ (.head _)) (fun A_vn1 c_vn1 hv hcapc_vn1 hmaxc_vn1 => ?_) (fun _ _ _ => ⟨nofun, nofun, nofun⟩)
 subst hv
 refine Run.formOwn (.tail _ (.tail _ (.head _))) (fun A_vw1 c_vw1 hv hcapc_vw1 hmaxc_vw1 => ?_) (fun _ _ _ => ⟨nofun, nofun, nofun⟩)
 subst hv
 refine .step rfl (.storeAll (us := [.int .i64 (((Q : Nat) : Int)), .slice A_vn1 ((DgS.fin Q xs n).ns.length) c_vn1, .slice A_vw1 ((DgS.fin Q xs n).ws.length) c_vw1, .int .i64 (DgS.runT xs n % 8), .int .i64 ((DgS.fin Q xs n).rt)]) Tsize_29 rfl rfl rfl (.here _) rfl ?_)
 refine .done ?_
 refine .seq ?_
 refine .sr ?_
 refine .u (.agg #[.int .i64 (((Q : Nat) : Int)), .slice A_vn1 ((DgS.fin Q xs n).ns.length) c_vn1, .slice A_vw1 ((DgS.fin Q xs n).ws.length) c_vw1, .int .i64 (DgS.runT xs n % 8), .int .i64 ((DgS.fin Q xs n).rt)]) (.loadN (cs := [.int .i64 (((Q : Nat) : Int)), .slice A_vn1 ((DgS.fin Q xs n).ns.length) c_vn1, .slice A_vw1 ((DgS.fin Q xs n).ws.length) c_vw1, .int .i64 (DgS.runT xs n % 8), .int .i64 ((DgS.fin Q xs n).rt)]) Tagg_29 rfl (Cells.blk (.head _) ⟨rfl, rfl, rfl, rfl, rfl, trivial⟩)) ?_
 refine .c (.bool false) [.agg #[.int .i64 (((Q : Nat) : Int)), .slice A_vn1 ((DgS.fin Q xs n).ns.length) c_vn1, .slice A_vw1 ((DgS.fin Q xs n).ws.length) c_vw1, .int .i64 (DgS.runT xs n % 8), .int .i64 ((DgS.fin Q xs n).rt)]] Tcall_16 (fun w hs => l16_is hQ hwb hg (hs.slOwn (.tail _ (.head _))) (hs.slOwn (.tail _ (.tail _ (.head _))))) ?_
 refine .w (.bool true) ?_
 refine .done ?_
 refine .cond (b := true) rfl (fun _ => ?_) (fun h => nomatch h)
 refine .seq ?_
 refine Run.weak (H' := [.own (.slice none 0 0) 52 2 0 (nds []), .blk b3 29 [.int .i64 (((Q : Nat) : Int)), .slice A_vn1 ((DgS.fin Q xs n).ns.length) c_vn1, .slice A_vw1 ((DgS.fin Q xs n).ws.length) c_vw1, .int .i64 (DgS.runT xs n % 8), .int .i64 ((DgS.fin Q xs n).rt)], .own (.slice A_vn1 ((DgS.fin Q xs n).ns.length) c_vn1) 52 2 ((DgS.fin Q xs n).ns.length) (nds (DgS.fin Q xs n).ns), .own (.slice A_vw1 ((DgS.fin Q xs n).ws.length) c_vw1) 71 3 ((DgS.fin Q xs n).ws.length) (wls (DgS.fin Q xs n).ws), .blk b2 29 [.int .i64 0, .slice none 0 0, .slice none 0 0, .int .i64 0, .int .i64 0], .blk b1 34 [.int .i64 (((Q : Nat) : Int)), .slice A n c]]) (Weak.nilOwn _ _) ?_ ⟨_, _, rfl, fun _ => nofun, fun _ => nofun⟩
 refine Run.weak (H' := [.own (.slice none 0 0) 71 3 0 (wls []), .own (.slice none 0 0) 52 2 0 (nds []), .blk b3 29 [.int .i64 (((Q : Nat) : Int)), .slice A_vn1 ((DgS.fin Q xs n).ns.length) c_vn1, .slice A_vw1 ((DgS.fin Q xs n).ws.length) c_vw1, .int .i64 (DgS.runT xs n % 8), .int .i64 ((DgS.fin Q xs n).rt)], .own (.slice A_vn1 ((DgS.fin Q xs n).ns.length) c_vn1) 52 2 ((DgS.fin Q xs n).ns.length) (nds (DgS.fin Q xs n).ns), .own (.slice A_vw1 ((DgS.fin Q xs n).ws.length) c_vw1) 71 3 ((DgS.fin Q xs n).ws.length) (wls (DgS.fin Q xs n).ws), .blk b2 29 [.int .i64 0, .slice none 0 0, .slice none 0 0, .int .i64 0, .int .i64 0], .blk b1 34 [.int .i64 (((Q : Nat) : Int)), .slice A n c]]) (Weak.nilOwn _ _) ?_ ⟨_, _, rfl, fun _ => nofun, fun _ => nofun⟩
 refine .region ?_
 refine .u (.agg #[.int .i64 0, .slice none 0 0, .slice none 0 0, .int .i64 0, .int .i64 0]) (.build (cs := [.int .i64 0, .slice none 0 0, .slice none 0 0, .int .i64 0, .int .i64 0]) (by kernel_rfl)) ?_
 refine .step rfl (.storeAll (us := [.int .i64 0, .slice none 0 0, .slice none 0 0, .int .i64 0, .int .i64 0]) Tsize_29 rfl rfl rfl (.there _ (.there _ (.there _ (.there _ (.there _ (.here _)))))) rfl ?_)
 refine .m ?_
 refine .done ?_
 refine .ret ?_
 refine ⟨.tuple #[.agg #[.int .i64 0, .slice none 0 0, .slice none 0 0, .int .i64 0, .int .i64 0], .bool false], [.own (.slice none 0 0) 52 2 0 (nds []), .own (.slice none 0 0) 71 3 0 (wls [])], Out.cell2 rfl Tagg_29 rfl (Cells.blk (.tail _ (.tail _ (.tail _ (.tail _ (.tail _ (.head _)))))) ⟨rfl, rfl, rfl, rfl, rfl, trivial⟩) rfl, ((Weak.selF [1, 0]).trans (Some'.weak (.take (.take (.nil _))))), ?_⟩
 exact ⟨_, _, rfl, rfl⟩


theorem sDiagramOf_spec {N : Int} {n : Nat} {va : Value} {xs : List Int} {w : World} (hxs : Sl w va 3 n (ints xs)) : Calls Try.prog 5 #[.agg #[.int .i64 N, va]] w (Post No w fun v H => ∃ vn vw, v = .tuple #[.agg #[.int .i64 (dRes N xs n).q, vn, vw, .int .i64 (dRes N xs n).t, .int .i64 (dRes N xs n).rt], .bool (dOk N xs n)] ∧ H = [.own vn 52 2 (dRes N xs n).ns.length (nds (dRes N xs n).ns), .own vw 71 3 (dRes N xs n).ws.length (wls (dRes N xs n).ws)]) := by
  cases hc : circOk N xs n with
  | false =>
    have h1 : dOk N xs n = false := by rw [dOk, hc]; rfl
    have h2 : dRes N xs n = dgZero := by rw [dRes, h1]; rfl
    rw [h1, h2]; exact sDiagramOf_a hc hxs
  | true =>
    obtain ⟨Q, rfl, hQ, hn4, hgs⟩ := circ_parts hc
    cases hg : dgGood Q xs n with
    | false =>
      have h1 : dOk (Q : Nat) xs n = false := by rw [dOk, hc, Int.toNat_natCast, hg]; rfl
      have h2 : dRes (Q : Nat) xs n = dgZero := by rw [dRes, h1]; rfl
      rw [h1, h2]; exact sDiagramOf_false hQ hn4 hgs hxs hc hg
    | true =>
      have h1 : dOk (Q : Nat) xs n = true := by rw [dOk, hc, Int.toNat_natCast, hg]; rfl
      have h2 : dRes (Q : Nat) xs n = dgOf Q xs n := by rw [dRes, h1, Int.toNat_natCast]; rfl
      rw [h1, h2]; exact sDiagramOf_true hQ hn4 hgs hxs hc hg

end Go.Proofs.Ytnnkoeknejeieaa
