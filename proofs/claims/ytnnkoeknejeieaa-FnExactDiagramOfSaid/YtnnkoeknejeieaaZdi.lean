/- A circuit is drawn: plain function; walk of the reference. -/
import Derived.Test.YtnnkoeknejeieaaZdh
import Derived.Test.YtnnkoeknejeieaaProg
set_option linter.unusedSimpArgs false
set_option linter.unusedVariables false
namespace Go.Proofs.Ytnnkoeknejeieaa
open Go Go.RowKit
namespace ZdiT
theorem Tagg_29 : aggOf Try.prog 29 = some 5 := by kernel_rfl
theorem Tagg_54 : aggOf Try.prog 54 = some 3 := by kernel_rfl
theorem Tcall_32 : callable Try.prog 32 = true := by kernel_rfl
theorem Tcall_33 : callable Try.prog 33 = true := by kernel_rfl
theorem Tfo_29_1 : fieldOff Try.prog 29 1 = some 1 := by kernel_rfl
theorem Tfo_29_3 : fieldOff Try.prog 29 3 = some 3 := by kernel_rfl
theorem Tfo_34_0 : fieldOff Try.prog 34 0 = some 0 := by kernel_rfl
theorem Tfo_34_1 : fieldOff Try.prog 34 1 = some 1 := by kernel_rfl
theorem Tfo_68_0 : fieldOff Try.prog 68 0 = some 0 := by kernel_rfl
theorem Tfo_68_1 : fieldOff Try.prog 68 1 = some 5 := by kernel_rfl
theorem Tone_26 : oneOf Try.prog 26 = true := by kernel_rfl
theorem Tone_3 : oneOf Try.prog 3 = true := by kernel_rfl
theorem Tone_32 : oneOf Try.prog 32 = true := by kernel_rfl
theorem Tone_48 : oneOf Try.prog 48 = true := by kernel_rfl
theorem Tsize_26 : (Try.prog.info? 26).map (·.size) = some 1 := by kernel_rfl
theorem Tsize_29 : (Try.prog.info? 29).map (·.size) = some 5 := by kernel_rfl
theorem Tsize_3 : (Try.prog.info? 3).map (·.size) = some 1 := by kernel_rfl
theorem Tsize_48 : (Try.prog.info? 48).map (·.size) = some 1 := by kernel_rfl
theorem Tsize_54 : (Try.prog.info? 54).map (·.size) = some 3 := by kernel_rfl
theorem Tsl_26 : sliceOf Try.prog 26 = some (52, 2, 16, [.int .i64 0, .int .i64 0]) := by kernel_rfl
theorem Tsl_32 : sliceOf Try.prog 32 = some (54, 3, 24, [.int .i64 0, .int .i64 0, .int .i64 0]) := by kernel_rfl
theorem Tsl_47 : sliceOf Try.prog 47 = some (4, 1, 1, [.bool false]) := by kernel_rfl
theorem Tsl_48 : sliceOf Try.prog 48 = some (3, 1, 8, [.int .i64 0]) := by kernel_rfl
theorem Tzero_29 : zeroOf Try.prog 29 = some [.int .i64 0, .slice none 0 0, .slice none 0 0, .int .i64 0, .int .i64 0] := by kernel_rfl
theorem Tzero_54 : zeroOf Try.prog 54 = some [.int .i64 0, .int .i64 0, .int .i64 0] := by kernel_rfl
end ZdiT
open ZdiT

namespace DgS
/-- The beginning: an input for each qubit. -/
def st0 (Q : Nat) : DgS := ⟨(List.range Q).map fun q : Nat => (1, (q : Int)), [], 0, (List.range Q).map fun q : Nat => (q : Int), List.replicate Q false⟩
/-- .. after i gates. -/
def runG (Q : Nat) (xs : List Int) : Nat → DgS
  | 0 => st0 Q
  | i + 1 => (runG Q xs i).gate (ix xs (i * 3)) (ix xs (i * 3 + 1)).toNat (ix xs (i * 3 + 2)).toNat
def runT (xs : List Int) : Nat → Int
  | 0 => 0
  | i + 1 => runT xs i + tn (ix xs (i * 3))
/-- .. and q outputs. -/
def outs (S : DgS) : Nat → DgS
  | 0 => S
  | q + 1 => (outs S q).app q (2, (q : Int))
theorem st0_ok (Q : Nat) (hQ : Q ≤ 5) : (st0 Q).Ok Q Q := by
  have hn : (st0 Q).ns.length = Q := by simp [st0]
  refine ⟨by simp [st0], by simp [st0], fun q hq => ?_, List.Pairwise.nil, fun x hx => by simp [st0] at hx, fun k hk => ?_, by rw [hn]; exact Nat.le_refl _, by simp [st0], by simp only [st0]; omega⟩
  · rw [hn]
    have e : ix (st0 Q).la q = q := by simp [st0, ix, List.getD, hq]
    rw [e]; omega
  · rw [hn] at hk
    have e : ndx (st0 Q).ns k = (1, (k : Int)) := by simp [st0, ndx, List.getD, hk]
    rw [e]; simp only; omega
theorem tn_bd (k : Int) : 0 ≤ tn k ∧ tn k ≤ 2 := by
  unfold tn; split
  · omega
  · split <;> omega
theorem runT_bd (xs : List Int) : ∀ i : Nat, 0 ≤ runT xs i ∧ runT xs i ≤ 2 * i
  | 0 => by simp [runT]
  | i + 1 => by
    have := runT_bd xs i
    have := tn_bd (ix xs (i * 3))
    simp only [runT]; omega
/-- What the gates of a valid circuit are. -/
theorem gateAt_split {Q : Nat} {xs : List Int} {i : Nat} (h : gateAt (Q : Int) xs i = true) (hQ : 1 ≤ Q) : (1 ≤ ix xs (i * 3) ∧ ix xs (i * 3) ≤ 12) ∧ (0 ≤ ix xs (i * 3 + 1) ∧ (ix xs (i * 3 + 1)).toNat < Q) ∧ (0 ≤ ix xs (i * 3 + 2) ∧ (ix xs (i * 3 + 2)).toNat < Q) ∧ (9 ≤ ix xs (i * 3) ∧ ix xs (i * 3) ≤ 11 → (ix xs (i * 3 + 1)).toNat ≠ (ix xs (i * 3 + 2)).toNat) := by
  rcases gateOk_split h with h1 | h1 | h1 <;> omega
theorem runG_ok {Q : Nat} {xs : List Int} {n : Nat} (hQ : 1 ≤ Q ∧ Q ≤ 5) (h : ∀ i, i < n → gateAt (Q : Int) xs i = true) : ∀ i, i ≤ n → (runG Q xs i).Ok Q (Q + 3 * i)
  | 0, _ => st0_ok Q hQ.2
  | i + 1, hi => by
    have g := gateAt_split (h i (by omega)) hQ.1
    exact ((runG_ok hQ h i (by omega)).gate g.2.1.2 g.2.2.1.2).mono (by omega)
theorem outs_ok {Q m : Nat} {S : DgS} (hQ : Q ≤ 5) (h : S.Ok Q m) : ∀ q, q ≤ Q → (outs S q).Ok Q (m + q)
  | 0, _ => h
  | q + 1, hq => (outs_ok hQ h q (by omega)).app (by omega) (by simp only; omega)
/-- The whole diagram but its turn. -/
def fin (Q : Nat) (xs : List Int) (n : Nat) : DgS := outs (runG Q xs n) Q
theorem st0_ns (Q q : Nat) (h : q < Q) : (st0 Q).ns.take (q + 1) = (st0 Q).ns.take q ++ [(1, (q : Int))] := by
  rw [List.take_succ_eq_append_getElem (by simpa [st0] using h)]
  simp [st0]
theorem st0_la (Q q : Nat) (h : q < Q) : (st0 Q).la.take (q + 1) = (st0 Q).la.take q ++ [(q : Int)] := by
  rw [List.take_succ_eq_append_getElem (by simpa [st0] using h)]
  simp [st0]
end DgS

set_option maxHeartbeats 4000000 in
set_option maxRecDepth 20000 in
theorem l16Of_spec {Q n : Nat} {va : Value} {xs : List Int} {w : World} (hQ : 1 ≤ Q ∧ Q ≤ 5) (hn4 : n ≤ 400) (hgs : ∀ i, i < n → gateAt (Q : Int) xs i = true) (hxs : Sl w va 3 n (ints xs)) : Calls Try.prog 15 #[.agg #[.int .i64 (Q : Nat), va]] w (Post No w fun v H => ∃ vn vw, v = .agg #[.int .i64 (Q : Nat), vn, vw, .int .i64 (DgS.runT xs n % 8), .int .i64 (DgS.fin Q xs n).rt] ∧ H = [.own vn 52 2 (DgS.fin Q xs n).ns.length (nds (DgS.fin Q xs n).ns), .own vw 71 3 (DgS.fin Q xs n).ws.length (wls (DgS.fin Q xs n).ws)]) := by
 have hxl := hxs.len
 have hnle := hxs.le
 obtain ⟨A, c, rfl, _, _⟩ := hxs.form0
 have h0n : (DgS.st0 Q).ns.length = Q := by simp [DgS.st0]
 have h0l : (DgS.st0 Q).la.length = Q := by simp [DgS.st0]
 have hbT := DgS.runT_bd xs n
 refine enter (n := 79) (args := [.agg #[.int .i64 (((Q : Nat) : Int)), .slice A n c]]) Try.func15 rfl rfl (St.empty _ _) ?_
 refine .sr ?_
 refine .step rfl (.box (us := [.int .i64 (((Q : Nat) : Int)), .slice A n c]) rfl fun b1 => ?_)
 refine .step rfl (.alloc (zs := [.int .i64 0, .slice none 0 0, .slice none 0 0, .int .i64 0, .int .i64 0]) Tzero_29 fun b2 => ?_)
 refine .done ?_
 refine .seq ?_
 refine .held (by kernel_rfl) ?_
 refine DW.t 0 rfl (Weak.refl _) (.pointer (some ⟨b1, 0, none⟩)) (.fieldAddr Tfo_34_0 rfl rfl) ?_
 refine DW.t 1 rfl (Weak.refl _) (.int .i64 (((Q : Nat) : Int))) (.load1 Tone_3 rfl (.b (.tail _ (.head _)))) ?_
 refine DW.t 2 rfl (Weak.refl _) (.agg #[.int .i64 (((Q : Nat) : Int)), .slice none 0 0, .slice none 0 0, .int .i64 0, .int .i64 0]) (.build (cs := [.int .i64 (((Q : Nat) : Int)), .slice none 0 0, .slice none 0 0, .int .i64 0, .int .i64 0]) (by kernel_rfl)) ?_
 refine DW.t 3 rfl (Weak.refl _) (.pointer (some ⟨b1, 0, none⟩)) (.fieldAddr Tfo_34_0 rfl rfl) ?_
 refine DW.t 4 rfl (Weak.refl _) (.int .i64 (((Q : Nat) : Int))) (.load1 Tone_3 rfl (.b (.tail _ (.head _)))) ?_
 refine DW.step (i := 5) (by kernel_rfl) rfl rfl (OpStep.makeSlice (n := Q) Tsl_47 rfl (by decide) (by first | rfl | omega) (by first | rfl | omega) (by omega) (by simp only [maxLen]; omega) fun b3 => ?_)
 refine ⟨(Some'.weak (.skip (.take (.take (.nil _))))), ?_⟩
 refine DW.t 6 rfl (Some'.weak (.skip (.take (.take (.nil _))))) (.agg #[.int .i64 (((Q : Nat) : Int)), .slice none 0 0, .slice none 0 0, .int .i64 0, .int .i64 0, .slice none 0 0, .slice (some ⟨b3, 0, none⟩) Q Q]) (.build (cs := [.int .i64 (((Q : Nat) : Int)), .slice none 0 0, .slice none 0 0, .int .i64 0, .int .i64 0, .slice none 0 0, .slice (some ⟨b3, 0, none⟩) Q Q]) (by kernel_rfl)) ?_
 refine DW.step (i := 7) (by kernel_rfl) rfl rfl (OpStep.box (us := [.int .i64 (((Q : Nat) : Int)), .slice none 0 0, .slice none 0 0, .int .i64 0, .int .i64 0, .slice none 0 0, .slice (some ⟨b3, 0, none⟩) Q Q]) rfl fun b4 => ?_)
 refine ⟨(Some'.weak (.skip (.skip (.take (.take (.nil _)))))), ?_⟩
 refine DW.m 8 rfl (Some'.weak (.skip (.skip (.take (.take (.nil _)))))) ?_
 refine DW.done (by kernel_rfl) ?_
 refine .seq ?_
 refine .seq ?_
 refine Run.weak (H' := [.blk b4 68 [.int .i64 (((Q : Nat) : Int)), .slice none 0 0, .slice none 0 0, .int .i64 0, .int .i64 0, .slice none 0 0, .slice (some ⟨b3, 0, none⟩) Q Q], .own (.slice (some ⟨b3, 0, none⟩) Q Q) 4 1 Q (bls (DgS.st0 Q).ha), .blk b2 29 [.int .i64 0, .slice none 0 0, .slice none 0 0, .int .i64 0, .int .i64 0], .blk b1 34 [.int .i64 (((Q : Nat) : Int)), .slice A n c]]) (Some'.weak (.take (.takeEq (by rw [bls_rep]; rfl) (.take (.take (.nil _)))))) ?_ ⟨_, _, rfl, fun _ => nofun, fun _ => nofun⟩
 refine Run.weak (H' := [.own (.slice none 0 0) 52 2 0 (nds []), .blk b4 68 [.int .i64 (((Q : Nat) : Int)), .slice none 0 0, .slice none 0 0, .int .i64 0, .int .i64 0, .slice none 0 0, .slice (some ⟨b3, 0, none⟩) Q Q], .own (.slice (some ⟨b3, 0, none⟩) Q Q) 4 1 Q (bls (DgS.st0 Q).ha), .blk b2 29 [.int .i64 0, .slice none 0 0, .slice none 0 0, .int .i64 0, .int .i64 0], .blk b1 34 [.int .i64 (((Q : Nat) : Int)), .slice A n c]]) (Weak.nilOwn _ _) ?_ ⟨_, _, rfl, fun _ => nofun, fun _ => nofun⟩
 refine Run.weak (H' := [.own (.slice none 0 0) 3 1 0 (ints []), .own (.slice none 0 0) 52 2 0 (nds []), .blk b4 68 [.int .i64 (((Q : Nat) : Int)), .slice none 0 0, .slice none 0 0, .int .i64 0, .int .i64 0, .slice none 0 0, .slice (some ⟨b3, 0, none⟩) Q Q], .own (.slice (some ⟨b3, 0, none⟩) Q Q) 4 1 Q (bls (DgS.st0 Q).ha), .blk b2 29 [.int .i64 0, .slice none 0 0, .slice none 0 0, .int .i64 0, .int .i64 0], .blk b1 34 [.int .i64 (((Q : Nat) : Int)), .slice A n c]]) (Weak.nilOwn _ _) ?_ ⟨_, _, rfl, fun _ => nofun, fun _ => nofun⟩
 refine .region ?_
 refine .m ?_
 refine .done ?_
 refine .block ?_
 refine Run.loop (ι := Nat × Value × Value) [4, 16, 17, 18, 19, 20, 21, 22, 23, 24, 25, 26, 27, 28, 29, 30, 31, 32, 33, 34, 35, 36, 37, 38, 39, 40, 41, 42, 43, 44] (fun ⟨q, v1, v2⟩ => [(4, .int .i64 (((q : Nat) : Int)))]) (fun ⟨q, v1, v2⟩ => [.blk b4 68 [.int .i64 (((Q : Nat) : Int)), v1, .slice none 0 0, .int .i64 0, .int .i64 0, v2, .slice (some ⟨b3, 0, none⟩) Q Q], .own v1 52 2 q (nds ((DgS.st0 Q).ns.take q)), .own v2 3 1 q (ints ((DgS.st0 Q).la.take q)), .own (.slice (some ⟨b3, 0, none⟩) Q Q) 4 1 Q (bls (DgS.st0 Q).ha), .blk b2 29 [.int .i64 0, .slice none 0 0, .slice none 0 0, .int .i64 0, .int .i64 0], .blk b1 34 [.int .i64 (((Q : Nat) : Int)), .slice A n c]]) (fun ⟨q, v1, v2⟩ => q ≤ Q) (fun ⟨q, v1, v2⟩ => Q - q) (0, .slice none 0 0, .slice none 0 0) ?_ ?_ ?_ ?_
 ·exact Nat.zero_le _
 ·exact ⟨rfl, trivial⟩
 ·exact ((Weak.selF [2, 1, 0, 0, 0, 0]).trans (Some'.weak (.takeEq (by first | rfl | simp) (.takeEq (by first | rfl | simp) (.takeEq (by first | rfl | simp) (.take (.take (.take (.nil _)))))))))
 rintro ⟨q, v1, v2⟩ fr hinv
 show Run _ _ (over _ _ [(4, .int .i64 (((q : Nat) : Int)))] fr) [.blk b4 68 [.int .i64 (((Q : Nat) : Int)), v1, .slice none 0 0, .int .i64 0, .int .i64 0, v2, .slice (some ⟨b3, 0, none⟩) Q Q], .own v1 52 2 q (nds ((DgS.st0 Q).ns.take q)), .own v2 3 1 q (ints ((DgS.st0 Q).la.take q)), .own (.slice (some ⟨b3, 0, none⟩) Q Q) 4 1 Q (bls (DgS.st0 Q).ha), .blk b2 29 [.int .i64 0, .slice none 0 0, .slice none 0 0, .int .i64 0, .int .i64 0], .blk b1 34 [.int .i64 (((Q : Nat) : Int)), .slice A n c]]
 try dsimp only at hinv
 refine .seq ?_
 refine .sr ?_
 refine .m ?_
 refine .fa Tfo_34_0 ?_
 refine .u (.int .i64 (((Q : Nat) : Int))) (.load1 Tone_3 rfl (.b (.tail _ (.tail _ (.tail _ (.tail _ (.tail _ (.head _)))))))) ?_
 refine .w (.bool (decide ((((q : Nat) : Int)) < (((Q : Nat) : Int))))) ?_
 refine .done ?_
 refine .cond (b := decide ((((q : Nat) : Int)) < (((Q : Nat) : Int)))) rfl (fun h19 => ?_) (fun h19 => ?_)
 ·have p19 := h19; try simp only [bs] at p19
  refine .skip ?_
  refine .seq ?_
  refine .block ?_
  refine .sr ?_
  iterate 2 refine .m ?_
  refine .u (.pointer (some ⟨b4, 0, none⟩)) (.nilCheck rfl) ?_
  refine .fa Tfo_68_0 ?_
  refine .fa Tfo_29_1 ?_
  refine .u v1 (.load1 Tone_26 rfl (.b (.head _))) ?_
  refine .m ?_
  refine .u (.agg #[.int .i64 1, .int .i64 (((q : Nat) : Int))]) (.build (cs := [.int .i64 1, .int .i64 (((q : Nat) : Int))]) (by kernel_rfl)) ?_
  refine .step rfl (.buildSlice (us := [.int .i64 1, .int .i64 (((q : Nat) : Int))]) Tsl_26 (by decide) (by decide) ⟨rfl, [.int .i64 1, .int .i64 (((q : Nat) : Int))], _, rfl, rfl, rfl, rfl⟩ rfl fun b5 => ?_)
  refine .step rfl (.append (H1 := [.own (.slice (some ⟨b5, 0, none⟩) 1 1) 52 2 1 ([.int .i64 1, .int .i64 (((q : Nat) : Int))]), .blk b4 68 [.int .i64 (((Q : Nat) : Int)), v1, .slice none 0 0, .int .i64 0, .int .i64 0, v2, .slice (some ⟨b3, 0, none⟩) Q Q]]) (H2 := [.own v2 3 1 q (ints ((DgS.st0 Q).la.take q)), .own (.slice (some ⟨b3, 0, none⟩) Q Q) 4 1 Q (bls (DgS.st0 Q).ha), .blk b2 29 [.int .i64 0, .slice none 0 0, .slice none 0 0, .int .i64 0, .int .i64 0], .blk b1 34 [.int .i64 (((Q : Nat) : Int)), .slice A n c]]) (v := v1) (u := .slice (some ⟨b5, 0, none⟩) 1 1) (n := q) (m := 1) (xs := nds ((DgS.st0 Q).ns.take q)) (ys := [.int .i64 1, .int .i64 (((q : Nat) : Int))]) Tsl_26 (by decide) rfl rfl rfl rfl (fun w hs => hs.slOwn (.head _)) (by simp [Value.oneCell']) (by omega) (by simp only [maxLen]; omega) fun av1 hnav1 => ?_)
  refine Run.weak (H' := [.own (.slice (some ⟨b5, 0, none⟩) 1 1) 52 2 1 ([.int .i64 1, .int .i64 (((q : Nat) : Int))]), .blk b4 68 [.int .i64 (((Q : Nat) : Int)), v1, .slice none 0 0, .int .i64 0, .int .i64 0, v2, .slice (some ⟨b3, 0, none⟩) Q Q], .own av1 52 2 (q + 1) (nds ((DgS.st0 Q).ns.take (q + 1))), .own v2 3 1 q (ints ((DgS.st0 Q).la.take q)), .own (.slice (some ⟨b3, 0, none⟩) Q Q) 4 1 Q (bls (DgS.st0 Q).ha), .blk b2 29 [.int .i64 0, .slice none 0 0, .slice none 0 0, .int .i64 0, .int .i64 0], .blk b1 34 [.int .i64 (((Q : Nat) : Int)), .slice A n c]]) (Some'.weak (.take (.take (.takeEq (by rw [DgS.st0_ns Q q (by omega), nds_append, nds_one]) (.take (.take (.take (.take (.nil _))))))))) ?_ ⟨_, _, rfl, fun _ => nofun, fun _ => nofun⟩
  refine .u (.pointer (some ⟨b4, 0, none⟩)) (.nilCheck rfl) ?_
  refine .fa Tfo_68_0 ?_
  refine .fa Tfo_29_1 ?_
  refine Run.formOwn (.tail _ (.tail _ (.head _))) (fun A_av11 c_av11 hv hcapc_av11 hmaxc_av11 => ?_) (fun _ _ _ => ⟨nofun, nofun, nofun⟩)
  subst hv
  refine .step rfl (.store (us := [.slice A_av11 (q + 1) c_av11]) Tsize_26 rfl rfl rfl (.there _ (.here _)) (by simp only [List.length_cons, List.length_nil]; omega) ?_)
  show Run _ _ _ [.own (.slice (some ⟨b5, 0, none⟩) 1 1) 52 2 1 ([.int .i64 1, .int .i64 (((q : Nat) : Int))]), .blk b4 68 [.int .i64 (((Q : Nat) : Int)), .slice A_av11 (q + 1) c_av11, .slice none 0 0, .int .i64 0, .int .i64 0, v2, .slice (some ⟨b3, 0, none⟩) Q Q], .own (.slice A_av11 (q + 1) c_av11) 52 2 (q + 1) (nds ((DgS.st0 Q).ns.take (q + 1))), .own v2 3 1 q (ints ((DgS.st0 Q).la.take q)), .own (.slice (some ⟨b3, 0, none⟩) Q Q) 4 1 Q (bls (DgS.st0 Q).ha), .blk b2 29 [.int .i64 0, .slice none 0 0, .slice none 0 0, .int .i64 0, .int .i64 0], .blk b1 34 [.int .i64 (((Q : Nat) : Int)), .slice A n c]]
  refine .dr ?_
  iterate 2 refine .m ?_
  refine .u (.pointer (some ⟨b4, 0, none⟩)) (.nilCheck rfl) ?_
  refine .fa Tfo_68_1 ?_
  refine .u v2 (.load1 Tone_48 rfl (.b (.tail _ (.head _)))) ?_
  refine .m ?_
  refine .step rfl (.buildSlice (us := [.int .i64 (((q : Nat) : Int))]) Tsl_48 (by decide) (by decide) ⟨rfl, [.int .i64 (((q : Nat) : Int))], _, rfl, rfl, rfl, rfl⟩ rfl fun b6 => ?_)
  refine .step rfl (.append (H1 := [.own (.slice (some ⟨b6, 0, none⟩) 1 1) 3 1 1 ([.int .i64 (((q : Nat) : Int))]), .own (.slice (some ⟨b5, 0, none⟩) 1 1) 52 2 1 ([.int .i64 1, .int .i64 (((q : Nat) : Int))]), .blk b4 68 [.int .i64 (((Q : Nat) : Int)), .slice A_av11 (q + 1) c_av11, .slice none 0 0, .int .i64 0, .int .i64 0, v2, .slice (some ⟨b3, 0, none⟩) Q Q], .own (.slice A_av11 (q + 1) c_av11) 52 2 (q + 1) (nds ((DgS.st0 Q).ns.take (q + 1)))]) (H2 := [.own (.slice (some ⟨b3, 0, none⟩) Q Q) 4 1 Q (bls (DgS.st0 Q).ha), .blk b2 29 [.int .i64 0, .slice none 0 0, .slice none 0 0, .int .i64 0, .int .i64 0], .blk b1 34 [.int .i64 (((Q : Nat) : Int)), .slice A n c]]) (v := v2) (u := .slice (some ⟨b6, 0, none⟩) 1 1) (n := q) (m := 1) (xs := ints ((DgS.st0 Q).la.take q)) (ys := [.int .i64 (((q : Nat) : Int))]) Tsl_48 (by decide) rfl rfl rfl rfl (fun w hs => hs.slOwn (.head _)) (by simp [Value.oneCell']) (by omega) (by simp only [maxLen]; omega) fun av2 hnav2 => ?_)
  refine Run.weak (H' := [.own (.slice (some ⟨b6, 0, none⟩) 1 1) 3 1 1 ([.int .i64 (((q : Nat) : Int))]), .own (.slice (some ⟨b5, 0, none⟩) 1 1) 52 2 1 ([.int .i64 1, .int .i64 (((q : Nat) : Int))]), .blk b4 68 [.int .i64 (((Q : Nat) : Int)), .slice A_av11 (q + 1) c_av11, .slice none 0 0, .int .i64 0, .int .i64 0, v2, .slice (some ⟨b3, 0, none⟩) Q Q], .own (.slice A_av11 (q + 1) c_av11) 52 2 (q + 1) (nds ((DgS.st0 Q).ns.take (q + 1))), .own av2 3 1 (q + 1) (ints ((DgS.st0 Q).la.take (q + 1))), .own (.slice (some ⟨b3, 0, none⟩) Q Q) 4 1 Q (bls (DgS.st0 Q).ha), .blk b2 29 [.int .i64 0, .slice none 0 0, .slice none 0 0, .int .i64 0, .int .i64 0], .blk b1 34 [.int .i64 (((Q : Nat) : Int)), .slice A n c]]) (Some'.weak (.take (.take (.take (.take (.takeEq (by rw [DgS.st0_la Q q (by omega), ints_append]; rfl) (.take (.take (.take (.nil _)))))))))) ?_ ⟨_, _, rfl, fun _ => nofun, fun _ => nofun⟩
  refine .u (.pointer (some ⟨b4, 0, none⟩)) (.nilCheck rfl) ?_
  refine .fa Tfo_68_1 ?_
  refine Run.formOwn (.tail _ (.tail _ (.tail _ (.tail _ (.head _))))) (fun A_av21 c_av21 hv hcapc_av21 hmaxc_av21 => ?_) (fun _ _ _ => ⟨nofun, nofun, nofun⟩)
  subst hv
  refine .step rfl (.store (us := [.slice A_av21 (q + 1) c_av21]) Tsize_48 rfl rfl rfl (.there _ (.there _ (.here _))) (by simp only [List.length_cons, List.length_nil]; omega) ?_)
  show Run _ _ _ [.own (.slice (some ⟨b6, 0, none⟩) 1 1) 3 1 1 ([.int .i64 (((q : Nat) : Int))]), .own (.slice (some ⟨b5, 0, none⟩) 1 1) 52 2 1 ([.int .i64 1, .int .i64 (((q : Nat) : Int))]), .blk b4 68 [.int .i64 (((Q : Nat) : Int)), .slice A_av11 (q + 1) c_av11, .slice none 0 0, .int .i64 0, .int .i64 0, .slice A_av21 (q + 1) c_av21, .slice (some ⟨b3, 0, none⟩) Q Q], .own (.slice A_av11 (q + 1) c_av11) 52 2 (q + 1) (nds ((DgS.st0 Q).ns.take (q + 1))), .own (.slice A_av21 (q + 1) c_av21) 3 1 (q + 1) (ints ((DgS.st0 Q).la.take (q + 1))), .own (.slice (some ⟨b3, 0, none⟩) Q Q) 4 1 Q (bls (DgS.st0 Q).ha), .blk b2 29 [.int .i64 0, .slice none 0 0, .slice none 0 0, .int .i64 0, .int .i64 0], .blk b1 34 [.int .i64 (((Q : Nat) : Int)), .slice A n c]]
  refine .done ?_
  refine .blockEnd ?_
  refine .region ?_
  refine .m ?_
  refine .u (.int .i64 ((((q : Nat) : Int)) + 1)) (.add rfl rfl rfl (by omega) (by omega)) ?_
  refine .m ?_
  refine .done ?_
  refine .goal ⟨(by repeat (first | exact Same.refl _ _ | refine Same.put rfl ?_ | refine Same.over rfl rfl ?_)), (q + 1, .slice A_av11 (q + 1) c_av11, .slice A_av21 (q + 1) c_av21), ?_, ?_, ?_, ?_⟩
  ·show q + 1 ≤ Q; omega
  ·show Q - (q + 1) < Q - q; omega
  ·exact ⟨(by first | rfl | (congr 1; omega) | simp), trivial⟩
  ·exact ((Weak.selF [2, 2, 2, 2, 2, 2]).trans (Some'.weak (.takeEq (by first | rfl | simp) (.takeEq (by first | rfl | simp) (.takeEq (by first | rfl | simp) (.takeEq (by first | rfl | simp) (.take (.take (.nil _)))))))))
 have p19 := h19; try simp only [bs] at p19
 have hqQ : q = Q := by omega
 have hq1 : (DgS.st0 Q).ns.take Q = (DgS.st0 Q).ns := List.take_of_length_le (by omega)
 have hq2 : (DgS.st0 Q).la.take Q = (DgS.st0 Q).la := List.take_of_length_le (by omega)
 refine .exit rfl ?_
 refine .seq ?_
 refine .seq ?_
 refine Run.weak (H' := [.own (.slice none 0 0) 71 3 0 (wls []), .blk b4 68 [.int .i64 (((Q : Nat) : Int)), v1, .slice none 0 0, .int .i64 0, .int .i64 0, v2, .slice (some ⟨b3, 0, none⟩) Q Q], .own v1 52 2 q (nds ((DgS.st0 Q).ns.take q)), .own v2 3 1 q (ints ((DgS.st0 Q).la.take q)), .own (.slice (some ⟨b3, 0, none⟩) Q Q) 4 1 Q (bls (DgS.st0 Q).ha), .blk b2 29 [.int .i64 0, .slice none 0 0, .slice none 0 0, .int .i64 0, .int .i64 0], .blk b1 34 [.int .i64 (((Q : Nat) : Int)), .slice A n c]]) (Weak.nilOwn _ _) ?_ ⟨_, _, rfl, fun _ => nofun, fun _ => nofun⟩
 refine .region ?_
 refine .fa Tfo_34_1 ?_
 refine .u (.slice A n c) (.load1 Tone_32 rfl (.b (.tail _ (.tail _ (.tail _ (.tail _ (.tail _ (.tail _ (.head _))))))))) ?_
 refine .u (.int .i64 (((n : Nat) : Int))) (.len Tsl_32 rfl) ?_
 refine .m ?_
 refine .done ?_
 refine .block ?_
 refine Run.loop (ι := Nat × Value × Value) [6, 48, 49, 50, 51, 52, 53, 54, 55] (fun ⟨i, v3, v4⟩ => [(48, .int .i64 (((i : Nat) : Int)))]) (fun ⟨i, v3, v4⟩ => [.blk b4 68 [.int .i64 (((Q : Nat) : Int)), v3, v4, .int .i64 (DgS.runT xs i), .int .i64 ((DgS.runG Q xs i).rt), v2, .slice (some ⟨b3, 0, none⟩) Q Q], .own v3 52 2 ((DgS.runG Q xs i).ns.length) (nds (DgS.runG Q xs i).ns), .own v4 71 3 ((DgS.runG Q xs i).ws.length) (wls (DgS.runG Q xs i).ws), .own v2 3 1 Q (ints (DgS.runG Q xs i).la), .own (.slice (some ⟨b3, 0, none⟩) Q Q) 4 1 Q (bls (DgS.runG Q xs i).ha), .blk b2 29 [.int .i64 0, .slice none 0 0, .slice none 0 0, .int .i64 0, .int .i64 0], .blk b1 34 [.int .i64 (((Q : Nat) : Int)), .slice A n c]]) (fun ⟨i, v3, v4⟩ => i ≤ n) (fun ⟨i, v3, v4⟩ => n - i) (0, v1, .slice none 0 0) ?_ ?_ ?_ ?_
 ·exact Nat.zero_le _
 ·exact ⟨rfl, trivial⟩
 ·exact ((Weak.selF [1, 1, 0, 0, 0, 0, 0]).trans (Some'.weak (.takeEq (by first | rfl | (show _ = Res.own _ _ _ (DgS.st0 Q).ns.length (nds (DgS.st0 Q).ns); rw [hqQ, hq1, h0n]; done) | (show _ = Res.own _ _ _ _ (ints (DgS.st0 Q).la); rw [hqQ, hq2]; done) | (rw [hRG]; done) | (rw [hRG, hRT]; done) | (rw [hRG, hRT, Int.emod_add_emod]; done) | (simp [DgS.runG, DgS.runT, DgS.st0]; done)) (.takeEq (by first | rfl | (show _ = Res.own _ _ _ (DgS.st0 Q).ns.length (nds (DgS.st0 Q).ns); rw [hqQ, hq1, h0n]; done) | (show _ = Res.own _ _ _ _ (ints (DgS.st0 Q).la); rw [hqQ, hq2]; done) | (rw [hRG]; done) | (rw [hRG, hRT]; done) | (rw [hRG, hRT, Int.emod_add_emod]; done) | (simp [DgS.runG, DgS.runT, DgS.st0]; done)) (.takeEq (by first | rfl | (show _ = Res.own _ _ _ (DgS.st0 Q).ns.length (nds (DgS.st0 Q).ns); rw [hqQ, hq1, h0n]; done) | (show _ = Res.own _ _ _ _ (ints (DgS.st0 Q).la); rw [hqQ, hq2]; done) | (rw [hRG]; done) | (rw [hRG, hRT]; done) | (rw [hRG, hRT, Int.emod_add_emod]; done) | (simp [DgS.runG, DgS.runT, DgS.st0]; done)) (.takeEq (by first | rfl | (show _ = Res.own _ _ _ (DgS.st0 Q).ns.length (nds (DgS.st0 Q).ns); rw [hqQ, hq1, h0n]; done) | (show _ = Res.own _ _ _ _ (ints (DgS.st0 Q).la); rw [hqQ, hq2]; done) | (rw [hRG]; done) | (rw [hRG, hRT]; done) | (rw [hRG, hRT, Int.emod_add_emod]; done) | (simp [DgS.runG, DgS.runT, DgS.st0]; done)) (.takeEq (by first | rfl | (show _ = Res.own _ _ _ (DgS.st0 Q).ns.length (nds (DgS.st0 Q).ns); rw [hqQ, hq1, h0n]; done) | (show _ = Res.own _ _ _ _ (ints (DgS.st0 Q).la); rw [hqQ, hq2]; done) | (rw [hRG]; done) | (rw [hRG, hRT]; done) | (rw [hRG, hRT, Int.emod_add_emod]; done) | (simp [DgS.runG, DgS.runT, DgS.st0]; done)) (.take (.take (.nil _))))))))))
 rintro ⟨i, v3, v4⟩ fr hinv
 show Run _ _ (over _ _ [(48, .int .i64 (((i : Nat) : Int)))] fr) [.blk b4 68 [.int .i64 (((Q : Nat) : Int)), v3, v4, .int .i64 (DgS.runT xs i), .int .i64 ((DgS.runG Q xs i).rt), v2, .slice (some ⟨b3, 0, none⟩) Q Q], .own v3 52 2 ((DgS.runG Q xs i).ns.length) (nds (DgS.runG Q xs i).ns), .own v4 71 3 ((DgS.runG Q xs i).ws.length) (wls (DgS.runG Q xs i).ws), .own v2 3 1 Q (ints (DgS.runG Q xs i).la), .own (.slice (some ⟨b3, 0, none⟩) Q Q) 4 1 Q (bls (DgS.runG Q xs i).ha), .blk b2 29 [.int .i64 0, .slice none 0 0, .slice none 0 0, .int .i64 0, .int .i64 0], .blk b1 34 [.int .i64 (((Q : Nat) : Int)), .slice A n c]]
 try dsimp only at hinv
 refine .sr ?_
 refine .w (.bool (decide ((((i : Nat) : Int)) < (((n : Nat) : Int))))) ?_
 refine .done ?_
 refine .seq ?_
 refine .cond (b := decide ((((i : Nat) : Int)) < (((n : Nat) : Int)))) rfl (fun h49 => ?_) (fun h49 => ?_)
 ·have p49 := h49; try simp only [bs] at p49
  have hgi := hgs i (by omega)
  have hgd := DgS.gateAt_split hgi hQ.1
  obtain ⟨k, hk⟩ : ∃ k, ix xs (i * 3) = k := ⟨_, rfl⟩
  obtain ⟨a, ha1⟩ : ∃ a, (ix xs (i * 3 + 1)).toNat = a := ⟨_, rfl⟩
  obtain ⟨b, hb1⟩ : ∃ b, (ix xs (i * 3 + 2)).toNat = b := ⟨_, rfl⟩
  have ha0 : ix xs (i * 3 + 1) = (a : Nat) := by omega
  have hb0 : ix xs (i * 3 + 2) = (b : Nat) := by omega
  rw [hk, ha1, hb1] at hgd
  have hRG : DgS.runG Q xs (i + 1) = (DgS.runG Q xs i).gate k a b := by rw [DgS.runG, hk, ha1, hb1]
  have hRT : DgS.runT xs (i + 1) = DgS.runT xs i + DgS.tn k := by rw [DgS.runT, hk]
  have hok := DgS.runG_ok hQ hgs i (by omega)
  have hTb := DgS.runT_bd xs i
  obtain ⟨ba, oa, rfl⟩ := hxs.opn (by omega)
  refine .skip ?_
  refine .seq ?_
  refine .block ?_
  refine .sr ?_
  refine .u (.pointer (some ⟨ba, oa + i * 3, none⟩)) (.ix i Tsl_32) ?_
  refine .u (.agg #[.int .i64 k, .int .i64 (((a : Nat) : Int)), .int .i64 (((b : Nat) : Int))]) (.loadN (cs := [.int .i64 k, .int .i64 (((a : Nat) : Int)), .int .i64 (((b : Nat) : Int))]) Tagg_54 rfl (Cells.arg (k := i * 3) hxs rfl (by omega) (by have h := pre3 (xs := xs) (o := i * 3) (by omega); rw [hk, ha0, hb0] at h; exact h))) ?_
  refine .step rfl (.alloc (zs := [.int .i64 0, .int .i64 0, .int .i64 0]) Tzero_54 fun b7 => ?_)
  refine .step rfl (.storeAll (us := [.int .i64 k, .int .i64 (((a : Nat) : Int)), .int .i64 (((b : Nat) : Int))]) Tsize_54 rfl rfl rfl (.here _) rfl ?_)
  refine .dr ?_
  refine .m ?_
  refine .u (.agg #[.int .i64 k, .int .i64 (((a : Nat) : Int)), .int .i64 (((b : Nat) : Int))]) (.loadN (cs := [.int .i64 k, .int .i64 (((a : Nat) : Int)), .int .i64 (((b : Nat) : Int))]) Tagg_54 rfl (Cells.blk (.head _) ⟨rfl, rfl, rfl, trivial⟩)) ?_
  refine .step rfl (.callM (H1 := [.blk b4 68 [.int .i64 (((Q : Nat) : Int)), v3, v4, .int .i64 (DgS.runT xs i), .int .i64 ((DgS.runG Q xs i).rt), v2, .slice (some ⟨b3, 0, none⟩) Q Q], .own v3 52 2 ((DgS.runG Q xs i).ns.length) (nds (DgS.runG Q xs i).ns), .own v4 71 3 ((DgS.runG Q xs i).ws.length) (wls (DgS.runG Q xs i).ws), .own v2 3 1 Q (ints (DgS.runG Q xs i).la), .own (.slice (some ⟨b3, 0, none⟩) Q Q) 4 1 Q (bls (DgS.runG Q xs i).ha)]) (H2 := [.blk b7 54 [.int .i64 k, .int .i64 (((a : Nat) : Int)), .int .i64 (((b : Nat) : Int))], .blk b2 29 [.int .i64 0, .slice none 0 0, .slice none 0 0, .int .i64 0, .int .i64 0], .blk b1 34 [.int .i64 (((Q : Nat) : Int)), .slice (some ⟨ba, oa, none⟩) n c]]) (vs := [.pointer (some ⟨b4, 0, none⟩), .agg #[.int .i64 k, .int .i64 (((a : Nat) : Int)), .int .i64 (((b : Nat) : Int))]]) (caps := []) Tcall_32 rfl rfl (Weak.selF [1, 1, 1, 1, 1]) (fun w hs => gateR_spec hok (by omega) (by omega) hgd.2.1.2 hgd.2.2.1.2 hgd.2.2.2 (by omega) (hs.sub (List.sublist_append_left _ _)).self) ?_)
  rintro _ _ ⟨vn1, vw1, rfl, rfl⟩
  show Run _ _ (putF _ _ _ (.tuple #[])) [.blk b4 68 [.int .i64 (((Q : Nat) : Int)), vn1, vw1, .int .i64 (DgS.runT xs i + DgS.tn k), .int .i64 ((DgS.gate (DgS.runG Q xs i) k a b).rt), v2, .slice (some ⟨b3, 0, none⟩) Q Q], .own vn1 52 2 ((DgS.gate (DgS.runG Q xs i) k a b).ns.length) (nds (DgS.gate (DgS.runG Q xs i) k a b).ns), .own vw1 71 3 ((DgS.gate (DgS.runG Q xs i) k a b).ws.length) (wls (DgS.gate (DgS.runG Q xs i) k a b).ws), .own v2 3 1 Q (ints (DgS.gate (DgS.runG Q xs i) k a b).la), .own (.slice (some ⟨b3, 0, none⟩) Q Q) 4 1 Q (bls (DgS.gate (DgS.runG Q xs i) k a b).ha), .blk b7 54 [.int .i64 k, .int .i64 (((a : Nat) : Int)), .int .i64 (((b : Nat) : Int))], .blk b2 29 [.int .i64 0, .slice none 0 0, .slice none 0 0, .int .i64 0, .int .i64 0], .blk b1 34 [.int .i64 (((Q : Nat) : Int)), .slice (some ⟨ba, oa, none⟩) n c]]
  refine .done ?_
  refine .blockEnd ?_
  refine .region ?_
  refine .u (.int .i64 ((((i : Nat) : Int)) + 1)) (.add rfl rfl rfl (by omega) (by omega)) ?_
  refine .m ?_
  refine .done ?_
  refine .goal ⟨(by repeat (first | exact Same.refl _ _ | refine Same.put rfl ?_ | refine Same.over rfl rfl ?_)), (i + 1, vn1, vw1), ?_, ?_, ?_, ?_⟩
  ·show i + 1 ≤ n; omega
  ·show n - (i + 1) < n - i; omega
  ·exact ⟨(by first | rfl | (congr 1; omega) | simp), trivial⟩
  ·exact ((Weak.selF [0, 0, 0, 0, 0, 1, 1]).trans (Some'.weak (.takeEq (by first | rfl | (show _ = Res.own _ _ _ (DgS.st0 Q).ns.length (nds (DgS.st0 Q).ns); rw [hqQ, hq1, h0n]; done) | (show _ = Res.own _ _ _ _ (ints (DgS.st0 Q).la); rw [hqQ, hq2]; done) | (rw [hRG]; done) | (rw [hRG, hRT]; done) | (rw [hRG, hRT, Int.emod_add_emod]; done) | (simp [DgS.runG, DgS.runT, DgS.st0]; done)) (.takeEq (by first | rfl | (show _ = Res.own _ _ _ (DgS.st0 Q).ns.length (nds (DgS.st0 Q).ns); rw [hqQ, hq1, h0n]; done) | (show _ = Res.own _ _ _ _ (ints (DgS.st0 Q).la); rw [hqQ, hq2]; done) | (rw [hRG]; done) | (rw [hRG, hRT]; done) | (rw [hRG, hRT, Int.emod_add_emod]; done) | (simp [DgS.runG, DgS.runT, DgS.st0]; done)) (.takeEq (by first | rfl | (show _ = Res.own _ _ _ (DgS.st0 Q).ns.length (nds (DgS.st0 Q).ns); rw [hqQ, hq1, h0n]; done) | (show _ = Res.own _ _ _ _ (ints (DgS.st0 Q).la); rw [hqQ, hq2]; done) | (rw [hRG]; done) | (rw [hRG, hRT]; done) | (rw [hRG, hRT, Int.emod_add_emod]; done) | (simp [DgS.runG, DgS.runT, DgS.st0]; done)) (.takeEq (by first | rfl | (show _ = Res.own _ _ _ (DgS.st0 Q).ns.length (nds (DgS.st0 Q).ns); rw [hqQ, hq1, h0n]; done) | (show _ = Res.own _ _ _ _ (ints (DgS.st0 Q).la); rw [hqQ, hq2]; done) | (rw [hRG]; done) | (rw [hRG, hRT]; done) | (rw [hRG, hRT, Int.emod_add_emod]; done) | (simp [DgS.runG, DgS.runT, DgS.st0]; done)) (.takeEq (by first | rfl | (show _ = Res.own _ _ _ (DgS.st0 Q).ns.length (nds (DgS.st0 Q).ns); rw [hqQ, hq1, h0n]; done) | (show _ = Res.own _ _ _ _ (ints (DgS.st0 Q).la); rw [hqQ, hq2]; done) | (rw [hRG]; done) | (rw [hRG, hRT]; done) | (rw [hRG, hRT, Int.emod_add_emod]; done) | (simp [DgS.runG, DgS.runT, DgS.st0]; done)) (.take (.takeEq (by first | rfl | (show _ = Res.own _ _ _ (DgS.st0 Q).ns.length (nds (DgS.st0 Q).ns); rw [hqQ, hq1, h0n]; done) | (show _ = Res.own _ _ _ _ (ints (DgS.st0 Q).la); rw [hqQ, hq2]; done) | (rw [hRG]; done) | (rw [hRG, hRT]; done) | (rw [hRG, hRT, Int.emod_add_emod]; done) | (simp [DgS.runG, DgS.runT, DgS.st0]; done)) (.nil _))))))))))
 have p49 := h49; try simp only [bs] at p49
 have hin : i = n := by omega
 refine .exit rfl ?_
 refine .seq ?_
 refine .sr ?_
 refine .m ?_
 refine .done ?_
 refine .block ?_
 refine Run.loop (ι := Nat × Value × Value) [7, 56, 57, 58, 59, 60, 61, 62, 63, 64, 65] (fun ⟨j, v5, v6⟩ => [(7, .int .i64 (((j : Nat) : Int)))]) (fun ⟨j, v5, v6⟩ => [.blk b4 68 [.int .i64 (((Q : Nat) : Int)), v5, v6, .int .i64 (DgS.runT xs n), .int .i64 ((DgS.outs (DgS.runG Q xs n) j).rt), v2, .slice (some ⟨b3, 0, none⟩) Q Q], .own v5 52 2 ((DgS.outs (DgS.runG Q xs n) j).ns.length) (nds (DgS.outs (DgS.runG Q xs n) j).ns), .own v6 71 3 ((DgS.outs (DgS.runG Q xs n) j).ws.length) (wls (DgS.outs (DgS.runG Q xs n) j).ws), .own v2 3 1 Q (ints (DgS.outs (DgS.runG Q xs n) j).la), .own (.slice (some ⟨b3, 0, none⟩) Q Q) 4 1 Q (bls (DgS.outs (DgS.runG Q xs n) j).ha), .blk b2 29 [.int .i64 0, .slice none 0 0, .slice none 0 0, .int .i64 0, .int .i64 0], .blk b1 34 [.int .i64 (((Q : Nat) : Int)), .slice A n c]]) (fun ⟨j, v5, v6⟩ => j ≤ Q) (fun ⟨j, v5, v6⟩ => Q - j) (0, v3, v4) ?_ ?_ ?_ ?_
 ·exact Nat.zero_le _
 ·exact ⟨rfl, trivial⟩
 ·exact ((Weak.refl _).trans (Some'.weak (.takeEq (by first | rfl | (rw [hin]; rfl) | (rw [hin]; done)) (.takeEq (by first | rfl | (rw [hin]; rfl) | (rw [hin]; done)) (.takeEq (by first | rfl | (rw [hin]; rfl) | (rw [hin]; done)) (.takeEq (by first | rfl | (rw [hin]; rfl) | (rw [hin]; done)) (.takeEq (by first | rfl | (rw [hin]; rfl) | (rw [hin]; done)) (.take (.take (.nil _))))))))))
 rintro ⟨j, v5, v6⟩ fr hinv
 show Run _ _ (over _ _ [(7, .int .i64 (((j : Nat) : Int)))] fr) [.blk b4 68 [.int .i64 (((Q : Nat) : Int)), v5, v6, .int .i64 (DgS.runT xs n), .int .i64 ((DgS.outs (DgS.runG Q xs n) j).rt), v2, .slice (some ⟨b3, 0, none⟩) Q Q], .own v5 52 2 ((DgS.outs (DgS.runG Q xs n) j).ns.length) (nds (DgS.outs (DgS.runG Q xs n) j).ns), .own v6 71 3 ((DgS.outs (DgS.runG Q xs n) j).ws.length) (wls (DgS.outs (DgS.runG Q xs n) j).ws), .own v2 3 1 Q (ints (DgS.outs (DgS.runG Q xs n) j).la), .own (.slice (some ⟨b3, 0, none⟩) Q Q) 4 1 Q (bls (DgS.outs (DgS.runG Q xs n) j).ha), .blk b2 29 [.int .i64 0, .slice none 0 0, .slice none 0 0, .int .i64 0, .int .i64 0], .blk b1 34 [.int .i64 (((Q : Nat) : Int)), .slice A n c]]
 try dsimp only at hinv
 refine .seq ?_
 refine .sr ?_
 refine .m ?_
 refine .fa Tfo_34_0 ?_
 refine .u (.int .i64 (((Q : Nat) : Int))) (.load1 Tone_3 rfl (.b (.tail _ (.tail _ (.tail _ (.tail _ (.tail _ (.tail _ (.head _))))))))) ?_
 refine .w (.bool (decide ((((j : Nat) : Int)) < (((Q : Nat) : Int))))) ?_
 refine .done ?_
 refine .cond (b := decide ((((j : Nat) : Int)) < (((Q : Nat) : Int)))) rfl (fun h59 => ?_) (fun h59 => ?_)
 ·have p59 := h59; try simp only [bs] at p59
  have hjQ : j < Q := by omega
  have hokj := DgS.outs_ok hQ.2 (DgS.runG_ok hQ hgs n (Nat.le_refl _)) j (by omega)
  refine .skip ?_
  refine .seq ?_
  refine .block ?_
  refine .region ?_
  iterate 3 refine .m ?_
  refine .step rfl (.callM (H1 := [.blk b4 68 [.int .i64 (((Q : Nat) : Int)), v5, v6, .int .i64 (DgS.runT xs n), .int .i64 ((DgS.outs (DgS.runG Q xs n) j).rt), v2, .slice (some ⟨b3, 0, none⟩) Q Q], .own v5 52 2 ((DgS.outs (DgS.runG Q xs n) j).ns.length) (nds (DgS.outs (DgS.runG Q xs n) j).ns), .own v6 71 3 ((DgS.outs (DgS.runG Q xs n) j).ws.length) (wls (DgS.outs (DgS.runG Q xs n) j).ws), .own v2 3 1 Q (ints (DgS.outs (DgS.runG Q xs n) j).la), .own (.slice (some ⟨b3, 0, none⟩) Q Q) 4 1 Q (bls (DgS.outs (DgS.runG Q xs n) j).ha)]) (H2 := [.blk b2 29 [.int .i64 0, .slice none 0 0, .slice none 0 0, .int .i64 0, .int .i64 0], .blk b1 34 [.int .i64 (((Q : Nat) : Int)), .slice A n c]]) (vs := [.pointer (some ⟨b4, 0, none⟩), .int .i64 2, .int .i64 (((j : Nat) : Int)), .int .i64 (((j : Nat) : Int))]) (caps := []) Tcall_33 rfl rfl (Weak.refl _) (fun w hs => node_spec hokj (by omega) hjQ (hs.sub (List.sublist_append_left _ _)).self) ?_)
  rintro _ _ ⟨vn2, vw2, rfl, rfl⟩
  show Run _ _ (putF _ _ _ (.tuple #[])) [.blk b4 68 [.int .i64 (((Q : Nat) : Int)), vn2, vw2, .int .i64 (DgS.runT xs n), .int .i64 ((DgS.app (DgS.outs (DgS.runG Q xs n) j) j (2, ((j : Nat) : Int))).rt), v2, .slice (some ⟨b3, 0, none⟩) Q Q], .own vn2 52 2 ((DgS.app (DgS.outs (DgS.runG Q xs n) j) j (2, ((j : Nat) : Int))).ns.length) (nds (DgS.app (DgS.outs (DgS.runG Q xs n) j) j (2, ((j : Nat) : Int))).ns), .own vw2 71 3 ((DgS.app (DgS.outs (DgS.runG Q xs n) j) j (2, ((j : Nat) : Int))).ws.length) (wls (DgS.app (DgS.outs (DgS.runG Q xs n) j) j (2, ((j : Nat) : Int))).ws), .own v2 3 1 Q (ints (DgS.app (DgS.outs (DgS.runG Q xs n) j) j (2, ((j : Nat) : Int))).la), .own (.slice (some ⟨b3, 0, none⟩) Q Q) 4 1 Q (bls (DgS.app (DgS.outs (DgS.runG Q xs n) j) j (2, ((j : Nat) : Int))).ha), .blk b2 29 [.int .i64 0, .slice none 0 0, .slice none 0 0, .int .i64 0, .int .i64 0], .blk b1 34 [.int .i64 (((Q : Nat) : Int)), .slice A n c]]
  refine .done ?_
  refine .blockEnd ?_
  refine .region ?_
  refine .m ?_
  refine .u (.int .i64 ((((j : Nat) : Int)) + 1)) (.add rfl rfl rfl (by omega) (by omega)) ?_
  refine .m ?_
  refine .done ?_
  refine .goal ⟨(by repeat (first | exact Same.refl _ _ | refine Same.put rfl ?_ | refine Same.over rfl rfl ?_)), (j + 1, vn2, vw2), ?_, ?_, ?_, ?_⟩
  ·show j + 1 ≤ Q; omega
  ·show Q - (j + 1) < Q - j; omega
  ·exact ⟨(by first | rfl | (congr 1; omega) | simp), trivial⟩
  ·exact ((Weak.refl _).trans (Some'.weak (.takeEq (by first | rfl | (rw [hin]; rfl) | (rw [hin]; done)) (.takeEq (by first | rfl | (rw [hin]; rfl) | (rw [hin]; done)) (.takeEq (by first | rfl | (rw [hin]; rfl) | (rw [hin]; done)) (.takeEq (by first | rfl | (rw [hin]; rfl) | (rw [hin]; done)) (.takeEq (by first | rfl | (rw [hin]; rfl) | (rw [hin]; done)) (.take (.take (.nil _))))))))))
 have p59 := h59; try simp only [bs] at p59
 have hjQ : j = Q := by omega
 refine .exit rfl ?_
 refine .sr ?_
 refine .m ?_
 refine .u (.pointer (some ⟨b4, 0, none⟩)) (.nilCheck rfl) ?_
 refine .fa Tfo_68_0 ?_
 refine .fa Tfo_29_3 ?_
 refine .u (.int .i64 (DgS.runT xs n)) (.load1 Tone_3 rfl (.b (.head _))) ?_
 refine .u (.int .i64 ((DgS.runT xs n) % 8)) (.rem rfl rfl (by omega) (by omega)) ?_
 refine .u (.pointer (some ⟨b4, 0, none⟩)) (.nilCheck rfl) ?_
 refine .fa Tfo_68_0 ?_
 refine .fa Tfo_29_3 ?_
 refine .step rfl (.store (us := [.int .i64 ((DgS.runT xs n) % 8)]) Tsize_3 rfl rfl rfl (.here _) (by simp only [List.length_cons, List.length_nil]; omega) ?_)
 show Run _ _ _ [.blk b4 68 [.int .i64 (((Q : Nat) : Int)), v5, v6, .int .i64 ((DgS.runT xs n) % 8), .int .i64 ((DgS.outs (DgS.runG Q xs n) j).rt), v2, .slice (some ⟨b3, 0, none⟩) Q Q], .own v5 52 2 ((DgS.outs (DgS.runG Q xs n) j).ns.length) (nds (DgS.outs (DgS.runG Q xs n) j).ns), .own v6 71 3 ((DgS.outs (DgS.runG Q xs n) j).ws.length) (wls (DgS.outs (DgS.runG Q xs n) j).ws), .own v2 3 1 Q (ints (DgS.outs (DgS.runG Q xs n) j).la), .own (.slice (some ⟨b3, 0, none⟩) Q Q) 4 1 Q (bls (DgS.outs (DgS.runG Q xs n) j).ha), .blk b2 29 [.int .i64 0, .slice none 0 0, .slice none 0 0, .int .i64 0, .int .i64 0], .blk b1 34 [.int .i64 (((Q : Nat) : Int)), .slice A n c]]
 refine .dsr ?_
 refine .m ?_
 refine .u (.pointer (some ⟨b4, 0, none⟩)) (.nilCheck rfl) ?_
 refine .fa Tfo_68_0 ?_
 refine .u (.agg #[.int .i64 (((Q : Nat) : Int)), v5, v6, .int .i64 ((DgS.runT xs n) % 8), .int .i64 ((DgS.outs (DgS.runG Q xs n) j).rt)]) (.loadN (cs := [.int .i64 (((Q : Nat) : Int)), v5, v6, .int .i64 ((DgS.runT xs n) % 8), .int .i64 ((DgS.outs (DgS.runG Q xs n) j).rt)]) Tagg_29 rfl (Cells.blk (.head _) ⟨rfl, rfl, rfl, rfl, rfl, trivial⟩)) ?_
 refine Run.formOwn (.tail _ (.head _)) (fun A_v51 c_v51 hv hcapc_v51 hmaxc_v51 => ?_) (fun _ _ _ => ⟨nofun, nofun, nofun⟩)
 subst hv
 refine Run.formOwn (.tail _ (.tail _ (.head _))) (fun A_v61 c_v61 hv hcapc_v61 hmaxc_v61 => ?_) (fun _ _ _ => ⟨nofun, nofun, nofun⟩)
 subst hv
 refine .step rfl (.storeAll (us := [.int .i64 (((Q : Nat) : Int)), .slice A_v51 ((DgS.outs (DgS.runG Q xs n) j).ns.length) c_v51, .slice A_v61 ((DgS.outs (DgS.runG Q xs n) j).ws.length) c_v61, .int .i64 ((DgS.runT xs n) % 8), .int .i64 ((DgS.outs (DgS.runG Q xs n) j).rt)]) Tsize_29 rfl rfl rfl (.there _ (.there _ (.there _ (.there _ (.there _ (.here _)))))) rfl ?_)
 refine .done ?_
 refine .ret ?_
 refine ⟨.agg #[.int .i64 (((Q : Nat) : Int)), .slice A_v51 ((DgS.outs (DgS.runG Q xs n) j).ns.length) c_v51, .slice A_v61 ((DgS.outs (DgS.runG Q xs n) j).ws.length) c_v61, .int .i64 ((DgS.runT xs n) % 8), .int .i64 ((DgS.outs (DgS.runG Q xs n) j).rt)], [.own (.slice A_v51 ((DgS.outs (DgS.runG Q xs n) j).ns.length) c_v51) 52 2 ((DgS.fin Q xs n).ns.length) (nds (DgS.fin Q xs n).ns), .own (.slice A_v61 ((DgS.outs (DgS.runG Q xs n) j).ws.length) c_v61) 71 3 ((DgS.fin Q xs n).ws.length) (wls (DgS.fin Q xs n).ws)], Out.cell1 rfl Tagg_29 rfl (Cells.blk (.tail _ (.tail _ (.tail _ (.tail _ (.tail _ (.head _)))))) ⟨rfl, rfl, rfl, rfl, rfl, trivial⟩), (Some'.weak (.skip (.takeEq (by first | rfl | (rw [hjQ]; rfl)) (.takeEq (by first | rfl | (rw [hjQ]; rfl)) (.nil _))))), ?_⟩
 exact ⟨_, _, by rw [hjQ]; rfl, rfl⟩

end Go.Proofs.Ytnnkoeknejeieaa
