/- Walks: the laws compare, mark and hold whole diagrams. -/
import Derived.Test.YtnnkoeknejeieaaZdo
import Derived.Test.YtnnkoeknejeieaaProg
set_option linter.unusedSimpArgs false
set_option linter.unusedVariables false
namespace Go.Proofs.Ytnnkoeknejeieaa
open Go Go.RowKit
namespace ZdpT
theorem Tcall_22 : callable Try.prog 22 = true := by kernel_rfl
theorem Tcall_23 : callable Try.prog 23 = true := by kernel_rfl
theorem Tcall_26 : callable Try.prog 26 = true := by kernel_rfl
theorem Tcall_27 : callable Try.prog 27 = true := by kernel_rfl
theorem Tcall_28 : callable Try.prog 28 = true := by kernel_rfl
theorem Tcall_29 : callable Try.prog 29 = true := by kernel_rfl
theorem Tfo_29_0 : fieldOff Try.prog 29 0 = some 0 := by kernel_rfl
theorem Tfo_29_1 : fieldOff Try.prog 29 1 = some 1 := by kernel_rfl
theorem Tfo_29_2 : fieldOff Try.prog 29 2 = some 2 := by kernel_rfl
theorem Tfo_29_3 : fieldOff Try.prog 29 3 = some 3 := by kernel_rfl
theorem Tfo_29_4 : fieldOff Try.prog 29 4 = some 4 := by kernel_rfl
theorem Tone_26 : oneOf Try.prog 26 = true := by kernel_rfl
theorem Tone_27 : oneOf Try.prog 27 = true := by kernel_rfl
theorem Tone_3 : oneOf Try.prog 3 = true := by kernel_rfl
end ZdpT
open ZdpT

theorem eqWireS_true {va vb : Value} {n m : Nat} {X Y : List W3} {w : World} (ha : Sl w va 3 n (wls X)) (hb : Sl w vb 3 m (wls Y)) (he : X = Y) : Calls Try.prog 23 #[va, vb] w (Post No w fun v _ => v = .bool true) :=
  (eqWireS_spec ha hb).mono fun _ _ ⟨v, H, h1, h2, h3⟩ => ⟨v, H, h1, h2, by simpa [he] using h3⟩
theorem heldWireS_true {va : Value} {n : Nat} {X : List W3} {k : Int} {w : World} (ha : Sl w va 3 n (wls X)) (h0 : 0 ≤ k) (hk : k + n * 3 < 4611686018427387904) (he : X = mkW k n) : Calls Try.prog 29 #[va, .int .i64 k] w (Post No w fun v _ => v = .int .i64 (k + n * 3)) :=
  (heldWireS_spec ha h0 hk).mono fun _ _ ⟨v, H, h1, h2, h3⟩ => ⟨v, H, h1, h2, by simpa [he] using h3⟩
theorem dRes_bd (N : Int) (xs : List Int) (n : Nat) : (dRes N xs n).ns.length ≤ 1000000 ∧ (dRes N xs n).ws.length ≤ 1000000 := by
  unfold dRes
  split
  · rename_i h
    simp only [dOk, Bool.and_eq_true] at h
    obtain ⟨Q, rfl, hQ, hn4, hgs⟩ := circ_parts h.1
    rw [Int.toNat_natCast]
    have h1 := DgS.outs_ok hQ.2 (DgS.runG_ok hQ hgs n (Nat.le_refl _)) Q (Nat.le_refl _)
    have h2 := h1.bn
    have h3 := h1.bw
    show (DgS.outs (DgS.runG Q xs n) Q).ns.length ≤ 1000000 ∧ (DgS.outs (DgS.runG Q xs n) Q).ws.length ≤ 1000000
    omega
  · simp [dgZero]

set_option maxHeartbeats 1000000 in
set_option maxRecDepth 20000 in
theorem eqDiagram_true {q t r : Int} {va vw vb vx : Value} {n m n2 m2 : Nat} {L : List N2} {X : List W3} {w : World} (ha : Sl w va 2 n (nds L)) (hw : Sl w vw 3 m (wls X)) (hb : Sl w vb 2 n2 (nds L)) (hx : Sl w vx 3 m2 (wls X)) : Calls Try.prog 8 #[.agg #[.int .i64 q, va, vw, .int .i64 t, .int .i64 r], .agg #[.int .i64 q, vb, vx, .int .i64 t, .int .i64 r]] w (Post No w fun v _ => v = .bool true) := by
 refine enter (n := 32) (args := [.agg #[.int .i64 q, va, vw, .int .i64 t, .int .i64 r], .agg #[.int .i64 q, vb, vx, .int .i64 t, .int .i64 r]]) Try.func8 rfl rfl (St.empty _ _) ?_
 refine .sr ?_
 refine .step rfl (.box (us := [.int .i64 q, va, vw, .int .i64 t, .int .i64 r]) rfl fun b1 => ?_)
 refine .step rfl (.box (us := [.int .i64 q, vb, vx, .int .i64 t, .int .i64 r]) rfl fun b2 => ?_)
 refine .m ?_
 refine .done ?_
 refine .seq ?_
 refine .sr ?_
 refine .fa Tfo_29_0 ?_
 refine .u (.int .i64 q) (.load1 Tone_3 rfl (.b (.tail _ (.head _)))) ?_
 refine .fa Tfo_29_0 ?_
 refine .u (.int .i64 q) (.load1 Tone_3 rfl (.b (.head _))) ?_
 refine .u (.bool false) (.neqSame rfl rfl rfl) ?_
 refine .done ?_
 refine .cond (b := false) rfl (fun h => nomatch h) (fun _ => ?_)
 refine .skip ?_
 refine .seq ?_
 refine .sr ?_
 refine .fa Tfo_29_1 ?_
 refine .u va (.load1 Tone_26 rfl (.b (.tail _ (.head _)))) ?_
 refine .fa Tfo_29_1 ?_
 refine .u vb (.load1 Tone_26 rfl (.b (.head _))) ?_
 refine .c (.bool true) [va, vb] Tcall_22 (fun w hs => eqNodeS_true (hs.sl ha) (hs.sl hb) rfl) ?_
 refine .w (.bool false) ?_
 refine .done ?_
 refine .cond (b := false) rfl (fun h => nomatch h) (fun _ => ?_)
 refine .skip ?_
 refine .seq ?_
 refine .sr ?_
 refine .fa Tfo_29_2 ?_
 refine .u vw (.load1 Tone_27 rfl (.b (.tail _ (.head _)))) ?_
 refine .fa Tfo_29_2 ?_
 refine .u vx (.load1 Tone_27 rfl (.b (.head _))) ?_
 refine .c (.bool true) [vw, vx] Tcall_23 (fun w hs => eqWireS_true (hs.sl hw) (hs.sl hx) rfl) ?_
 refine .w (.bool false) ?_
 refine .done ?_
 refine .cond (b := false) rfl (fun h => nomatch h) (fun _ => ?_)
 refine .skip ?_
 refine .seq ?_
 refine .sr ?_
 refine .fa Tfo_29_3 ?_
 refine .u (.int .i64 t) (.load1 Tone_3 rfl (.b (.tail _ (.head _)))) ?_
 refine .fa Tfo_29_3 ?_
 refine .u (.int .i64 t) (.load1 Tone_3 rfl (.b (.head _))) ?_
 refine .u (.bool false) (.neqSame rfl rfl rfl) ?_
 refine .done ?_
 refine .cond (b := false) rfl (fun h => nomatch h) (fun _ => ?_)
 refine .skip ?_
 refine .seq ?_
 refine .sr ?_
 refine .fa Tfo_29_4 ?_
 refine .u (.int .i64 r) (.load1 Tone_3 rfl (.b (.tail _ (.head _)))) ?_
 refine .fa Tfo_29_4 ?_
 refine .u (.int .i64 r) (.load1 Tone_3 rfl (.b (.head _))) ?_
 refine .u (.bool false) (.neqSame rfl rfl rfl) ?_
 refine .done ?_
 refine .cond (b := false) rfl (fun h => nomatch h) (fun _ => ?_)
 refine .skip ?_
 refine .sr ?_
 refine .m ?_
 refine .done ?_
 refine .ret ?_
 refine ⟨.bool true, [], Out.one rfl rfl, (Some'.weak (.nil _)), ?_⟩
 rfl

set_option maxHeartbeats 1000000 in
set_option maxRecDepth 20000 in
theorem markDiagram_spec {q t r k : Int} {va vw : Value} {n m : Nat} {L : List N2} {X : List W3} {w : World} (h : St (Of [.own va 52 2 n (nds L), .own vw 71 3 m (wls X)]) w w [.own va 52 2 n (nds L), .own vw 71 3 m (wls X)]) (h0 : 0 ≤ k) (hk : k + n * 2 + m * 3 < 4611686018427387904) : Calls Try.prog 11 #[.agg #[.int .i64 q, va, vw, .int .i64 t, .int .i64 r], .int .i64 k] w (Post (Of [.own va 52 2 n (nds L), .own vw 71 3 m (wls X)]) w fun v H => v = .int .i64 (k + n * 2 + m * 3) ∧ H = [.own va 52 2 n (ints (mks k (n * 2))), .own vw 71 3 m (wls (mkW (k + ((n : Nat) : Int) * 2) m))]) := by
 refine enter (n := 14) (args := [.agg #[.int .i64 q, va, vw, .int .i64 t, .int .i64 r], .int .i64 k]) Try.func11 rfl rfl (h) ?_
 refine .sr ?_
 refine .step rfl (.box (us := [.int .i64 q, va, vw, .int .i64 t, .int .i64 r]) rfl fun b1 => ?_)
 refine .m ?_
 refine .dsr ?_
 refine .fa Tfo_29_1 ?_
 refine .u va (.load1 Tone_26 rfl (.b (.head _))) ?_
 refine .m ?_
 refine .step rfl (.callM (H1 := [.own va 52 2 n (nds L)]) (H2 := [.blk b1 29 [.int .i64 q, va, vw, .int .i64 t, .int .i64 r], .own vw 71 3 m (wls X)]) (vs := [va, .int .i64 k]) (caps := []) Tcall_26 rfl rfl (Weak.selF [1]) (fun w hs => markNodeS_spec (hs.holds _ (.head _)) h0 (by omega)) ?_)
 rintro _ _ ⟨rfl, rfl⟩
 show Run _ _ (putF _ _ _ (.int .i64 (k + ((n : Nat) : Int) * 2))) [.own va 52 2 n (ints (mks k (n * 2))), .blk b1 29 [.int .i64 q, va, vw, .int .i64 t, .int .i64 r], .own vw 71 3 m (wls X)]
 refine .m ?_
 refine .dsr ?_
 refine .fa Tfo_29_2 ?_
 refine .u vw (.load1 Tone_27 rfl (.b (.tail _ (.head _)))) ?_
 refine .m ?_
 refine .step rfl (.callM (H1 := [.own vw 71 3 m (wls X)]) (H2 := [.own va 52 2 n (ints (mks k (n * 2))), .blk b1 29 [.int .i64 q, va, vw, .int .i64 t, .int .i64 r]]) (vs := [vw, .int .i64 (k + ((n : Nat) : Int) * 2)]) (caps := []) Tcall_27 rfl rfl (Weak.selF [2]) (fun w hs => markWireS_spec (hs.holds _ (.head _)) (by omega) (by omega)) ?_)
 rintro _ _ ⟨rfl, rfl⟩
 show Run _ _ (putF _ _ _ (.int .i64 (k + ((n : Nat) : Int) * 2 + ((m : Nat) : Int) * 3))) [.own vw 71 3 m (wls (mkW (k + ((n : Nat) : Int) * 2) m)), .own va 52 2 n (ints (mks k (n * 2))), .blk b1 29 [.int .i64 q, va, vw, .int .i64 t, .int .i64 r]]
 refine .m ?_
 refine .dsr ?_
 iterate 2 refine .m ?_
 refine .done ?_
 refine .ret ?_
 refine ⟨.int .i64 (k + ((n : Nat) : Int) * 2 + ((m : Nat) : Int) * 3), [.own va 52 2 n (ints (mks k (n * 2))), .own vw 71 3 m (wls (mkW (k + ((n : Nat) : Int) * 2) m))], Out.one rfl rfl, ((Weak.selF [1, 0]).trans (Some'.weak (.take (.take (.nil _))))), ?_⟩
 exact ⟨rfl, rfl⟩

set_option maxHeartbeats 1000000 in
set_option maxRecDepth 20000 in
theorem heldDiagram_true {q t r k : Int} {va vw : Value} {n m : Nat} {w : World} (ha : Sl w va 2 n (ints (mks k (n * 2)))) (hw : Sl w vw 3 m (wls (mkW (k + n * 2) m))) (h0 : 0 ≤ k) (hk : k + n * 2 + m * 3 < 4611686018427387904) : Calls Try.prog 12 #[.agg #[.int .i64 q, va, vw, .int .i64 t, .int .i64 r], .int .i64 k] w (Post No w fun v _ => v = .int .i64 (k + n * 2 + m * 3)) := by
 refine enter (n := 18) (args := [.agg #[.int .i64 q, va, vw, .int .i64 t, .int .i64 r], .int .i64 k]) Try.func12 rfl rfl (St.empty _ _) ?_
 refine .sr ?_
 refine .step rfl (.box (us := [.int .i64 q, va, vw, .int .i64 t, .int .i64 r]) rfl fun b1 => ?_)
 refine .m ?_
 refine .dsr ?_
 refine .fa Tfo_29_1 ?_
 refine .u va (.load1 Tone_26 rfl (.b (.head _))) ?_
 refine .m ?_
 refine .c (.int .i64 (k + ((n : Nat) : Int) * 2)) [va, .int .i64 k] Tcall_28 (fun w hs => heldNodeS_true (hs.sl ha) h0 (by omega) rfl) ?_
 refine .m ?_
 refine .done ?_
 refine .seq ?_
 refine .sr ?_
 refine .m ?_
 refine .w (.bool (decide ((k + ((n : Nat) : Int) * 2) < 0))) ?_
 refine .done ?_
 refine .cond (b := decide ((k + ((n : Nat) : Int) * 2) < 0)) rfl (fun h10 => ?_) (fun h10 => ?_)
 ·have p10 := h10; try simp only [bs] at p10
  exact absurd h10 (by simp <;> omega) --DONE
 have p10 := h10; try simp only [bs] at p10
 refine .skip ?_
 refine .sr ?_
 refine .fa Tfo_29_2 ?_
 refine .u vw (.load1 Tone_27 rfl (.b (.head _))) ?_
 refine .m ?_
 refine .c (.int .i64 (k + ((n : Nat) : Int) * 2 + ((m : Nat) : Int) * 3)) [vw, .int .i64 (k + ((n : Nat) : Int) * 2)] Tcall_29 (fun w hs => heldWireS_true (hs.sl hw) (by omega) (by omega) rfl) ?_
 refine .m ?_
 refine .done ?_
 refine .seq ?_
 refine .sr ?_
 refine .m ?_
 refine .w (.bool (decide ((k + ((n : Nat) : Int) * 2 + ((m : Nat) : Int) * 3) < 0))) ?_
 refine .done ?_
 refine .cond (b := decide ((k + ((n : Nat) : Int) * 2 + ((m : Nat) : Int) * 3) < 0)) rfl (fun h16 => ?_) (fun h16 => ?_)
 ·have p16 := h16; try simp only [bs] at p16
  exact absurd h16 (by simp <;> omega) --DONE
 have p16 := h16; try simp only [bs] at p16
 refine .skip ?_
 refine .sr ?_
 iterate 2 refine .m ?_
 refine .done ?_
 refine .ret ?_
 refine ⟨.int .i64 (k + ((n : Nat) : Int) * 2 + ((m : Nat) : Int) * 3), [], Out.one rfl rfl, (Some'.weak (.nil _)), ?_⟩
 rfl

end Go.Proofs.Ytnnkoeknejeieaa
