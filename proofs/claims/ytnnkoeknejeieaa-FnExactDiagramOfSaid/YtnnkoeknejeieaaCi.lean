/- Walks: valid gates and circuits, the qubits of a gate. -/
import Derived.Test.YtnnkoeknejeieaaW1
import Derived.Test.YtnnkoeknejeieaaFind
import Derived.Test.YtnnkoeknejeieaaProg
set_option linter.unusedSimpArgs false
set_option linter.unusedVariables false
namespace Go.Proofs.Ytnnkoeknejeieaa
open Go Go.RowKit
namespace CiT
theorem Tagg_34 : aggOf Try.prog 34 = some 2 := by kernel_rfl
theorem Tagg_54 : aggOf Try.prog 54 = some 3 := by kernel_rfl
theorem Tagg_75 : aggOf Try.prog 75 = some 3 := by kernel_rfl
theorem Tcall_13 : callable Try.prog 13 = true := by kernel_rfl
theorem Tcall_17 : callable Try.prog 17 = true := by kernel_rfl
theorem Tcall_24 : callable Try.prog 24 = true := by kernel_rfl
theorem Tcall_25 : callable Try.prog 25 = true := by kernel_rfl
theorem Tcall_30 : callable Try.prog 30 = true := by kernel_rfl
theorem Tcall_31 : callable Try.prog 31 = true := by kernel_rfl
theorem Tcall_37 : callable Try.prog 37 = true := by kernel_rfl
theorem Tcall_38 : callable Try.prog 38 = true := by kernel_rfl
theorem Tcall_39 : callable Try.prog 39 = true := by kernel_rfl
theorem Tcall_40 : callable Try.prog 40 = true := by kernel_rfl
theorem Tcall_41 : callable Try.prog 41 = true := by kernel_rfl
theorem Tcall_56 : callable Try.prog 56 = true := by kernel_rfl
theorem Tcall_57 : callable Try.prog 57 = true := by kernel_rfl
theorem Tfo_24_0 : fieldOff Try.prog 24 0 = some 0 := by kernel_rfl
theorem Tfo_24_1 : fieldOff Try.prog 24 1 = some 1 := by kernel_rfl
theorem Tfo_34_0 : fieldOff Try.prog 34 0 = some 0 := by kernel_rfl
theorem Tfo_34_1 : fieldOff Try.prog 34 1 = some 1 := by kernel_rfl
theorem Tfo_54_0 : fieldOff Try.prog 54 0 = some 0 := by kernel_rfl
theorem Tfo_54_1 : fieldOff Try.prog 54 1 = some 1 := by kernel_rfl
theorem Tfo_54_2 : fieldOff Try.prog 54 2 = some 2 := by kernel_rfl
theorem Tfo_75_0 : fieldOff Try.prog 75 0 = some 0 := by kernel_rfl
theorem Tfo_75_1 : fieldOff Try.prog 75 1 = some 1 := by kernel_rfl
theorem Tfo_75_2 : fieldOff Try.prog 75 2 = some 2 := by kernel_rfl
theorem Tone_22 : oneOf Try.prog 22 = true := by kernel_rfl
theorem Tone_3 : oneOf Try.prog 3 = true := by kernel_rfl
theorem Tone_32 : oneOf Try.prog 32 = true := by kernel_rfl
theorem Tsize_3 : (Try.prog.info? 3).map (·.size) = some 1 := by kernel_rfl
theorem Tsize_32 : (Try.prog.info? 32).map (·.size) = some 1 := by kernel_rfl
theorem Tsize_34 : (Try.prog.info? 34).map (·.size) = some 2 := by kernel_rfl
theorem Tsize_54 : (Try.prog.info? 54).map (·.size) = some 3 := by kernel_rfl
theorem Tsl_22 : sliceOf Try.prog 22 = some (75, 3, 24, [.int .i64 0, .int .i64 0, .int .i64 0]) := by kernel_rfl
theorem Tsl_32 : sliceOf Try.prog 32 = some (54, 3, 24, [.int .i64 0, .int .i64 0, .int .i64 0]) := by kernel_rfl
theorem Tzero_34 : zeroOf Try.prog 34 = some [.int .i64 0, .slice none 0 0] := by kernel_rfl
theorem Tzero_54 : zeroOf Try.prog 54 = some [.int .i64 0, .int .i64 0, .int .i64 0] := by kernel_rfl
end CiT
open CiT
set_option maxHeartbeats 1000000 in
set_option maxRecDepth 20000 in
theorem szGateS_spec {va : Value} {n : Nat} {xs : List Int} {left : Int} {w : World} (ha : Sl w va 3 n (ints xs)) (h0 : 0 ≤ left) (h1 : left ≤ 1048576) :
  Calls Try.prog 13 #[va, .int .i64 left] w (Post No w fun v _ => v = .int .i64 (szN left [n])) := by
 have hn := ha.le
 obtain ⟨A, c, rfl, _, _⟩ := ha.form0
 refine enter (n := 12) (args := [.slice A n c, .int .i64 left]) Try.func13 rfl rfl (St.empty _ _) ?_
 refine .sr ?_
 refine .m ?_
 refine .dsr ?_
 iterate 2 refine .m ?_
 refine .u (.int .i64 (((n : Nat) : Int))) (.len Tsl_22 rfl) ?_
 refine .u (.int .i64 (left - (((n : Nat) : Int)))) (.sub rfl rfl rfl (by omega) (by omega)) ?_
 refine .m ?_
 refine .done ?_
 refine .seq ?_
 refine .sr ?_
 refine .m ?_
 refine .w (.bool (decide ((left - (((n : Nat) : Int))) < 0))) ?_
 refine .done ?_
 refine .cond (b := decide ((left - (((n : Nat) : Int))) < 0)) rfl (fun h10 => ?_) (fun h10 => ?_)
 ·have p10 := h10; try simp only [bs] at p10
  refine .sr ?_
  refine .m ?_
  refine .done ?_
  refine .ret ?_
  refine ⟨.int .i64 (-1), [], Out.one rfl rfl, (Some'.weak (.nil _)), ?_⟩
  show _ = _; simp at h10; simp only [szN]; first | rw [if_pos (by omega)] | rw [if_neg (by omega)]
 have p10 := h10; try simp only [bs] at p10
 refine .skip ?_
 refine .sr ?_
 iterate 2 refine .m ?_
 refine .done ?_
 refine .ret ?_
 refine ⟨.int .i64 (left - (((n : Nat) : Int))), [], Out.one rfl rfl, (Some'.weak (.nil _)), ?_⟩
 show _ = _; simp at h10; simp only [szN]; first | rw [if_pos (by omega)] | rw [if_neg (by omega)]

set_option maxHeartbeats 1000000 in
set_option maxRecDepth 20000 in
theorem toGate_spec (x0 x1 x2 : Int) (w : World) : Calls Try.prog 37 #[.agg #[.int .i64 x0, .int .i64 x1, .int .i64 x2]] w (Post No w fun v _ => v = .agg #[.int .i64 x0, .int .i64 x1, .int .i64 x2]) := by
 refine enter (n := 14) (args := [.agg #[.int .i64 x0, .int .i64 x1, .int .i64 x2]]) Try.func37 rfl rfl (St.empty _ _) ?_
 refine .sr ?_
 refine .step rfl (.box (us := [.int .i64 x0, .int .i64 x1, .int .i64 x2]) rfl fun b1 => ?_)
 refine .step rfl (.alloc (zs := [.int .i64 0, .int .i64 0, .int .i64 0]) Tzero_54 fun b2 => ?_)
 refine .dsr ?_
 refine .step rfl (.alloc (zs := [.int .i64 0, .int .i64 0, .int .i64 0]) Tzero_54 fun b3 => ?_)
 refine .dsr ?_
 refine .fa Tfo_75_0 ?_
 refine .u (.int .i64 x0) (.load1 Tone_3 rfl (.b (.tail _ (.tail _ (.head _))))) ?_
 refine .fa Tfo_54_0 ?_
 refine .step rfl (.store (us := [.int .i64 x0]) Tsize_3 rfl rfl rfl (.here _) (by simp only [List.length_cons, List.length_nil]; omega) ?_)
 show Run _ _ _ [.blk b3 54 [.int .i64 x0, .int .i64 0, .int .i64 0], .blk b2 54 [.int .i64 0, .int .i64 0, .int .i64 0], .blk b1 75 [.int .i64 x0, .int .i64 x1, .int .i64 x2]]
 refine .dsr ?_
 refine .fa Tfo_75_1 ?_
 refine .u (.int .i64 x1) (.load1 Tone_3 rfl (.b (.tail _ (.tail _ (.head _))))) ?_
 refine .fa Tfo_54_1 ?_
 refine .step rfl (.store (us := [.int .i64 x1]) Tsize_3 rfl rfl rfl (.here _) (by simp only [List.length_cons, List.length_nil]; omega) ?_)
 show Run _ _ _ [.blk b3 54 [.int .i64 x0, .int .i64 x1, .int .i64 0], .blk b2 54 [.int .i64 0, .int .i64 0, .int .i64 0], .blk b1 75 [.int .i64 x0, .int .i64 x1, .int .i64 x2]]
 refine .dsr ?_
 refine .fa Tfo_75_2 ?_
 refine .u (.int .i64 x2) (.load1 Tone_3 rfl (.b (.tail _ (.tail _ (.head _))))) ?_
 refine .fa Tfo_54_2 ?_
 refine .step rfl (.store (us := [.int .i64 x2]) Tsize_3 rfl rfl rfl (.here _) (by simp only [List.length_cons, List.length_nil]; omega) ?_)
 show Run _ _ _ [.blk b3 54 [.int .i64 x0, .int .i64 x1, .int .i64 x2], .blk b2 54 [.int .i64 0, .int .i64 0, .int .i64 0], .blk b1 75 [.int .i64 x0, .int .i64 x1, .int .i64 x2]]
 refine .dsr ?_
 refine .u (.agg #[.int .i64 x0, .int .i64 x1, .int .i64 x2]) (.loadN (cs := [.int .i64 x0, .int .i64 x1, .int .i64 x2]) Tagg_54 rfl (Cells.blk (.head _) ⟨rfl, rfl, rfl, trivial⟩)) ?_
 refine .step rfl (.storeAll (us := [.int .i64 x0, .int .i64 x1, .int .i64 x2]) Tsize_54 rfl rfl rfl (.there _ (.here _)) rfl ?_)
 refine .done ?_
 refine .ret ?_
 refine ⟨.agg #[.int .i64 x0, .int .i64 x1, .int .i64 x2], [], Out.cell1 rfl Tagg_54 rfl (Cells.blk (.tail _ (.head _)) ⟨rfl, rfl, rfl, trivial⟩), (Some'.weak (.nil _)), ?_⟩
 rfl

set_option maxHeartbeats 1000000 in
set_option maxRecDepth 20000 in
theorem toGateS_spec {va : Value} {n : Nat} {xs : List Int} {w : World} (ha : Sl w va 3 n (ints xs)) (hb : n ≤ 1048576) :
  Calls Try.prog 17 #[va] w (Post No w fun v H => H = [.own v 54 3 n (ints xs)]) := by
 have hxl := ha.len
 obtain ⟨A, c, rfl, _, _⟩ := ha.form0
 refine enter (n := 23) (args := [.slice A n c]) Try.func17 rfl rfl (St.empty _ _) ?_
 refine .sr ?_
 refine .m ?_
 refine .dsr ?_
 refine .m ?_
 refine .u (.int .i64 (((n : Nat) : Int))) (.len Tsl_22 rfl) ?_
 refine .step rfl (.makeSlice (n := n) Tsl_32 rfl (by decide) (by first | rfl | omega) (by first | rfl | omega) (by omega) (by simp only [maxLen]; omega) fun b1 => ?_)
 refine .m ?_
 refine .done ?_
 refine .seq ?_
 refine .sr ?_
 refine .m ?_
 refine .done ?_
 refine .block ?_
 refine Run.loop (ι := Nat) [4, 8, 9, 10, 11, 12, 13, 14, 15, 16, 17, 18, 19, 20, 21] (fun i => [(4, .int .i64 (((i : Nat) : Int)))]) (fun i => [.own (.slice (some ⟨b1, 0, none⟩) n n) 54 3 n (ints (filled (i * 3) xs))]) (fun i => i ≤ n) (fun i => n - i) 0 ?_ ?_ ?_ ?_
 ·exact Nat.zero_le _
 ·exact ⟨rfl, trivial⟩
 ·exact (Some'.weak (.takeEq (by rw [Nat.zero_mul]; exact congrArg (Res.own _ _ _ _) (filled_zero hxl)) (.nil _)))
 rintro i fr hinv
 show Run _ _ (over _ _ [(4, .int .i64 (((i : Nat) : Int)))] fr) [.own (.slice (some ⟨b1, 0, none⟩) n n) 54 3 n (ints (filled (i * 3) xs))]
 try dsimp only at hinv
 refine .seq ?_
 refine .sr ?_
 iterate 2 refine .m ?_
 refine .u (.int .i64 (((n : Nat) : Int))) (.len Tsl_22 rfl) ?_
 refine .w (.bool (decide ((((i : Nat) : Int)) < (((n : Nat) : Int))))) ?_
 refine .done ?_
 refine .cond (b := decide ((((i : Nat) : Int)) < (((n : Nat) : Int)))) rfl (fun h11 => ?_) (fun h11 => ?_)
 ·have p11 := h11; try simp only [bs] at p11
  have hlt : i < n := by simp at h11; omega
  obtain ⟨b, o, rfl⟩ := ha.opn (by omega)
  refine .skip ?_
  refine .seq ?_
  refine .block ?_
  refine .region ?_
  iterate 4 refine .m ?_
  refine .u (.pointer (some ⟨b, o + i * 3, none⟩)) (.ix i Tsl_22) ?_
  refine .u (.agg #[.int .i64 (ix xs (i * 3)), .int .i64 (ix xs (i * 3 + 1)), .int .i64 (ix xs (i * 3 + 2))]) (.loadN (cs := [.int .i64 (ix xs (i * 3)), .int .i64 (ix xs (i * 3 + 1)), .int .i64 (ix xs (i * 3 + 2))]) Tagg_75 rfl (Cells.arg (k := i * 3) ha rfl (by omega) (pre3 (by omega)))) ?_
  refine .c (.agg #[.int .i64 (ix xs (i * 3)), .int .i64 (ix xs (i * 3 + 1)), .int .i64 (ix xs (i * 3 + 2))]) [.agg #[.int .i64 (ix xs (i * 3)), .int .i64 (ix xs (i * 3 + 1)), .int .i64 (ix xs (i * 3 + 2))]] Tcall_37 (fun w hs => toGate_spec _ _ _  w) ?_
  refine .u (.pointer (some ⟨b1, i * 3, none⟩)) (.ix i Tsl_32) ?_
  refine .step rfl (.storeOwnInt3 (o := i * 3) (a := ix xs (i * 3)) (b := ix xs (i * 3 + 1)) (c := ix xs (i * 3 + 2)) Tsize_54 rfl rfl (.here _) (by omega) ?_)
  refine .done ?_
  refine .blockEnd ?_
  refine .region ?_
  refine .m ?_
  refine .u (.int .i64 ((((i : Nat) : Int)) + 1)) (.add rfl rfl rfl (by omega) (by omega)) ?_
  refine .m ?_
  refine .done ?_
  refine .goal ⟨(by repeat (first | exact Same.refl _ _ | refine Same.put rfl ?_ | refine Same.over rfl rfl ?_)), i + 1, ?_, ?_, ?_, ?_⟩
  ·omega
  ·omega
  ·exact ⟨(by first | rfl | (congr 1; omega) | simp), trivial⟩
  ·exact (Some'.weak (.takeEq (congrArg (fun z => Res.own _ _ _ _ (ints z)) (filled_set3 (by omega))) (.nil _)))
 have p11 := h11; try simp only [bs] at p11
 have hkn : i = n := by simp at h11; omega
 refine .exit rfl ?_
 refine .sr ?_
 iterate 2 refine .m ?_
 refine .done ?_
 refine .ret ?_
 refine ⟨.slice (some ⟨b1, 0, none⟩) n n, [.own (.slice (some ⟨b1, 0, none⟩) n n) 54 3 n (ints xs)], Out.one rfl rfl, (Some'.weak (.takeEq (by rw [filled_all (by omega)]) (.nil _))), ?_⟩
 rfl

set_option maxHeartbeats 1000000 in
set_option maxRecDepth 20000 in
theorem szCircuit_spec {Qubits : Int} {vGates : Value} {nGates : Nat} {xsGates : List Int} {left : Int} {w : World} (hGates : Sl w vGates 3 nGates (ints xsGates)) (h0 : 0 ≤ left) (h1 : left ≤ 1048576) : Calls Try.prog 4 #[.agg #[.int .i64 Qubits, vGates], .int .i64 left] w (Post No w fun v _ => v = .int .i64 (szN left [nGates])) := by
 refine enter (n := 12) (args := [.agg #[.int .i64 Qubits, vGates], .int .i64 left]) Try.func4 rfl rfl (St.empty _ _) ?_
 refine .sr ?_
 refine .step rfl (.box (us := [.int .i64 Qubits, vGates]) rfl fun b1 => ?_)
 refine .m ?_
 refine .dsr ?_
 refine .fa Tfo_24_1 ?_
 refine .u vGates (.load1 Tone_22 rfl (.b (.head _))) ?_
 refine .m ?_
 refine .c (.int .i64 (szN left [nGates])) [vGates, .int .i64 left] Tcall_13 (fun w hs => szGateS_spec (hs.sl hGates) (by omega) (by omega)) ?_
 refine .m ?_
 refine .done ?_
 refine .seq ?_
 refine .sr ?_
 refine .m ?_
 refine .w (.bool (decide ((szN left [nGates]) < 0))) ?_
 refine .done ?_
 refine .cond (b := decide ((szN left [nGates]) < 0)) rfl (fun h10 => ?_) (fun h10 => ?_)
 ·have p10 := h10; try simp only [bs] at p10
  refine .sr ?_
  refine .m ?_
  refine .done ?_
  refine .ret ?_
  refine ⟨.int .i64 (-1), [], Out.one rfl rfl, (Some'.weak (.nil _)), ?_⟩
  show _ = _; first | (simp_all [szN]; done) | (simp only [decide_eq_true_eq, decide_eq_false_iff_not, szN] at *; grind)
 have p10 := h10; try simp only [bs] at p10
 have hz10 := szN_bound (ns := [nGates]) (l := left) p10 nGates (by simp)
 refine .skip ?_
 refine .sr ?_
 iterate 2 refine .m ?_
 refine .done ?_
 refine .ret ?_
 refine ⟨.int .i64 (szN left [nGates]), [], Out.one rfl rfl, (Some'.weak (.nil _)), ?_⟩
 show _ = _; first | (simp_all [szN]; done) | (simp only [decide_eq_true_eq, decide_eq_false_iff_not, szN] at *; grind)

set_option maxHeartbeats 1000000 in
set_option maxRecDepth 20000 in
theorem toCircuit_spec {Qubits : Int} {vGates : Value} {nGates : Nat} {xsGates : List Int} {w : World} (hGates : Sl w vGates 3 nGates (ints xsGates)) (hbGates : nGates ≤ 1048576) : Calls Try.prog 6 #[.agg #[.int .i64 Qubits, vGates]] w (Post No w fun v H => ∃ uGates, v = .agg #[.int .i64 Qubits, uGates] ∧ H = [.own uGates 54 3 nGates (ints xsGates)]) := by
 refine enter (n := 12) (args := [.agg #[.int .i64 Qubits, vGates]]) Try.func6 rfl rfl (St.empty _ _) ?_
 refine .sr ?_
 refine .step rfl (.box (us := [.int .i64 Qubits, vGates]) rfl fun b1 => ?_)
 refine .step rfl (.alloc (zs := [.int .i64 0, .slice none 0 0]) Tzero_34 fun b2 => ?_)
 refine .dsr ?_
 refine .step rfl (.alloc (zs := [.int .i64 0, .slice none 0 0]) Tzero_34 fun b3 => ?_)
 refine .dsr ?_
 refine .fa Tfo_24_0 ?_
 refine .u (.int .i64 Qubits) (.load1 Tone_3 rfl (.b (.tail _ (.tail _ (.head _))))) ?_
 refine .fa Tfo_34_0 ?_
 refine .step rfl (.store (us := [.int .i64 Qubits]) Tsize_3 rfl rfl rfl (.here _) (by simp only [List.length_cons, List.length_nil]; omega) ?_)
 show Run _ _ _ [.blk b3 34 [.int .i64 Qubits, .slice none 0 0], .blk b2 34 [.int .i64 0, .slice none 0 0], .blk b1 24 [.int .i64 Qubits, vGates]]
 refine .dsr ?_
 refine .fa Tfo_24_1 ?_
 refine .u vGates (.load1 Tone_22 rfl (.b (.tail _ (.tail _ (.head _))))) ?_
 refine .step rfl (.c [vGates] Tcall_17 (fun w hs => toGateS_spec (hs.sl hGates) (by omega)) ?_)
 rintro uGates _ rfl
 show Run _ _ (putF _ _ _ uGates) [.own uGates 54 3 nGates (ints xsGates), .blk b3 34 [.int .i64 Qubits, .slice none 0 0], .blk b2 34 [.int .i64 0, .slice none 0 0], .blk b1 24 [.int .i64 Qubits, vGates]]
 refine .fa Tfo_34_1 ?_
 refine Run.formOwn (.head _) (fun A_uGates1 c_uGates1 hv hcapc_uGates1 hmaxc_uGates1 => ?_) (fun _ _ _ => ⟨nofun, nofun, nofun⟩)
 subst hv
 refine .step rfl (.store (us := [.slice A_uGates1 nGates c_uGates1]) Tsize_32 rfl rfl rfl (.there _ (.here _)) (by simp only [List.length_cons, List.length_nil]; omega) ?_)
 show Run _ _ _ [.own (.slice A_uGates1 nGates c_uGates1) 54 3 nGates (ints xsGates), .blk b3 34 [.int .i64 Qubits, .slice A_uGates1 nGates c_uGates1], .blk b2 34 [.int .i64 0, .slice none 0 0], .blk b1 24 [.int .i64 Qubits, vGates]]
 refine .dsr ?_
 refine .u (.agg #[.int .i64 Qubits, .slice A_uGates1 nGates c_uGates1]) (.loadN (cs := [.int .i64 Qubits, .slice A_uGates1 nGates c_uGates1]) Tagg_34 rfl (Cells.blk (.tail _ (.head _)) ⟨rfl, rfl, trivial⟩)) ?_
 refine .step rfl (.storeAll (us := [.int .i64 Qubits, .slice A_uGates1 nGates c_uGates1]) Tsize_34 rfl rfl rfl (.there _ (.there _ (.here _))) rfl ?_)
 refine .done ?_
 refine .ret ?_
 refine ⟨.agg #[.int .i64 Qubits, .slice A_uGates1 nGates c_uGates1], [.own (.slice A_uGates1 nGates c_uGates1) 54 3 nGates (ints xsGates)], Out.cell1 rfl Tagg_34 rfl (Cells.blk (.tail _ (.tail _ (.head _))) ⟨rfl, rfl, trivial⟩), (Some'.weak (.take (.nil _))), ?_⟩
 exact ⟨_, rfl, rfl⟩

set_option maxHeartbeats 1000000 in
set_option maxRecDepth 20000 in
theorem eqCircuit_true {Qubits : Int} {vGates : Value} {nGates : Nat} {xsGates : List Int} {qvGates : Value} {w : World} (hGates : Sl w vGates 3 nGates (ints xsGates)) (qhGates : Sl w qvGates 3 nGates (ints xsGates)) : Calls Try.prog 9 #[.agg #[.int .i64 Qubits, vGates], .agg #[.int .i64 Qubits, qvGates]] w (Post No w fun v _ => v = .bool true) := by
 refine enter (n := 16) (args := [.agg #[.int .i64 Qubits, vGates], .agg #[.int .i64 Qubits, qvGates]]) Try.func9 rfl rfl (St.empty _ _) ?_
 refine .sr ?_
 refine .step rfl (.box (us := [.int .i64 Qubits, vGates]) rfl fun b1 => ?_)
 refine .step rfl (.box (us := [.int .i64 Qubits, qvGates]) rfl fun b2 => ?_)
 refine .m ?_
 refine .done ?_
 refine .seq ?_
 refine .sr ?_
 refine .fa Tfo_34_0 ?_
 refine .u (.int .i64 Qubits) (.load1 Tone_3 rfl (.b (.tail _ (.head _)))) ?_
 refine .fa Tfo_34_0 ?_
 refine .u (.int .i64 Qubits) (.load1 Tone_3 rfl (.b (.head _))) ?_
 refine .u (.bool false) (.neqSame rfl rfl rfl) ?_
 refine .done ?_
 refine .cond (b := false) rfl (fun h => nomatch h) (fun _ => ?_)
 refine .skip ?_
 refine .seq ?_
 refine .sr ?_
 refine .fa Tfo_34_1 ?_
 refine .u vGates (.load1 Tone_32 rfl (.b (.tail _ (.head _)))) ?_
 refine .fa Tfo_34_1 ?_
 refine .u qvGates (.load1 Tone_32 rfl (.b (.head _))) ?_
 refine .c (.bool true) [vGates, qvGates] Tcall_24 (fun w hs => eqGateS_true (hs.sl hGates) (hs.sl qhGates) rfl) ?_
 refine .w (.bool false) ?_
 refine .done ?_
 refine .cond (b := false) rfl (fun h => nomatch h) (fun _ => ?_)
 refine .skip ?_
 refine .sr ?_
 refine .m ?_
 refine .done ?_
 refine .ret ?_
 refine ⟨.bool true, [], Out.one rfl rfl, (Some'.weak (.nil _)), ?_⟩
 rfl

set_option maxHeartbeats 1000000 in
set_option maxRecDepth 20000 in
theorem markCircuit_spec {Qubits : Int} {vGates : Value} {nGates : Nat} {xsGates : List Int} {k : Int} {w : World} (hst : St (Of [.own vGates 54 3 nGates (ints xsGates)]) w w [.own vGates 54 3 nGates (ints xsGates)]) (h0 : 0 ≤ k) (hk : k + ((nGates : Nat) : Int) * 3 < 4611686018427387904) :
  Calls Try.prog 10 #[.agg #[.int .i64 Qubits, vGates], .int .i64 k] w (Post (Of [.own vGates 54 3 nGates (ints xsGates)]) w fun v H => v = .int .i64 (k + ((nGates : Nat) : Int) * 3) ∧ H = [.own vGates 54 3 nGates (ints (mks (k) (nGates * 3)))]) := by
 refine enter (n := 10) (args := [.agg #[.int .i64 Qubits, vGates], .int .i64 k]) Try.func10 rfl rfl (hst) ?_
 refine .sr ?_
 refine .step rfl (.box (us := [.int .i64 Qubits, vGates]) rfl fun b1 => ?_)
 refine .m ?_
 refine .dsr ?_
 refine .fa Tfo_34_1 ?_
 refine .u vGates (.load1 Tone_32 rfl (.b (.head _))) ?_
 refine .m ?_
 refine .step rfl (.callM (H1 := [.own vGates 54 3 nGates (ints xsGates)]) (H2 := [.blk b1 34 [.int .i64 Qubits, vGates]]) (vs := [vGates, .int .i64 k]) (caps := []) Tcall_25 rfl rfl (Weak.selF [1]) (fun w hs => markGateS_spec (hs.holds _ (.head _)) (by omega) (by omega)) ?_)
 rintro _ _ ⟨rfl, rfl⟩
 show Run _ _ (putF _ _ _ (.int .i64 (k + ((nGates : Nat) : Int) * 3))) [.own vGates 54 3 nGates (ints (mks k (nGates * 3))), .blk b1 34 [.int .i64 Qubits, vGates]]
 refine .m ?_
 refine .dsr ?_
 iterate 2 refine .m ?_
 refine .done ?_
 refine .ret ?_
 refine ⟨.int .i64 (k + ((nGates : Nat) : Int) * 3), [.own vGates 54 3 nGates (ints (mks (k) (nGates * 3)))], Out.one rfl rfl, (Some'.weak (.takeEq (by first | rfl | simp) (.nil _))), ?_⟩
 exact ⟨rfl, rfl⟩


def gateOk (n k a b : Int) : Bool := decide ((1 ≤ k ∧ k ≤ 8 ∧ 0 ≤ a ∧ a < n ∧ b = 0) ∨ (9 ≤ k ∧ k ≤ 11 ∧ 0 ≤ a ∧ a < n ∧ 0 ≤ b ∧ b < n ∧ a ≠ b) ∨ (k = 12 ∧ a = 0 ∧ b = 0))
def gateAt (n : Int) (xs : List Int) (i : Nat) : Bool := gateOk n (ix xs (i * 3)) (ix xs (i * 3 + 1)) (ix xs (i * 3 + 2))
def circOk (N : Int) (xs : List Int) (n : Nat) : Bool := within N 1 5 && decide (n ≤ 400) && allI (gateAt N xs) n
theorem circOk_N {N : Int} {xs : List Int} {n : Nat} (h : circOk N xs n = true) : 1 ≤ N ∧ N ≤ 5 := by
  simp only [circOk, Bool.and_eq_true] at h; exact within_iff.1 h.1.1
theorem circOk_n {N : Int} {xs : List Int} {n : Nat} (h : circOk N xs n = true) : n ≤ 400 := by
  simp only [circOk, Bool.and_eq_true, decide_eq_true_eq] at h; exact h.1.2
theorem circOk_gate {N : Int} {xs : List Int} {n : Nat} (h : circOk N xs n = true) {i : Nat} (hi : i < n) : gateAt N xs i = true := by
  simp only [circOk, Bool.and_eq_true] at h; exact allI_iff.1 h.2 i hi
theorem gateOk_split {n k a b : Int} (h : gateOk n k a b = true) : (1 ≤ k ∧ k ≤ 8 ∧ 0 ≤ a ∧ a < n ∧ b = 0) ∨ (9 ≤ k ∧ k ≤ 11 ∧ 0 ≤ a ∧ a < n ∧ 0 ≤ b ∧ b < n ∧ a ≠ b) ∨ (k = 12 ∧ a = 0 ∧ b = 0) := of_decide_eq_true h
/-- The qubits of a gate. -/
def qs (k a b : Int) : List Int := if k = 12 then [] else if 9 ≤ k ∧ k ≤ 11 then [a, b] else [a]
theorem qs_le (k a b : Int) : (qs k a b).length ≤ 2 := by unfold qs; split <;> (try split) <;> simp

set_option maxHeartbeats 1000000 in
set_option maxRecDepth 20000 in
theorem isTwo_spec (k : Int) (w : World) : Calls Try.prog 57 #[.int .i64 k] w (Post No w fun v _ => v = .bool (decide (9 ≤ k ∧ k ≤ 11))) := by
 refine enter (n := 5) (args := [.int .i64 k]) Try.func57 rfl rfl (St.empty _ _) ?_
 refine .sr ?_
 refine .m ?_
 refine .dsr ?_
 refine .m ?_
 refine .c (.bool (within k 9 11)) [.int .i64 k, .int .i64 9, .int .i64 11] Tcall_38 (fun w hs => within_spec _ _ _ w) ?_
 refine .m ?_
 refine .done ?_
 refine .ret ?_
 refine ⟨.bool (within k 9 11), [], Out.one rfl rfl, (Some'.weak (.nil _)), ?_⟩
 show _ = _; rw [within, Bool.decide_and]

set_option maxHeartbeats 1000000 in
set_option maxRecDepth 20000 in
theorem l4Gate_spec {n k a b : Int} (hn : 1 ≤ n ∧ n ≤ 5) (w : World) : Calls Try.prog 31 #[.int .i64 n, .agg #[.int .i64 k, .int .i64 a, .int .i64 b]] w (Post No w fun v _ => v = .bool (gateOk n k a b)) := by
 have hn5 := within_iff.2 hn
 refine enter (n := 55) (args := [.int .i64 n, .agg #[.int .i64 k, .int .i64 a, .int .i64 b]]) Try.func31 rfl rfl (St.empty _ _) ?_
 refine .sr ?_
 refine .step rfl (.box (us := [.int .i64 k, .int .i64 a, .int .i64 b]) rfl fun b1 => ?_)
 refine .m ?_
 refine .done ?_
 refine .seq ?_
 refine .block ?_
 refine .sr ?_
 refine .fa Tfo_54_0 ?_
 refine .u (.int .i64 k) (.load1 Tone_3 rfl (.b (.head _))) ?_
 refine .c (.bool (within k 1 8)) [.int .i64 k, .int .i64 1, .int .i64 8] Tcall_30 (fun w hs => l1In_spec _ _ _ w) ?_
 refine .m ?_
 refine .done ?_
 refine .cond (b := within k 1 8) rfl (fun h5 => ?_) (fun h5 => ?_)
 ·have p5 := h5; try simp only [bs] at p5
  refine .sr ?_
  refine .fa Tfo_54_1 ?_
  refine .u (.int .i64 a) (.load1 Tone_3 rfl (.b (.head _))) ?_
  refine .m ?_
  refine .u (.int .i64 (n - 1)) (.sub rfl rfl rfl (by omega) (by omega)) ?_
  refine .c (.bool (within a 0 (n - 1))) [.int .i64 a, .int .i64 0, .int .i64 (n - 1)] Tcall_30 (fun w hs => l1In_spec _ _ _ w) ?_
  rcases Bool.eq_false_or_eq_true (within a 0 (n - 1)) with h14 | h14
  ·refine .mb h14 ?_
   have p14 := h14; try simp only [bs] at p14
   refine .fa Tfo_54_2 ?_
   refine .u (.int .i64 b) (.load1 Tone_3 rfl (.b (.head _))) ?_
   refine .w (.bool (b == 0)) ?_
   refine .w (.bool (b == 0)) ?_
   refine .m ?_
   refine .done ?_
   refine .ret ?_
   refine ⟨.bool (b == 0), [], Out.one rfl rfl, (Some'.weak (.nil _)), ?_⟩
   show _ = _; congr 1; rw [eq_comm]; simp only [within, bs] at *; unfold gateOk; first | (rw [decide_eq_true_iff]; omega) | (rw [decide_eq_false_iff_not]; omega) | (rw [Bool.eq_iff_iff, decide_eq_true_iff, beq_iff_eq]; omega) | (rw [Bool.eq_iff_iff, decide_eq_true_iff, bne_iff_ne]; omega) | (rw [Bool.eq_iff_iff, decide_eq_true_iff, within_iff]; omega)
  refine .mb h14 ?_
  have p14 := h14; try simp only [bs] at p14
  iterate 3 refine .pass rfl ?_
  refine .w (.bool false) ?_
  refine .m ?_
  refine .done ?_
  refine .ret ?_
  refine ⟨.bool false, [], Out.one rfl rfl, (Some'.weak (.nil _)), ?_⟩
  show _ = _; congr 1; rw [eq_comm]; simp only [within, bs] at *; unfold gateOk; first | (rw [decide_eq_true_iff]; omega) | (rw [decide_eq_false_iff_not]; omega) | (rw [Bool.eq_iff_iff, decide_eq_true_iff, beq_iff_eq]; omega) | (rw [Bool.eq_iff_iff, decide_eq_true_iff, bne_iff_ne]; omega) | (rw [Bool.eq_iff_iff, decide_eq_true_iff, within_iff]; omega)
 have p5 := h5; try simp only [bs] at p5
 refine .sr ?_
 refine .fa Tfo_54_0 ?_
 refine .u (.int .i64 k) (.load1 Tone_3 rfl (.b (.head _))) ?_
 refine .c (.bool (within k 9 11)) [.int .i64 k, .int .i64 9, .int .i64 11] Tcall_30 (fun w hs => l1In_spec _ _ _ w) ?_
 refine .m ?_
 refine .done ?_
 refine .cond (b := within k 9 11) rfl (fun h19 => ?_) (fun h19 => ?_)
 ·have p19 := h19; try simp only [bs] at p19
  refine .sr ?_
  refine .fa Tfo_54_1 ?_
  refine .u (.int .i64 a) (.load1 Tone_3 rfl (.b (.head _))) ?_
  refine .m ?_
  refine .u (.int .i64 (n - 1)) (.sub rfl rfl rfl (by omega) (by omega)) ?_
  refine .c (.bool (within a 0 (n - 1))) [.int .i64 a, .int .i64 0, .int .i64 (n - 1)] Tcall_30 (fun w hs => l1In_spec _ _ _ w) ?_
  rcases Bool.eq_false_or_eq_true (within a 0 (n - 1)) with h28 | h28
  ·refine .mb h28 ?_
   have p28 := h28; try simp only [bs] at p28
   refine .fa Tfo_54_2 ?_
   refine .u (.int .i64 b) (.load1 Tone_3 rfl (.b (.head _))) ?_
   refine .m ?_
   refine .u (.int .i64 (n - 1)) (.sub rfl rfl rfl (by omega) (by omega)) ?_
   refine .c (.bool (within b 0 (n - 1))) [.int .i64 b, .int .i64 0, .int .i64 (n - 1)] Tcall_30 (fun w hs => l1In_spec _ _ _ w) ?_
   refine .w (.bool (within b 0 (n - 1))) ?_
   rcases Bool.eq_false_or_eq_true (within b 0 (n - 1)) with h35 | h35
   ·refine .mb h35 ?_
    have p35 := h35; try simp only [bs] at p35
    refine .fa Tfo_54_1 ?_
    refine .u (.int .i64 a) (.load1 Tone_3 rfl (.b (.head _))) ?_
    refine .fa Tfo_54_2 ?_
    refine .u (.int .i64 b) (.load1 Tone_3 rfl (.b (.head _))) ?_
    refine .w (.bool (a != b)) ?_
    refine .w (.bool (a != b)) ?_
    refine .m ?_
    refine .done ?_
    refine .ret ?_
    refine ⟨.bool (a != b), [], Out.one rfl rfl, (Some'.weak (.nil _)), ?_⟩
    show _ = _; congr 1; rw [eq_comm]; simp only [within, bs] at *; unfold gateOk; first | (rw [decide_eq_true_iff]; omega) | (rw [decide_eq_false_iff_not]; omega) | (rw [Bool.eq_iff_iff, decide_eq_true_iff, beq_iff_eq]; omega) | (rw [Bool.eq_iff_iff, decide_eq_true_iff, bne_iff_ne]; omega) | (rw [Bool.eq_iff_iff, decide_eq_true_iff, within_iff]; omega)
   refine .mb h35 ?_
   have p35 := h35; try simp only [bs] at p35
   iterate 5 refine .pass rfl ?_
   refine .w (.bool false) ?_
   refine .m ?_
   refine .done ?_
   refine .ret ?_
   refine ⟨.bool false, [], Out.one rfl rfl, (Some'.weak (.nil _)), ?_⟩
   show _ = _; congr 1; rw [eq_comm]; simp only [within, bs] at *; unfold gateOk; first | (rw [decide_eq_true_iff]; omega) | (rw [decide_eq_false_iff_not]; omega) | (rw [Bool.eq_iff_iff, decide_eq_true_iff, beq_iff_eq]; omega) | (rw [Bool.eq_iff_iff, decide_eq_true_iff, bne_iff_ne]; omega) | (rw [Bool.eq_iff_iff, decide_eq_true_iff, within_iff]; omega)
  refine .mb h28 ?_
  have p28 := h28; try simp only [bs] at p28
  iterate 5 refine .pass rfl ?_
  refine .w (.bool false) ?_
  refine .m ?_
  iterate 5 refine .pass rfl ?_
  refine .w (.bool false) ?_
  refine .m ?_
  refine .done ?_
  refine .ret ?_
  refine ⟨.bool false, [], Out.one rfl rfl, (Some'.weak (.nil _)), ?_⟩
  show _ = _; congr 1; rw [eq_comm]; simp only [within, bs] at *; unfold gateOk; first | (rw [decide_eq_true_iff]; omega) | (rw [decide_eq_false_iff_not]; omega) | (rw [Bool.eq_iff_iff, decide_eq_true_iff, beq_iff_eq]; omega) | (rw [Bool.eq_iff_iff, decide_eq_true_iff, bne_iff_ne]; omega) | (rw [Bool.eq_iff_iff, decide_eq_true_iff, within_iff]; omega)
 have p19 := h19; try simp only [bs] at p19
 refine .skip ?_
 refine .blockEnd ?_
 refine .sr ?_
 refine .fa Tfo_54_0 ?_
 refine .u (.int .i64 k) (.load1 Tone_3 rfl (.b (.head _))) ?_
 refine .w (.bool (k == 12)) ?_
 rcases Bool.eq_false_or_eq_true (k == 12) with h45 | h45
 ·refine .mb h45 ?_
  have p45 := h45; try simp only [bs] at p45
  refine .fa Tfo_54_1 ?_
  refine .u (.int .i64 a) (.load1 Tone_3 rfl (.b (.head _))) ?_
  refine .w (.bool (a == 0)) ?_
  refine .w (.bool (a == 0)) ?_
  rcases Bool.eq_false_or_eq_true (a == 0) with h50 | h50
  ·refine .mb h50 ?_
   have p50 := h50; try simp only [bs] at p50
   refine .fa Tfo_54_2 ?_
   refine .u (.int .i64 b) (.load1 Tone_3 rfl (.b (.head _))) ?_
   refine .w (.bool (b == 0)) ?_
   refine .w (.bool (b == 0)) ?_
   refine .m ?_
   refine .done ?_
   refine .ret ?_
   refine ⟨.bool (b == 0), [], Out.one rfl rfl, (Some'.weak (.nil _)), ?_⟩
   show _ = _; congr 1; rw [eq_comm]; simp only [within, bs] at *; unfold gateOk; first | (rw [decide_eq_true_iff]; omega) | (rw [decide_eq_false_iff_not]; omega) | (rw [Bool.eq_iff_iff, decide_eq_true_iff, beq_iff_eq]; omega) | (rw [Bool.eq_iff_iff, decide_eq_true_iff, bne_iff_ne]; omega) | (rw [Bool.eq_iff_iff, decide_eq_true_iff, within_iff]; omega)
  refine .mb h50 ?_
  have p50 := h50; try simp only [bs] at p50
  iterate 3 refine .pass rfl ?_
  refine .w (.bool false) ?_
  refine .m ?_
  refine .done ?_
  refine .ret ?_
  refine ⟨.bool false, [], Out.one rfl rfl, (Some'.weak (.nil _)), ?_⟩
  show _ = _; congr 1; rw [eq_comm]; simp only [within, bs] at *; unfold gateOk; first | (rw [decide_eq_true_iff]; omega) | (rw [decide_eq_false_iff_not]; omega) | (rw [Bool.eq_iff_iff, decide_eq_true_iff, beq_iff_eq]; omega) | (rw [Bool.eq_iff_iff, decide_eq_true_iff, bne_iff_ne]; omega) | (rw [Bool.eq_iff_iff, decide_eq_true_iff, within_iff]; omega)
 refine .mb h45 ?_
 have p45 := h45; try simp only [bs] at p45
 iterate 3 refine .pass rfl ?_
 refine .w (.bool false) ?_
 refine .m ?_
 iterate 3 refine .pass rfl ?_
 refine .w (.bool false) ?_
 refine .m ?_
 refine .done ?_
 refine .ret ?_
 refine ⟨.bool false, [], Out.one rfl rfl, (Some'.weak (.nil _)), ?_⟩
 show _ = _; congr 1; rw [eq_comm]; simp only [within, bs] at *; unfold gateOk; first | (rw [decide_eq_true_iff]; omega) | (rw [decide_eq_false_iff_not]; omega) | (rw [Bool.eq_iff_iff, decide_eq_true_iff, beq_iff_eq]; omega) | (rw [Bool.eq_iff_iff, decide_eq_true_iff, bne_iff_ne]; omega) | (rw [Bool.eq_iff_iff, decide_eq_true_iff, within_iff]; omega)

set_option maxHeartbeats 1000000 in
set_option maxRecDepth 20000 in
theorem IsValidGate_spec {n k a b : Int} (hn : 1 ≤ n ∧ n ≤ 5) (w : World) : Calls Try.prog 41 #[.int .i64 n, .agg #[.int .i64 k, .int .i64 a, .int .i64 b]] w (Post No w fun v _ => v = .bool (gateOk n k a b)) := by
 have hn5 := within_iff.2 hn
 refine enter (n := 60) (args := [.int .i64 n, .agg #[.int .i64 k, .int .i64 a, .int .i64 b]]) Try.func41 rfl rfl (St.empty _ _) ?_
 refine .sr ?_
 refine .step rfl (.box (us := [.int .i64 k, .int .i64 a, .int .i64 b]) rfl fun b1 => ?_)
 refine .m ?_
 refine .done ?_
 refine .seq ?_
 refine .block ?_
 refine .sr ?_
 refine .m ?_
 refine .c (.bool (within n 1 5)) [.int .i64 n, .int .i64 1, .int .i64 5] Tcall_38 (fun w hs => within_spec _ _ _ w) ?_
 refine .w (.bool (!(within n 1 5))) ?_
 rcases Bool.eq_false_or_eq_true (!(within n 1 5)) with h9 | h9
 ·refine .mb h9 ?_
  have p9 := h9; try simp only [bs] at p9
  iterate 4 refine .pass rfl ?_
  refine .w (.bool true) ?_
  refine .m ?_
  refine .done ?_
  refine .cond (b := true) rfl (fun _ => ?_) (fun h => nomatch h)
  refine .sr ?_
  refine .m ?_
  refine .done ?_
  refine .ret ?_
  refine ⟨.bool false, [], Out.one rfl rfl, (Some'.weak (.nil _)), ?_⟩
  show _ = _; congr 1; rw [eq_comm]; simp only [within, bs] at *; unfold gateOk; first | (rw [decide_eq_true_iff]; omega) | (rw [decide_eq_false_iff_not]; omega) | (rw [Bool.eq_iff_iff, decide_eq_true_iff, beq_iff_eq]; omega) | (rw [Bool.eq_iff_iff, decide_eq_true_iff, bne_iff_ne]; omega) | (rw [Bool.eq_iff_iff, decide_eq_true_iff, within_iff]; omega)
 refine .mb h9 ?_
 have p9 := h9; try simp only [bs] at p9
 refine .fa Tfo_54_0 ?_
 refine .u (.int .i64 k) (.load1 Tone_3 rfl (.b (.head _))) ?_
 refine .c (.bool (within k 1 12)) [.int .i64 k, .int .i64 1, .int .i64 12] Tcall_38 (fun w hs => within_spec _ _ _ w) ?_
 refine .w (.bool (!(within k 1 12))) ?_
 refine .w (.bool (!(within k 1 12))) ?_
 refine .m ?_
 refine .done ?_
 refine .cond (b := !(within k 1 12)) rfl (fun h5 => ?_) (fun h5 => ?_)
 ·have p5 := h5; try simp only [bs] at p5
  refine .sr ?_
  refine .m ?_
  refine .done ?_
  refine .ret ?_
  refine ⟨.bool false, [], Out.one rfl rfl, (Some'.weak (.nil _)), ?_⟩
  show _ = _; congr 1; rw [eq_comm]; simp only [within, bs] at *; unfold gateOk; first | (rw [decide_eq_true_iff]; omega) | (rw [decide_eq_false_iff_not]; omega) | (rw [Bool.eq_iff_iff, decide_eq_true_iff, beq_iff_eq]; omega) | (rw [Bool.eq_iff_iff, decide_eq_true_iff, bne_iff_ne]; omega) | (rw [Bool.eq_iff_iff, decide_eq_true_iff, within_iff]; omega)
 have p5 := h5; try simp only [bs] at p5
 refine .sr ?_
 refine .fa Tfo_54_0 ?_
 refine .u (.int .i64 k) (.load1 Tone_3 rfl (.b (.head _))) ?_
 refine .w (.bool (k == 12)) ?_
 refine .m ?_
 refine .done ?_
 refine .cond (b := k == 12) rfl (fun h15 => ?_) (fun h15 => ?_)
 ·have p15 := h15; try simp only [bs] at p15
  refine .sr ?_
  refine .fa Tfo_54_1 ?_
  refine .u (.int .i64 a) (.load1 Tone_3 rfl (.b (.head _))) ?_
  refine .w (.bool (a == 0)) ?_
  rcases Bool.eq_false_or_eq_true (a == 0) with h22 | h22
  ·refine .mb h22 ?_
   have p22 := h22; try simp only [bs] at p22
   refine .fa Tfo_54_2 ?_
   refine .u (.int .i64 b) (.load1 Tone_3 rfl (.b (.head _))) ?_
   refine .w (.bool (b == 0)) ?_
   refine .w (.bool (b == 0)) ?_
   refine .m ?_
   refine .done ?_
   refine .ret ?_
   refine ⟨.bool (b == 0), [], Out.one rfl rfl, (Some'.weak (.nil _)), ?_⟩
   show _ = _; congr 1; rw [eq_comm]; simp only [within, bs] at *; unfold gateOk; first | (rw [decide_eq_true_iff]; omega) | (rw [decide_eq_false_iff_not]; omega) | (rw [Bool.eq_iff_iff, decide_eq_true_iff, beq_iff_eq]; omega) | (rw [Bool.eq_iff_iff, decide_eq_true_iff, bne_iff_ne]; omega) | (rw [Bool.eq_iff_iff, decide_eq_true_iff, within_iff]; omega)
  refine .mb h22 ?_
  have p22 := h22; try simp only [bs] at p22
  iterate 3 refine .pass rfl ?_
  refine .w (.bool false) ?_
  refine .m ?_
  refine .done ?_
  refine .ret ?_
  refine ⟨.bool false, [], Out.one rfl rfl, (Some'.weak (.nil _)), ?_⟩
  show _ = _; congr 1; rw [eq_comm]; simp only [within, bs] at *; unfold gateOk; first | (rw [decide_eq_true_iff]; omega) | (rw [decide_eq_false_iff_not]; omega) | (rw [Bool.eq_iff_iff, decide_eq_true_iff, beq_iff_eq]; omega) | (rw [Bool.eq_iff_iff, decide_eq_true_iff, bne_iff_ne]; omega) | (rw [Bool.eq_iff_iff, decide_eq_true_iff, within_iff]; omega)
 have p15 := h15; try simp only [bs] at p15
 refine .sr ?_
 refine .fa Tfo_54_0 ?_
 refine .u (.int .i64 k) (.load1 Tone_3 rfl (.b (.head _))) ?_
 refine .c (.bool (decide (9 ≤ k ∧ k ≤ 11))) [.int .i64 k] Tcall_57 (fun w hs => isTwo_spec _ w) ?_
 refine .m ?_
 refine .done ?_
 refine .cond (b := decide (9 ≤ k ∧ k ≤ 11)) rfl (fun h27 => ?_) (fun h27 => ?_)
 ·have p27 := h27; try simp only [bs] at p27
  refine .sr ?_
  refine .fa Tfo_54_1 ?_
  refine .u (.int .i64 a) (.load1 Tone_3 rfl (.b (.head _))) ?_
  refine .m ?_
  refine .u (.int .i64 (n - 1)) (.sub rfl rfl rfl (by omega) (by omega)) ?_
  refine .c (.bool (within a 0 (n - 1))) [.int .i64 a, .int .i64 0, .int .i64 (n - 1)] Tcall_38 (fun w hs => within_spec _ _ _ w) ?_
  rcases Bool.eq_false_or_eq_true (within a 0 (n - 1)) with h36 | h36
  ·refine .mb h36 ?_
   have p36 := h36; try simp only [bs] at p36
   refine .fa Tfo_54_2 ?_
   refine .u (.int .i64 b) (.load1 Tone_3 rfl (.b (.head _))) ?_
   refine .m ?_
   refine .u (.int .i64 (n - 1)) (.sub rfl rfl rfl (by omega) (by omega)) ?_
   refine .c (.bool (within b 0 (n - 1))) [.int .i64 b, .int .i64 0, .int .i64 (n - 1)] Tcall_38 (fun w hs => within_spec _ _ _ w) ?_
   refine .w (.bool (within b 0 (n - 1))) ?_
   rcases Bool.eq_false_or_eq_true (within b 0 (n - 1)) with h43 | h43
   ·refine .mb h43 ?_
    have p43 := h43; try simp only [bs] at p43
    refine .fa Tfo_54_1 ?_
    refine .u (.int .i64 a) (.load1 Tone_3 rfl (.b (.head _))) ?_
    refine .fa Tfo_54_2 ?_
    refine .u (.int .i64 b) (.load1 Tone_3 rfl (.b (.head _))) ?_
    refine .w (.bool (a != b)) ?_
    refine .w (.bool (a != b)) ?_
    refine .m ?_
    refine .done ?_
    refine .ret ?_
    refine ⟨.bool (a != b), [], Out.one rfl rfl, (Some'.weak (.nil _)), ?_⟩
    show _ = _; congr 1; rw [eq_comm]; simp only [within, bs] at *; unfold gateOk; first | (rw [decide_eq_true_iff]; omega) | (rw [decide_eq_false_iff_not]; omega) | (rw [Bool.eq_iff_iff, decide_eq_true_iff, beq_iff_eq]; omega) | (rw [Bool.eq_iff_iff, decide_eq_true_iff, bne_iff_ne]; omega) | (rw [Bool.eq_iff_iff, decide_eq_true_iff, within_iff]; omega)
   refine .mb h43 ?_
   have p43 := h43; try simp only [bs] at p43
   iterate 5 refine .pass rfl ?_
   refine .w (.bool false) ?_
   refine .m ?_
   refine .done ?_
   refine .ret ?_
   refine ⟨.bool false, [], Out.one rfl rfl, (Some'.weak (.nil _)), ?_⟩
   show _ = _; congr 1; rw [eq_comm]; simp only [within, bs] at *; unfold gateOk; first | (rw [decide_eq_true_iff]; omega) | (rw [decide_eq_false_iff_not]; omega) | (rw [Bool.eq_iff_iff, decide_eq_true_iff, beq_iff_eq]; omega) | (rw [Bool.eq_iff_iff, decide_eq_true_iff, bne_iff_ne]; omega) | (rw [Bool.eq_iff_iff, decide_eq_true_iff, within_iff]; omega)
  refine .mb h36 ?_
  have p36 := h36; try simp only [bs] at p36
  iterate 5 refine .pass rfl ?_
  refine .w (.bool false) ?_
  refine .m ?_
  iterate 5 refine .pass rfl ?_
  refine .w (.bool false) ?_
  refine .m ?_
  refine .done ?_
  refine .ret ?_
  refine ⟨.bool false, [], Out.one rfl rfl, (Some'.weak (.nil _)), ?_⟩
  show _ = _; congr 1; rw [eq_comm]; simp only [within, bs] at *; unfold gateOk; first | (rw [decide_eq_true_iff]; omega) | (rw [decide_eq_false_iff_not]; omega) | (rw [Bool.eq_iff_iff, decide_eq_true_iff, beq_iff_eq]; omega) | (rw [Bool.eq_iff_iff, decide_eq_true_iff, bne_iff_ne]; omega) | (rw [Bool.eq_iff_iff, decide_eq_true_iff, within_iff]; omega)
 have p27 := h27; try simp only [bs] at p27
 refine .skip ?_
 refine .blockEnd ?_
 refine .sr ?_
 refine .fa Tfo_54_1 ?_
 refine .u (.int .i64 a) (.load1 Tone_3 rfl (.b (.head _))) ?_
 refine .m ?_
 refine .u (.int .i64 (n - 1)) (.sub rfl rfl rfl (by omega) (by omega)) ?_
 refine .c (.bool (within a 0 (n - 1))) [.int .i64 a, .int .i64 0, .int .i64 (n - 1)] Tcall_38 (fun w hs => within_spec _ _ _ w) ?_
 rcases Bool.eq_false_or_eq_true (within a 0 (n - 1)) with h55 | h55
 ·refine .mb h55 ?_
  have p55 := h55; try simp only [bs] at p55
  refine .fa Tfo_54_2 ?_
  refine .u (.int .i64 b) (.load1 Tone_3 rfl (.b (.head _))) ?_
  refine .w (.bool (b == 0)) ?_
  refine .w (.bool (b == 0)) ?_
  refine .m ?_
  refine .done ?_
  refine .ret ?_
  refine ⟨.bool (b == 0), [], Out.one rfl rfl, (Some'.weak (.nil _)), ?_⟩
  show _ = _; congr 1; rw [eq_comm]; simp only [within, bs] at *; unfold gateOk; first | (rw [decide_eq_true_iff]; omega) | (rw [decide_eq_false_iff_not]; omega) | (rw [Bool.eq_iff_iff, decide_eq_true_iff, beq_iff_eq]; omega) | (rw [Bool.eq_iff_iff, decide_eq_true_iff, bne_iff_ne]; omega) | (rw [Bool.eq_iff_iff, decide_eq_true_iff, within_iff]; omega)
 refine .mb h55 ?_
 have p55 := h55; try simp only [bs] at p55
 iterate 3 refine .pass rfl ?_
 refine .w (.bool false) ?_
 refine .m ?_
 refine .done ?_
 refine .ret ?_
 refine ⟨.bool false, [], Out.one rfl rfl, (Some'.weak (.nil _)), ?_⟩
 show _ = _; congr 1; rw [eq_comm]; simp only [within, bs] at *; unfold gateOk; first | (rw [decide_eq_true_iff]; omega) | (rw [decide_eq_false_iff_not]; omega) | (rw [Bool.eq_iff_iff, decide_eq_true_iff, beq_iff_eq]; omega) | (rw [Bool.eq_iff_iff, decide_eq_true_iff, bne_iff_ne]; omega) | (rw [Bool.eq_iff_iff, decide_eq_true_iff, within_iff]; omega)

set_option maxHeartbeats 1000000 in
set_option maxRecDepth 20000 in
theorem validClosure_spec {N k a b : Int} {vg : Value} {w : World} (hN : 1 ≤ N ∧ N ≤ 5) {p : Nat} (hc : Sl w (.slice (some ⟨p, 0, none⟩) 1 1) 2 1 [.int .i64 N, vg]) : Calls Try.prog 40 #[.agg #[.int .i64 k, .int .i64 a, .int .i64 b], .pointer (some ⟨p, 0, none⟩)] w (Post No w fun v _ => v = .bool (!gateOk N k a b)) := by
 refine enter (n := 9) (args := [.agg #[.int .i64 k, .int .i64 a, .int .i64 b], .pointer (some ⟨p, 0, none⟩)]) Try.func40 rfl rfl (St.empty _ _) ?_
 refine .sr ?_
 refine .step rfl (.box (us := [.int .i64 k, .int .i64 a, .int .i64 b]) rfl fun b1 => ?_)
 refine .m ?_
 refine .dsr ?_
 refine .fa Tfo_34_0 ?_
 refine .u (.int .i64 N) (.load1 Tone_3 rfl (Cells.env (k := 0) hc rfl (by decide) ⟨rfl, trivial⟩)) ?_
 refine .u (.agg #[.int .i64 k, .int .i64 a, .int .i64 b]) (.loadN (cs := [.int .i64 k, .int .i64 a, .int .i64 b]) Tagg_54 rfl (Cells.blk (.head _) ⟨rfl, rfl, rfl, trivial⟩)) ?_
 refine .c (.bool (gateOk N k a b)) [.int .i64 N, .agg #[.int .i64 k, .int .i64 a, .int .i64 b]] Tcall_41 (fun w hs => IsValidGate_spec hN w) ?_
 refine .w (.bool (!(gateOk N k a b))) ?_
 refine .m ?_
 refine .done ?_
 refine .ret ?_
 refine ⟨.bool (!(gateOk N k a b)), [], Out.one rfl rfl, (Some'.weak (.nil _)), ?_⟩
 rfl

set_option maxHeartbeats 1000000 in
set_option maxRecDepth 20000 in
theorem IndexFuncValid_spec {N : Int} {va vg : Value} {n : Nat} {xs : List Int} {w : World} (hN : 1 ≤ N ∧ N ≤ 5) (ha : Sl w va 3 n (ints xs)) {p : Nat} (hc : Sl w (.slice (some ⟨p, 0, none⟩) 1 1) 2 1 [.int .i64 N, vg]) : Calls Try.prog 56 #[va, .func (.func 40) #[] #[.pointer (some ⟨p, 0, none⟩)]] w (Post No w fun v _ => v = .int .i64 (findI (fun i => !gateAt N xs i) n)) := by
 have hxl := ha.len
 have hn := ha.le
 obtain ⟨A, c, rfl, _, _⟩ := ha.form0
 refine enter (n := 19) (args := [.slice A n c, .func (.func 40) #[] #[.pointer (some ⟨p, 0, none⟩)]]) Try.func56 rfl rfl (St.empty _ _) ?_
 refine .sr ?_
 refine .m ?_
 refine .done ?_
 refine .seq ?_
 refine .sr ?_
 refine .m ?_
 refine .u (.int .i64 (((n : Nat) : Int))) (.len Tsl_32 rfl) ?_
 refine .m ?_
 refine .done ?_
 refine .block ?_
 refine Run.loop (ι := Nat) [4, 5, 8, 9, 10, 11, 12, 13, 14, 15, 16, 17, 18] (fun k => [(8, .int .i64 (((k : Nat) : Int)))]) (fun k => []) (fun k => k ≤ n ∧ (∀ i, i < k → (!gateAt N xs i) = false)) (fun k => n - k) 0 ?_ ?_ ?_ ?_
 ·exact ⟨Nat.zero_le _, by first | trivial | (intro i hi; omega)⟩
 ·exact ⟨rfl, trivial⟩
 ·exact (Some'.weak (.nil _))
 rintro k fr hinv
 show Run _ _ (over _ _ [(8, .int .i64 (((k : Nat) : Int)))] fr) []
 try dsimp only at hinv
 refine .sr ?_
 refine .w (.bool (decide ((((k : Nat) : Int)) < (((n : Nat) : Int))))) ?_
 refine .done ?_
 refine .seq ?_
 refine .cond (b := decide ((((k : Nat) : Int)) < (((n : Nat) : Int)))) rfl (fun h9 => ?_) (fun h9 => ?_)
 ·have p9 := h9; try simp only [bs] at p9
  have hltk : k < n := by omega
  obtain ⟨b, o, rfl⟩ := ha.opn (by omega)
  refine .skip ?_
  refine .seq ?_
  refine .block ?_
  refine .sr ?_
  iterate 2 refine .m ?_
  refine .dsr ?_
  refine .w (.func (.func 40) #[] #[.pointer (some ⟨p, 0, none⟩)]) ?_
  iterate 2 refine .m ?_
  refine .u (.pointer (some ⟨b, o + k * 3, none⟩)) (.ix k Tsl_32) ?_
  refine .u (.agg #[.int .i64 (ix xs (k * 3)), .int .i64 (ix xs (k * 3 + 1)), .int .i64 (ix xs (k * 3 + 2))]) (.loadN (cs := [.int .i64 (ix xs (k * 3)), .int .i64 (ix xs (k * 3 + 1)), .int .i64 (ix xs (k * 3 + 2))]) Tagg_54 rfl (Cells.arg (k := k * 3) ha rfl (by omega) (pre3 (by omega)))) ?_
  refine Run.q (v := .bool (!gateOk N (ix xs (k * 3)) (ix xs (k * 3 + 1)) (ix xs (k * 3 + 2)))) rfl (OpQ.call (vs := [.agg #[.int .i64 (ix xs (k * 3)), .int .i64 (ix xs (k * 3 + 1)), .int .i64 (ix xs (k * 3 + 2))], .pointer (some ⟨p, 0, none⟩)]) (caps := [.pointer (some ⟨p, 0, none⟩)]) Tcall_40 rfl rfl (fun w hs => validClosure_spec hN (hs.sl hc))) ?_
  refine .done ?_
  refine .cond (b := !gateOk N (ix xs (k * 3)) (ix xs (k * 3 + 1)) (ix xs (k * 3 + 2))) rfl (fun h16 => ?_) (fun h16 => ?_)
  ·have p16 := h16; try simp only [bs] at p16
   refine .seq ?_
   have hres : findI (fun i => !gateAt N xs i) n = k := findI_hit hinv.2 h16 hltk
   refine .region ?_
   iterate 2 refine .m ?_
   refine .done ?_
   refine .ret ?_
   refine ⟨.int .i64 (((k : Nat) : Int)), [], Out.one rfl rfl, (Some'.weak (.nil _)), ?_⟩
   show _ = _; rw [hres]
  have p16 := h16; try simp only [bs] at p16
  refine .skip ?_
  refine .blockEnd ?_
  have hgood : (!gateAt N xs k) = false := h16
  refine .region ?_
  refine .u (.int .i64 ((((k : Nat) : Int)) + 1)) (.add rfl rfl rfl (by omega) (by omega)) ?_
  refine .m ?_
  refine .done ?_
  refine .goal ⟨(by repeat (first | exact Same.refl _ _ | refine Same.put rfl ?_ | refine Same.over rfl rfl ?_)), k + 1, ?_, ?_, ?_, ?_⟩
  ·refine ⟨by omega, ?_⟩
   intro i hi
   rcases Nat.lt_succ_iff_lt_or_eq.1 hi with h | h
   ·exact hinv.2 i h
   ·rw [h]; exact hgood
  ·omega
  ·exact ⟨(by first | rfl | (congr 1; omega) | simp), trivial⟩
  ·exact (Some'.weak (.nil _))
 have p9 := h9; try simp only [bs] at p9
 have hknk : k = n := by omega
 have hres : findI (fun i => !gateAt N xs i) n = -1 := by rw [← hknk]; exact findI_none hinv.2
 refine .exit rfl ?_
 refine .sr ?_
 refine .m ?_
 refine .done ?_
 refine .ret ?_
 refine ⟨.int .i64 (-1), [], Out.one rfl rfl, (Some'.weak (.nil _)), ?_⟩
 show _ = _; rw [hres]

set_option maxHeartbeats 1000000 in
set_option maxRecDepth 20000 in
theorem ContainsFuncValid_spec {N : Int} {va vg : Value} {n : Nat} {xs : List Int} {w : World} (hN : 1 ≤ N ∧ N ≤ 5) (ha : Sl w va 3 n (ints xs)) {p : Nat} (hc : Sl w (.slice (some ⟨p, 0, none⟩) 1 1) 2 1 [.int .i64 N, vg]) : Calls Try.prog 39 #[va, .func (.func 40) #[] #[.pointer (some ⟨p, 0, none⟩)]] w (Post No w fun v _ => v = .bool (!allI (gateAt N xs) n)) := by
 refine enter (n := 9) (args := [va, .func (.func 40) #[] #[.pointer (some ⟨p, 0, none⟩)]]) Try.func39 rfl rfl (St.empty _ _) ?_
 refine .sr ?_
 refine .m ?_
 refine .dsr ?_
 refine .w va ?_
 refine .w (.func (.func 40) #[] #[.pointer (some ⟨p, 0, none⟩)]) ?_
 refine .c (.int .i64 (findI (fun i => !gateAt N xs i) n)) [va, .func (.func 40) #[] #[.pointer (some ⟨p, 0, none⟩)]] Tcall_56 (fun w hs => IndexFuncValid_spec hN (hs.sl ha) (hs.sl hc)) ?_
 refine .w (.bool (decide ((findI (fun i => !gateAt N xs i) n) ≥ 0))) ?_
 refine .m ?_
 refine .done ?_
 refine .ret ?_
 refine ⟨.bool (decide ((findI (fun i => !gateAt N xs i) n) ≥ 0)), [], Out.one rfl rfl, (Some'.weak (.nil _)), ?_⟩
 show _ = _; rw [findI_ge, allI, Bool.not_not]

set_option maxHeartbeats 1000000 in
set_option maxRecDepth 20000 in
theorem IsValidCircuit_spec {N : Int} {va : Value} {n : Nat} {xs : List Int} {w : World} (ha : Sl w va 3 n (ints xs)) : Calls Try.prog 18 #[.agg #[.int .i64 N, va]] w (Post No w fun v _ => v = .bool (circOk N xs n)) := by
 have hxl := ha.len
 have hn := ha.le
 obtain ⟨A, c, rfl, _, _⟩ := ha.form0
 refine enter (n := 19) (args := [.agg #[.int .i64 N, .slice A n c]]) Try.func18 rfl rfl (St.empty _ _) ?_
 refine .sr ?_
 refine .step rfl (.box (us := [.int .i64 N, .slice A n c]) rfl fun b1 => ?_)
 refine .m ?_
 refine .dsr ?_
 refine .fa Tfo_34_0 ?_
 refine .u (.int .i64 N) (.load1 Tone_3 rfl (.b (.head _))) ?_
 refine .c (.bool (within N 1 5)) [.int .i64 N, .int .i64 1, .int .i64 5] Tcall_38 (fun w hs => within_spec _ _ _ w) ?_
 rcases Bool.eq_false_or_eq_true (within N 1 5) with h6 | h6
 ·refine .mb h6 ?_
  have p6 := h6; try simp only [bs] at p6
  refine .fa Tfo_34_1 ?_
  refine .u (.slice A n c) (.load1 Tone_32 rfl (.b (.head _))) ?_
  refine .u (.int .i64 (((n : Nat) : Int))) (.len Tsl_32 rfl) ?_
  refine .w (.bool (decide ((((n : Nat) : Int)) ≤ 400))) ?_
  refine .w (.bool (decide ((((n : Nat) : Int)) ≤ 400))) ?_
  rcases Bool.eq_false_or_eq_true (decide ((((n : Nat) : Int)) ≤ 400)) with h12 | h12
  ·refine .mb h12 ?_
   have p12 := h12; try simp only [bs] at p12
   refine .fa Tfo_34_1 ?_
   refine .u (.slice A n c) (.load1 Tone_32 rfl (.b (.head _))) ?_
   refine .u (.func (.func 40) #[] #[.pointer (some ⟨b1, 0, none⟩)]) (.makeFunc (caps := [.pointer (some ⟨b1, 0, none⟩)]) rfl) ?_
   refine .c (.bool (!allI (gateAt N xs) n)) [.slice A n c, .func (.func 40) #[] #[.pointer (some ⟨b1, 0, none⟩)]] Tcall_39 (fun w hs => ContainsFuncValid_spec (within_iff.1 p6) (hs.sl ha) (hs.slBlk (.head _))) ?_
   refine .w (.bool (!(!allI (gateAt N xs) n))) ?_
   refine .w (.bool (!(!allI (gateAt N xs) n))) ?_
   refine .m ?_
   refine .done ?_
   refine .ret ?_
   refine ⟨.bool (!(!allI (gateAt N xs) n)), [], Out.one rfl rfl, (Some'.weak (.nil _)), ?_⟩
   show _ = _; simp only [circOk] at *; simp_all; try omega
  refine .mb h12 ?_
  have p12 := h12; try simp only [bs] at p12
  iterate 5 refine .pass rfl ?_
  refine .w (.bool false) ?_
  refine .m ?_
  refine .done ?_
  refine .ret ?_
  refine ⟨.bool false, [], Out.one rfl rfl, (Some'.weak (.nil _)), ?_⟩
  show _ = _; simp only [circOk] at *; simp_all; try omega
 refine .mb h6 ?_
 have p6 := h6; try simp only [bs] at p6
 iterate 4 refine .pass rfl ?_
 refine .w (.bool false) ?_
 refine .m ?_
 iterate 5 refine .pass rfl ?_
 refine .w (.bool false) ?_
 refine .m ?_
 refine .done ?_
 refine .ret ?_
 refine ⟨.bool false, [], Out.one rfl rfl, (Some'.weak (.nil _)), ?_⟩
 show _ = _; simp only [circOk] at *; simp_all; try omega

set_option maxHeartbeats 1000000 in
set_option maxRecDepth 20000 in
theorem l4Good_spec {N : Int} {va : Value} {n : Nat} {xs : List Int} {w : World} (ha : Sl w va 3 n (ints xs)) : Calls Try.prog 14 #[.agg #[.int .i64 N, va]] w (Post No w fun v _ => v = .bool (circOk N xs n)) := by
 have hxl := ha.len
 have hn := ha.le
 obtain ⟨A, c, rfl, _, _⟩ := ha.form0
 refine enter (n := 28) (args := [.agg #[.int .i64 N, .slice A n c]]) Try.func14 rfl rfl (St.empty _ _) ?_
 refine .sr ?_
 refine .step rfl (.box (us := [.int .i64 N, .slice A n c]) rfl fun b1 => ?_)
 refine .m ?_
 refine .done ?_
 refine .seq ?_
 refine .sr ?_
 refine .fa Tfo_34_0 ?_
 refine .u (.int .i64 N) (.load1 Tone_3 rfl (.b (.head _))) ?_
 refine .c (.bool (within N 1 5)) [.int .i64 N, .int .i64 1, .int .i64 5] Tcall_30 (fun w hs => l1In_spec _ _ _ w) ?_
 refine .w (.bool (!(within N 1 5))) ?_
 rcases Bool.eq_false_or_eq_true (!(within N 1 5)) with h9 | h9
 ·refine .mb h9 ?_
  have p9 := h9; try simp only [bs] at p9
  iterate 4 refine .pass rfl ?_
  refine .w (.bool true) ?_
  refine .done ?_
  refine .cond (b := true) rfl (fun _ => ?_) (fun h => nomatch h)
  refine .sr ?_
  refine .m ?_
  refine .done ?_
  refine .ret ?_
  refine ⟨.bool false, [], Out.one rfl rfl, (Some'.weak (.nil _)), ?_⟩
  show _ = _; simp only [circOk] at *; simp_all; try omega
 refine .mb h9 ?_
 have p9 := h9; try simp only [bs] at p9
 refine .fa Tfo_34_1 ?_
 refine .u (.slice A n c) (.load1 Tone_32 rfl (.b (.head _))) ?_
 refine .u (.int .i64 (((n : Nat) : Int))) (.len Tsl_32 rfl) ?_
 refine .w (.bool (decide ((((n : Nat) : Int)) > 400))) ?_
 refine .w (.bool (decide ((((n : Nat) : Int)) > 400))) ?_
 refine .done ?_
 refine .cond (b := decide ((((n : Nat) : Int)) > 400)) rfl (fun h14 => ?_) (fun h14 => ?_)
 ·have p14 := h14; try simp only [bs] at p14
  refine .sr ?_
  refine .m ?_
  refine .done ?_
  refine .ret ?_
  refine ⟨.bool false, [], Out.one rfl rfl, (Some'.weak (.nil _)), ?_⟩
  show _ = _; simp only [circOk] at *; simp_all; try omega
 have p14 := h14; try simp only [bs] at p14
 refine .skip ?_
 refine .seq ?_
 refine .seq ?_
 have hwi : within N 1 5 = true := by simpa using p9
 refine .region ?_
 refine .fa Tfo_34_1 ?_
 refine .u (.slice A n c) (.load1 Tone_32 rfl (.b (.head _))) ?_
 refine .u (.int .i64 (((n : Nat) : Int))) (.len Tsl_32 rfl) ?_
 refine .m ?_
 refine .done ?_
 refine .block ?_
 refine Run.loop (ι := Nat) [2, 4, 18, 19, 20, 21, 22, 23, 24, 25, 26, 27] (fun k => [(18, .int .i64 (((k : Nat) : Int)))]) (fun k => [.blk b1 34 [.int .i64 N, .slice A n c]]) (fun k => k ≤ n ∧ (∀ i, i < k → gateAt N xs i = true)) (fun k => n - k) 0 ?_ ?_ ?_ ?_
 ·exact ⟨Nat.zero_le _, by first | trivial | (intro i hi; omega)⟩
 ·exact ⟨rfl, trivial⟩
 ·exact (Some'.weak (.take (.nil _)))
 rintro k fr hinv
 show Run _ _ (over _ _ [(18, .int .i64 (((k : Nat) : Int)))] fr) [.blk b1 34 [.int .i64 N, .slice A n c]]
 try dsimp only at hinv
 refine .sr ?_
 refine .w (.bool (decide ((((k : Nat) : Int)) < (((n : Nat) : Int))))) ?_
 refine .done ?_
 refine .seq ?_
 refine .cond (b := decide ((((k : Nat) : Int)) < (((n : Nat) : Int)))) rfl (fun h19 => ?_) (fun h19 => ?_)
 ·have p19 := h19; try simp only [bs] at p19
  have hltk : k < n := by omega
  obtain ⟨b, o, rfl⟩ := ha.opn (by omega)
  refine .skip ?_
  refine .seq ?_
  refine .block ?_
  refine .sr ?_
  refine .u (.pointer (some ⟨b, o + k * 3, none⟩)) (.ix k Tsl_32) ?_
  refine .u (.agg #[.int .i64 (ix xs (k * 3)), .int .i64 (ix xs (k * 3 + 1)), .int .i64 (ix xs (k * 3 + 2))]) (.loadN (cs := [.int .i64 (ix xs (k * 3)), .int .i64 (ix xs (k * 3 + 1)), .int .i64 (ix xs (k * 3 + 2))]) Tagg_54 rfl (Cells.arg (k := k * 3) ha rfl (by omega) (pre3 (by omega)))) ?_
  refine .step rfl (.alloc (zs := [.int .i64 0, .int .i64 0, .int .i64 0]) Tzero_54 fun b2 => ?_)
  refine .step rfl (.storeAll (us := [.int .i64 (ix xs (k * 3)), .int .i64 (ix xs (k * 3 + 1)), .int .i64 (ix xs (k * 3 + 2))]) Tsize_54 rfl rfl rfl (.here _) rfl ?_)
  refine .dsr ?_
  refine .fa Tfo_34_0 ?_
  refine .u (.int .i64 N) (.load1 Tone_3 rfl (.b (.tail _ (.head _)))) ?_
  refine .u (.agg #[.int .i64 (ix xs (k * 3)), .int .i64 (ix xs (k * 3 + 1)), .int .i64 (ix xs (k * 3 + 2))]) (.loadN (cs := [.int .i64 (ix xs (k * 3)), .int .i64 (ix xs (k * 3 + 1)), .int .i64 (ix xs (k * 3 + 2))]) Tagg_54 rfl (Cells.blk (.head _) ⟨rfl, rfl, rfl, trivial⟩)) ?_
  refine .c (.bool (gateOk N (ix xs (k * 3)) (ix xs (k * 3 + 1)) (ix xs (k * 3 + 2)))) [.int .i64 N, .agg #[.int .i64 (ix xs (k * 3)), .int .i64 (ix xs (k * 3 + 1)), .int .i64 (ix xs (k * 3 + 2))]] Tcall_31 (fun w hs => l4Gate_spec (within_iff.1 hwi) w) ?_
  refine .w (.bool (!(gateOk N (ix xs (k * 3)) (ix xs (k * 3 + 1)) (ix xs (k * 3 + 2))))) ?_
  refine .done ?_
  refine .cond (b := !(gateOk N (ix xs (k * 3)) (ix xs (k * 3 + 1)) (ix xs (k * 3 + 2)))) rfl (fun h26 => ?_) (fun h26 => ?_)
  ·have p26 := h26; try simp only [bs] at p26
   refine .seq ?_
   have hres : allI (gateAt N xs) n = false := allI_false hltk (by simpa [gateAt] using p26)
   refine .region ?_
   refine .m ?_
   refine .done ?_
   refine .ret ?_
   refine ⟨.bool false, [], Out.one rfl rfl, (Some'.weak (.nil _)), ?_⟩
   show _ = _; simp only [circOk] at *; simp_all; try omega
  have p26 := h26; try simp only [bs] at p26
  refine .skip ?_
  refine .blockEnd ?_
  have hgood : gateAt N xs k = true := by simpa [gateAt] using p26
  refine .region ?_
  refine .u (.int .i64 ((((k : Nat) : Int)) + 1)) (.add rfl rfl rfl (by omega) (by omega)) ?_
  refine .m ?_
  refine .done ?_
  refine .goal ⟨(by repeat (first | exact Same.refl _ _ | refine Same.put rfl ?_ | refine Same.over rfl rfl ?_)), k + 1, ?_, ?_, ?_, ?_⟩
  ·refine ⟨by omega, ?_⟩
   intro i hi
   rcases Nat.lt_succ_iff_lt_or_eq.1 hi with h | h
   ·exact hinv.2 i h
   ·rw [h]; exact hgood
  ·omega
  ·exact ⟨(by first | rfl | (congr 1; omega) | simp), trivial⟩
  ·exact (Some'.weak (.skip (.takeEq (by first | rfl | simp) (.nil _))))
 have p19 := h19; try simp only [bs] at p19
 have hknk : k = n := by omega
 have hres : allI (gateAt N xs) n = true := by rw [← hknk]; exact allI_iff.2 hinv.2
 refine .exit rfl ?_
 refine .sr ?_
 refine .m ?_
 refine .done ?_
 refine .ret ?_
 refine ⟨.bool true, [], Out.one rfl rfl, (Some'.weak (.nil _)), ?_⟩
 show _ = _; simp only [circOk] at *; simp_all; try omega

set_option maxHeartbeats 1000000 in
set_option maxRecDepth 20000 in
theorem l1Most_spec (a b : Int) (w : World) : Calls Try.prog 72 #[.int .i64 a, .int .i64 b] w (Post No w fun v _ => v = .int .i64 (max a b)) := by
 refine enter (n := 10) (args := [.int .i64 a, .int .i64 b]) Try.func72 rfl rfl (St.empty _ _) ?_
 refine .sr ?_
 refine .m ?_
 refine .done ?_
 refine .seq ?_
 refine .sr ?_
 iterate 2 refine .m ?_
 refine .w (.bool (decide (a > b))) ?_
 refine .done ?_
 refine .cond (b := decide (a > b)) rfl (fun h7 => ?_) (fun h7 => ?_)
 ·have p7 := h7; try simp only [bs] at p7
  refine .sr ?_
  iterate 2 refine .m ?_
  refine .done ?_
  refine .ret ?_
  refine ⟨.int .i64 a, [], Out.one rfl rfl, (Some'.weak (.nil _)), ?_⟩
  show _ = _; congr 1; omega
 have p7 := h7; try simp only [bs] at p7
 refine .skip ?_
 refine .sr ?_
 iterate 2 refine .m ?_
 refine .done ?_
 refine .ret ?_
 refine ⟨.int .i64 b, [], Out.one rfl rfl, (Some'.weak (.nil _)), ?_⟩
 show _ = _; congr 1; omega

end Go.Proofs.Ytnnkoeknejeieaa
