/- Walks: shortest networks by the program; parts of the reference's search. -/
import Derived.Test.YteehfidjofcfmaaNwq
import Derived.Test.YteehfidjofcfmaaProg
set_option linter.unusedSimpArgs false
set_option linter.unusedVariables false
namespace Go.Proofs.Yteehfidjofcfmaa
open Go Go.RowKit
namespace NwtT
theorem Tagg_28 : aggOf Try.prog 28 = some 1 := by kernel_rfl
theorem Tagg_38 : aggOf Try.prog 38 = some 2 := by kernel_rfl
theorem Tcall_126 : callable Try.prog 126 = true := by kernel_rfl
theorem Tcall_25 : callable Try.prog 25 = true := by kernel_rfl
theorem Tcall_35 : callable Try.prog 35 = true := by kernel_rfl
theorem Tcall_52 : callable Try.prog 52 = true := by kernel_rfl
theorem Tcall_53 : callable Try.prog 53 = true := by kernel_rfl
theorem Tcall_57 : callable Try.prog 57 = true := by kernel_rfl
theorem Tcall_60 : callable Try.prog 60 = true := by kernel_rfl
theorem Tcall_83 : callable Try.prog 83 = true := by kernel_rfl
theorem Tfo_28_0 : fieldOff Try.prog 28 0 = some 0 := by kernel_rfl
theorem Tfo_38_1 : fieldOff Try.prog 38 1 = some 1 := by kernel_rfl
theorem Tfo_77_0 : fieldOff Try.prog 77 0 = some 0 := by kernel_rfl
theorem Tfo_77_1 : fieldOff Try.prog 77 1 = some 1 := by kernel_rfl
theorem Tint_96 : Try.prog.underlying 96 = some (.int .u64) := by kernel_rfl
theorem Tone_22 : oneOf Try.prog 22 = true := by kernel_rfl
theorem Tone_3 : oneOf Try.prog 3 = true := by kernel_rfl
theorem Tone_36 : oneOf Try.prog 36 = true := by kernel_rfl
theorem Tsize_38 : (Try.prog.info? 38).map (·.size) = some 2 := by kernel_rfl
theorem Tsl_22 : sliceOf Try.prog 22 = some (3, 1, 8, [.int .i64 0]) := by kernel_rfl
theorem Tsl_36 : sliceOf Try.prog 36 = some (71, 3, 24, [.int .i64 0, .int .i64 0, .int .i64 0]) := by kernel_rfl
theorem Tsome_3 : (Try.prog.underlying 3).isSome = true := by kernel_rfl
theorem Tzero_38 : zeroOf Try.prog 38 = some [.int .i64 0, .slice none 0 0] := by kernel_rfl
end NwtT
open NwtT
set_option maxHeartbeats 1000000 in
set_option maxRecDepth 20000 in
theorem ShortestNetwork_spec {va vm : Value} {n mn : Nat} {xs ms : List Int} {w : World} (ha : Sl w va 1 n (ints xs)) (hms : Sl w vm 1 mn (ints ms)) : Calls Try.prog 25 #[.agg #[va], vm] w (Post No w fun v H => ∃ u, v = .tuple #[.agg #[.int .i64 (nwN n xs ms), u], .bool (nwB n xs ms)] ∧ H = [.own u 71 3 (nwG n xs ms).length (ints (flCX (dcw n (nwG n xs ms))))]) := by
  have hxl := ha.len
  rw [Nat.mul_one] at hxl
  have hxl : xs.length = n := by simpa [ints] using hxl
  have hn := ha.le
  obtain ⟨Av, cv, rfl, hnc, _⟩ := ha.form0
  have hmn := hms.le
  obtain rfl : ms.length = mn := by have h := hms.len; simpa [ints] using h
  obtain ⟨Am, cm, rfl, hmc, _⟩ := hms.form0
  refine enter (n := 31) (args := [.agg #[.slice Av n cv], .slice Am (ms.length) cm]) Try.func25 rfl rfl (St.empty _ _) ?_
  refine Run.seq ?_
  refine Run.region ?_
  refine Run.step rfl (OpStep.box (us := [.slice Av n cv]) rfl fun b1 => ?_)
  refine Run.step rfl (OpStep.alloc (zs := [.int .i64 0, .slice none 0 0]) Tzero_38 fun b2 => ?_)
  refine Run.q (v := .bool false) rfl (OpQ.y (OpY.pure rfl)) ?_
  refine Run.done ?_
  refine Run.seq ?_
  refine Run.region ?_
  refine Run.q (v := .pointer (some ⟨b1, 0, none⟩)) rfl (OpQ.y (OpY.fieldAddr Tfo_28_0 rfl rfl)) ?_
  refine Run.q (v := .slice Av n cv) rfl (OpQ.y (OpY.load1 Tone_22 rfl (Cells.blk (.tail _ (List.Mem.head _)) ⟨rfl, trivial⟩))) ?_
  refine Run.q (v := .int .i64 (((n : Nat) : Int))) rfl (OpQ.y (OpY.len Tsl_22 rfl)) ?_
  refine Run.q (v := .int .i64 (((n : Nat) : Int))) rfl (OpQ.y (OpY.pure rfl)) ?_
  refine Run.done ?_
  refine Run.seq ?_
  refine Run.seq ?_
  refine Run.region ?_
  refine Run.q (v := .agg #[.slice Av n cv]) rfl (OpQ.y (OpY.loadN (cs := [.slice Av n cv]) Tagg_28 rfl (Cells.blk (.tail _ (List.Mem.head _)) ⟨rfl, trivial⟩))) ?_
  refine Run.q (v := .bool (linOk xs n)) rfl (OpQ.call (vs := [.agg #[.slice Av n cv]]) (caps := []) Tcall_35 rfl rfl (fun w hs => IsValidLinear_spec (hs.sl ha))) ?_
  refine Run.q (v := .bool (!(linOk xs n))) rfl (OpQ.y (OpY.pure rfl)) ?_
  rcases Bool.eq_false_or_eq_true (!(linOk xs n)) with h13 | h13
  · refine Run.q (v := .bool true) rfl (OpQ.y (OpY.moveB rfl h13)) ?_
    have p13 := h13; try simp only [decide_eq_true_eq, decide_eq_false_iff_not, beq_iff_eq, bne_iff_ne, beq_eq_false_iff_ne, ne_eq, gt_iff_lt, ge_iff_le, Int.not_lt, Int.not_le, bne_eq_false_iff_eq, Bool.not_eq_true', Bool.not_eq_false', Bool.and_eq_true, Bool.and_eq_false_iff, Bool.or_eq_true, Bool.or_eq_false_iff, Decidable.not_not, List.cons.injEq, and_true] at p13
    refine Run.pass rfl ?_
    refine Run.pass rfl ?_
    refine Run.q (v := .bool true) rfl (OpQ.y (OpY.pure rfl)) ?_
    refine Run.q (v := .bool true) rfl (OpQ.y (OpY.pure rfl)) ?_
    refine Run.pass rfl ?_
    refine Run.pass rfl ?_
    refine Run.pass rfl ?_
    refine Run.pass rfl ?_
    refine Run.q (v := .bool true) rfl (OpQ.y (OpY.pure rfl)) ?_
    refine Run.done ?_
    refine Run.cond (b := true) rfl (fun _ => ?_) (fun h => nomatch h)
    refine Run.seq ?_
    have hbad : nwB n xs ms = false := by
      cases hb : nwB n xs ms with
      | false => rfl
      | true =>
        exfalso
        obtain ⟨⟨h3, hlk⟩, hmk⟩ : (n ≤ 3 ∧ linOk xs n = true) ∧ mskOk n ms ms.length = true := by simpa [nwB] using hb
        first | (simp_all; done) | (simp_all; omega) | omega
    refine Run.region ?_
    refine Run.q (v := .agg #[.int .i64 0, .slice none 0 0]) rfl (OpQ.y (OpY.build (cs := [.int .i64 0, .slice none 0 0]) (by kernel_rfl))) ?_
    refine Run.step rfl (OpStep.storeAll (us := [.int .i64 0, .slice none 0 0]) Tsize_38 rfl rfl rfl (.here _) rfl ?_)
    refine Run.q (v := .bool false) rfl (OpQ.y (OpY.pure rfl)) ?_
    refine Run.done ?_
    refine Run.ret ?_
    refine ⟨.tuple #[.agg #[.int .i64 0, .slice none 0 0], .bool false], [.own (.slice none 0 0) 71 3 0 ([])], Out.cell2 (cs := [.int .i64 0, .slice none 0 0]) rfl Tagg_38 rfl (Cells.blk (.head _) ⟨rfl, rfl, trivial⟩) rfl, ((Weak.nilOwn 71 3).trans (Some'.weak (.take (.nil _)))), ?_⟩
    exact ⟨_, by rw [(nw_bad hbad).2, hbad], by rw [(nw_bad hbad).1]; rfl⟩
  · refine Run.q (v := .bool false) rfl (OpQ.y (OpY.moveB rfl h13)) ?_
    have p13 := h13; try simp only [decide_eq_true_eq, decide_eq_false_iff_not, beq_iff_eq, bne_iff_ne, beq_eq_false_iff_ne, ne_eq, gt_iff_lt, ge_iff_le, Int.not_lt, Int.not_le, bne_eq_false_iff_eq, Bool.not_eq_true', Bool.not_eq_false', Bool.and_eq_true, Bool.and_eq_false_iff, Bool.or_eq_true, Bool.or_eq_false_iff, Decidable.not_not, List.cons.injEq, and_true] at p13
    refine Run.q (v := .int .i64 (((n : Nat) : Int))) rfl (OpQ.y (OpY.pure rfl)) ?_
    refine Run.q (v := .bool (decide ((((n : Nat) : Int)) > 3))) rfl (OpQ.y (OpY.pure rfl)) ?_
    refine Run.q (v := .bool (decide ((((n : Nat) : Int)) > 3))) rfl (OpQ.y (OpY.pure rfl)) ?_
    rcases Bool.eq_false_or_eq_true (decide ((((n : Nat) : Int)) > 3)) with h17 | h17
    · refine Run.q (v := .bool true) rfl (OpQ.y (OpY.moveB rfl h17)) ?_
      have p17 := h17; try simp only [decide_eq_true_eq, decide_eq_false_iff_not, beq_iff_eq, bne_iff_ne, beq_eq_false_iff_ne, ne_eq, gt_iff_lt, ge_iff_le, Int.not_lt, Int.not_le, bne_eq_false_iff_eq, Bool.not_eq_true', Bool.not_eq_false', Bool.and_eq_true, Bool.and_eq_false_iff, Bool.or_eq_true, Bool.or_eq_false_iff, Decidable.not_not, List.cons.injEq, and_true] at p17
      refine Run.pass rfl ?_
      refine Run.pass rfl ?_
      refine Run.pass rfl ?_
      refine Run.pass rfl ?_
      refine Run.q (v := .bool true) rfl (OpQ.y (OpY.pure rfl)) ?_
      refine Run.done ?_
      refine Run.cond (b := true) rfl (fun _ => ?_) (fun h => nomatch h)
      refine Run.seq ?_
      have hbad : nwB n xs ms = false := by
        cases hb : nwB n xs ms with
        | false => rfl
        | true =>
          exfalso
          obtain ⟨⟨h3, hlk⟩, hmk⟩ : (n ≤ 3 ∧ linOk xs n = true) ∧ mskOk n ms ms.length = true := by simpa [nwB] using hb
          first | (simp_all; done) | (simp_all; omega) | omega
      refine Run.region ?_
      refine Run.q (v := .agg #[.int .i64 0, .slice none 0 0]) rfl (OpQ.y (OpY.build (cs := [.int .i64 0, .slice none 0 0]) (by kernel_rfl))) ?_
      refine Run.step rfl (OpStep.storeAll (us := [.int .i64 0, .slice none 0 0]) Tsize_38 rfl rfl rfl (.here _) rfl ?_)
      refine Run.q (v := .bool false) rfl (OpQ.y (OpY.pure rfl)) ?_
      refine Run.done ?_
      refine Run.ret ?_
      refine ⟨.tuple #[.agg #[.int .i64 0, .slice none 0 0], .bool false], [.own (.slice none 0 0) 71 3 0 ([])], Out.cell2 (cs := [.int .i64 0, .slice none 0 0]) rfl Tagg_38 rfl (Cells.blk (.head _) ⟨rfl, rfl, trivial⟩) rfl, ((Weak.nilOwn 71 3).trans (Some'.weak (.take (.nil _)))), ?_⟩
      exact ⟨_, by rw [(nw_bad hbad).2, hbad], by rw [(nw_bad hbad).1]; rfl⟩
    · refine Run.q (v := .bool false) rfl (OpQ.y (OpY.moveB rfl h17)) ?_
      have p17 := h17; try simp only [decide_eq_true_eq, decide_eq_false_iff_not, beq_iff_eq, bne_iff_ne, beq_eq_false_iff_ne, ne_eq, gt_iff_lt, ge_iff_le, Int.not_lt, Int.not_le, bne_eq_false_iff_eq, Bool.not_eq_true', Bool.not_eq_false', Bool.and_eq_true, Bool.and_eq_false_iff, Bool.or_eq_true, Bool.or_eq_false_iff, Decidable.not_not, List.cons.injEq, and_true] at p17
      refine Run.q (v := .int .i64 (((n : Nat) : Int))) rfl (OpQ.y (OpY.pure rfl)) ?_
      refine Run.q (v := .slice Am (ms.length) cm) rfl (OpQ.y (OpY.pure rfl)) ?_
      refine Run.q (v := .bool (mskOk n ms ms.length)) rfl (OpQ.call (vs := [.int .i64 (((n : Nat) : Int)), .slice Am (ms.length) cm]) (caps := []) Tcall_57 rfl rfl (fun w hs => areMasks_spec (hs.sl hms))) ?_
      refine Run.q (v := .bool (!(mskOk n ms ms.length))) rfl (OpQ.y (OpY.pure rfl)) ?_
      refine Run.q (v := .bool (!(mskOk n ms ms.length))) rfl (OpQ.y (OpY.pure rfl)) ?_
      refine Run.done ?_
      refine Run.cond (b := !(mskOk n ms ms.length)) rfl (fun h22 => ?_) (fun h22 => ?_)
      · have p22 := h22; try simp only [decide_eq_true_eq, decide_eq_false_iff_not, beq_iff_eq, bne_iff_ne, beq_eq_false_iff_ne, ne_eq, gt_iff_lt, ge_iff_le, Int.not_lt, Int.not_le, bne_eq_false_iff_eq, Bool.not_eq_true', Bool.not_eq_false', Bool.and_eq_true, Bool.and_eq_false_iff, Bool.or_eq_true, Bool.or_eq_false_iff, Decidable.not_not, List.cons.injEq, and_true] at p22
        refine Run.seq ?_
        have hbad : nwB n xs ms = false := by
          cases hb : nwB n xs ms with
          | false => rfl
          | true =>
            exfalso
            obtain ⟨⟨h3, hlk⟩, hmk⟩ : (n ≤ 3 ∧ linOk xs n = true) ∧ mskOk n ms ms.length = true := by simpa [nwB] using hb
            first | (simp_all; done) | (simp_all; omega) | omega
        refine Run.region ?_
        refine Run.q (v := .agg #[.int .i64 0, .slice none 0 0]) rfl (OpQ.y (OpY.build (cs := [.int .i64 0, .slice none 0 0]) (by kernel_rfl))) ?_
        refine Run.step rfl (OpStep.storeAll (us := [.int .i64 0, .slice none 0 0]) Tsize_38 rfl rfl rfl (.here _) rfl ?_)
        refine Run.q (v := .bool false) rfl (OpQ.y (OpY.pure rfl)) ?_
        refine Run.done ?_
        refine Run.ret ?_
        refine ⟨.tuple #[.agg #[.int .i64 0, .slice none 0 0], .bool false], [.own (.slice none 0 0) 71 3 0 ([])], Out.cell2 (cs := [.int .i64 0, .slice none 0 0]) rfl Tagg_38 rfl (Cells.blk (.head _) ⟨rfl, rfl, trivial⟩) rfl, ((Weak.nilOwn 71 3).trans (Some'.weak (.take (.nil _)))), ?_⟩
        exact ⟨_, by rw [(nw_bad hbad).2, hbad], by rw [(nw_bad hbad).1]; rfl⟩
      · have p22 := h22; try simp only [decide_eq_true_eq, decide_eq_false_iff_not, beq_iff_eq, bne_iff_ne, beq_eq_false_iff_ne, ne_eq, gt_iff_lt, ge_iff_le, Int.not_lt, Int.not_le, bne_eq_false_iff_eq, Bool.not_eq_true', Bool.not_eq_false', Bool.and_eq_true, Bool.and_eq_false_iff, Bool.or_eq_true, Bool.or_eq_false_iff, Decidable.not_not, List.cons.injEq, and_true] at p22
        refine Run.skip ?_
        refine Run.seq ?_
        have hgood : nwB n xs ms = true := by
          simp only [nwB, Bool.and_eq_true, decide_eq_true_eq]
          refine ⟨⟨?_, ?_⟩, ?_⟩ <;> first | omega | (simp_all; done) | (simp_all; omega)
        have hok := nw_ok hxl hgood
        obtain ⟨h3, h1n, hnl, hml, hmb, hmi, hmk, hm7, hfd, hone, hlen, hbw⟩ := hok
        obtain ⟨m, hm⟩ : ∃ m, m = nats xs := ⟨_, rfl⟩
        rw [← hm] at hnl hml hmb hmi hfd hone
        refine Run.region ?_
        refine Run.q (v := .int .i64 (((n : Nat) : Int))) rfl (OpQ.y (OpY.pure rfl)) ?_
        refine Run.q (v := .agg #[.slice Av n cv]) rfl (OpQ.y (OpY.loadN (cs := [.slice Av n cv]) Tagg_28 rfl (Cells.blk (.tail _ (List.Mem.head _)) ⟨rfl, trivial⟩))) ?_
        refine Run.q (v := .slice Am (ms.length) cm) rfl (OpQ.y (OpY.pure rfl)) ?_
        refine Run.step rfl (OpStep.call (vs := [.agg #[.slice Av n cv], .slice Am (ms.length) cm]) (caps := []) Tcall_53 rfl rfl (fun w hs => (by have h := shortest_spec (m := m) (ms := ms) (n := n) (va := .slice Av n cv) (vm := .slice Am ms.length cm) (w := w) (by omega) (by omega) hml hmb hm7 (fun i => mQ_small h3 hm7 i) hfd (by rw [hnl]; exact hs.sl ha) (hs.sl hms); exact h)) ?_)
        rintro uS _ ⟨p, i, hp, rfl⟩
        show Run _ _ (putF _ _ _ uS) [.own uS 71 3 (p.length) (ints (flCX (dcw n p))), .blk b2 38 [.int .i64 0, .slice none 0 0], .blk b1 28 [.slice Av n cv]]
        have hpe := hone i p hp
        have hpl : p.length ≤ 60 := by rw [hpe]; exact hlen
        have hpb : BW (lok n) (n * n) p := by rw [hpe]; exact hbw
        refine Run.step rfl (OpStep.call (vs := [.int .i64 (((n : Nat) : Int)), uS]) (caps := []) Tcall_52 rfl rfl (fun w hs => (by have h := circuitIf_spec (N := (n : Int)) (by omega) (by rw [← dcw_len n p]; exact circ_cx ⟨by omega, by omega⟩ (dec_ok hpb) (by rw [dcw_len]; omega)) (hs.slOwn (.head _)); exact h)) ?_)
        rintro _ _ ⟨uC, rfl, rfl⟩
        show Run _ _ (putF _ _ _ (.tuple #[.agg #[.int .i64 (((n : Nat) : Int)), uC], .bool true])) [.own uC 71 3 (p.length) (ints (flCX (dcw n p))), .own uS 71 3 (p.length) (ints (flCX (dcw n p))), .blk b2 38 [.int .i64 0, .slice none 0 0], .blk b1 28 [.slice Av n cv]]
        refine Run.q (v := .agg #[.int .i64 (((n : Nat) : Int)), uC]) rfl (OpQ.y (OpY.pure rfl)) ?_
        refine Run.q (v := .bool true) rfl (OpQ.y (OpY.pure rfl)) ?_
        refine Run.formOwn (.head _) (fun A_uC1 c_uC1 hv hcapc_uC1 hmaxc_uC1 => ?_) (fun _ _ _ => ⟨nofun, nofun, nofun⟩)
        subst hv
        refine Run.step rfl (OpStep.storeAll (us := [.int .i64 (((n : Nat) : Int)), .slice A_uC1 (p.length) c_uC1]) Tsize_38 rfl rfl rfl (.there _ (.there _ (.here _))) rfl ?_)
        refine Run.q (v := .bool true) rfl (OpQ.y (OpY.pure rfl)) ?_
        refine Run.done ?_
        refine Run.ret ?_
        refine ⟨.tuple #[.agg #[.int .i64 (((n : Nat) : Int)), .slice A_uC1 (p.length) c_uC1], .bool true], [.own (.slice A_uC1 (p.length) c_uC1) 71 3 ((nwG n xs ms).length) (ints (flCX (dcw n (nwG n xs ms))))], Out.cell2 (cs := [.int .i64 (((n : Nat) : Int)), .slice A_uC1 (p.length) c_uC1]) rfl Tagg_38 rfl (Cells.blk (.tail _ (.tail _ (List.Mem.head _))) ⟨rfl, rfl, trivial⟩) rfl, (Some'.weak (.takeEq (by first | rfl | rw [hpe]) (.nil _))), ?_⟩
        exact ⟨_, by rw [nw_good hgood, hgood], rfl⟩

set_option maxHeartbeats 1000000 in
set_option maxRecDepth 20000 in
theorem LeastNetwork_spec {va vm : Value} {n mn : Nat} {xs ms : List Int} {w : World} (ha : Sl w va 1 n (ints xs)) (hms : Sl w vm 1 mn (ints ms)) : Calls Try.prog 16 #[.agg #[va], vm] w (Post No w fun v _ => v = .tuple #[.int .i64 ((nwG n xs ms).length : Nat), .bool (nwB n xs ms)]) := by
  refine enter (n := 18) (args := [.agg #[va], vm]) Try.func16 rfl rfl (St.empty _ _) ?_
  refine Run.seq ?_
  refine Run.region ?_
  refine Run.step rfl (OpStep.box (us := [va]) rfl fun b1 => ?_)
  refine Run.q (v := .int .i64 0) rfl (OpQ.y (OpY.pure rfl)) ?_
  refine Run.q (v := .bool false) rfl (OpQ.y (OpY.pure rfl)) ?_
  refine Run.done ?_
  refine Run.seq ?_
  refine Run.region ?_
  refine Run.q (v := .agg #[va]) rfl (OpQ.y (OpY.loadN (cs := [va]) Tagg_28 rfl (Cells.blk (.head _) ⟨rfl, trivial⟩))) ?_
  refine Run.q (v := vm) rfl (OpQ.y (OpY.pure rfl)) ?_
  refine Run.step rfl (OpStep.call (vs := [.agg #[va], vm]) (caps := []) Tcall_25 rfl rfl (fun w hs => ShortestNetwork_spec (hs.sl ha) (hs.sl hms)) ?_)
  rintro _ _ ⟨u, rfl, rfl⟩
  show Run _ _ (putF _ _ _ (.tuple #[.agg #[.int .i64 (nwN n xs ms), u], .bool (nwB n xs ms)])) [.own u 71 3 ((nwG n xs ms).length) (ints (flCX (dcw n (nwG n xs ms)))), .blk b1 28 [va]]
  refine Run.q (v := .tuple #[.agg #[.int .i64 (nwN n xs ms), u], .bool (nwB n xs ms)]) rfl (OpQ.y (OpY.pure rfl)) ?_
  refine Run.q (v := .agg #[.int .i64 (nwN n xs ms), u]) rfl (OpQ.y (OpY.pure rfl)) ?_
  refine Run.q (v := .bool (nwB n xs ms)) rfl (OpQ.y (OpY.pure rfl)) ?_
  refine Run.step rfl (OpStep.alloc (zs := [.int .i64 0, .slice none 0 0]) Tzero_38 fun b2 => ?_)
  refine Run.formOwn (.tail _ (List.Mem.head _)) (fun A_u1 c_u1 hv hcapc_u1 hmaxc_u1 => ?_) (fun _ _ _ => ⟨nofun, nofun, nofun⟩)
  subst hv
  refine Run.step rfl (OpStep.storeAll (us := [.int .i64 (nwN n xs ms), .slice A_u1 ((nwG n xs ms).length) c_u1]) Tsize_38 rfl rfl rfl (.here _) rfl ?_)
  refine Run.q (v := .bool (nwB n xs ms)) rfl (OpQ.y (OpY.pure rfl)) ?_
  refine Run.done ?_
  refine Run.seq ?_
  refine Run.region ?_
  refine Run.q (v := .pointer (some ⟨b2, 1, none⟩)) rfl (OpQ.y (OpY.fieldAddr Tfo_38_1 rfl rfl)) ?_
  refine Run.q (v := .slice A_u1 ((nwG n xs ms).length) c_u1) rfl (OpQ.y (OpY.load1 Tone_36 rfl (Cells.blk (.head _) ⟨rfl, trivial⟩))) ?_
  refine Run.q (v := .int .i64 ((((nwG n xs ms).length : Nat) : Int))) rfl (OpQ.y (OpY.len Tsl_36 rfl)) ?_
  refine Run.q (v := .bool (nwB n xs ms)) rfl (OpQ.y (OpY.pure rfl)) ?_
  refine Run.q (v := .int .i64 ((((nwG n xs ms).length : Nat) : Int))) rfl (OpQ.y (OpY.pure rfl)) ?_
  refine Run.q (v := .bool (nwB n xs ms)) rfl (OpQ.y (OpY.pure rfl)) ?_
  refine Run.done ?_
  refine Run.ret ?_
  refine ⟨.tuple #[.int .i64 ((((nwG n xs ms).length : Nat) : Int)), .bool (nwB n xs ms)], [], Out.two rfl rfl rfl, (Some'.weak (.nil _)), ?_⟩
  rfl

set_option maxHeartbeats 1000000 in
set_option maxRecDepth 20000 in
theorem l14Small_spec {va vm : Value} {n mn : Nat} {xs ms : List Int} {w : World} (ha : Sl w va 1 n (ints xs)) (hms : Sl w vm 1 mn (ints ms)) : Calls Try.prog 49 #[.agg #[va], vm] w (Post No w fun v _ => v = .bool (nwB n xs ms)) := by
  have hxl := ha.len
  rw [Nat.mul_one] at hxl
  have hxl : xs.length = n := by simpa [ints] using hxl
  have hn := ha.le
  obtain ⟨Av, cv, rfl, hnc, _⟩ := ha.form0
  have hmn := hms.le
  obtain rfl : ms.length = mn := by have h := hms.len; simpa [ints] using h
  obtain ⟨Am, cm, rfl, hmc, _⟩ := hms.form0
  refine enter (n := 20) (args := [.agg #[.slice Av n cv], .slice Am (ms.length) cm]) Try.func49 rfl rfl (St.empty _ _) ?_
  refine Run.seq ?_
  refine Run.region ?_
  refine Run.step rfl (OpStep.box (us := [.slice Av n cv]) rfl fun b1 => ?_)
  refine Run.q (v := .bool false) rfl (OpQ.y (OpY.pure rfl)) ?_
  refine Run.done ?_
  refine Run.seq ?_
  refine Run.region ?_
  refine Run.q (v := .pointer (some ⟨b1, 0, none⟩)) rfl (OpQ.y (OpY.fieldAddr Tfo_28_0 rfl rfl)) ?_
  refine Run.q (v := .slice Av n cv) rfl (OpQ.y (OpY.load1 Tone_22 rfl (Cells.blk (.head _) ⟨rfl, trivial⟩))) ?_
  refine Run.q (v := .int .i64 (((n : Nat) : Int))) rfl (OpQ.y (OpY.len Tsl_22 rfl)) ?_
  refine Run.q (v := .bool (decide ((((n : Nat) : Int)) ≤ 3))) rfl (OpQ.y (OpY.pure rfl)) ?_
  rcases Bool.eq_false_or_eq_true (decide ((((n : Nat) : Int)) ≤ 3)) with h9 | h9
  · refine Run.q (v := .bool true) rfl (OpQ.y (OpY.moveB rfl h9)) ?_
    have p9 := h9; try simp only [decide_eq_true_eq, decide_eq_false_iff_not, beq_iff_eq, bne_iff_ne, beq_eq_false_iff_ne, ne_eq, gt_iff_lt, ge_iff_le, Int.not_lt, Int.not_le, bne_eq_false_iff_eq, Bool.not_eq_true', Bool.not_eq_false', Bool.and_eq_true, Bool.and_eq_false_iff, Bool.or_eq_true, Bool.or_eq_false_iff, Decidable.not_not, List.cons.injEq, and_true] at p9
    refine Run.q (v := .agg #[.slice Av n cv]) rfl (OpQ.y (OpY.loadN (cs := [.slice Av n cv]) Tagg_28 rfl (Cells.blk (.head _) ⟨rfl, trivial⟩))) ?_
    refine Run.q (v := .bool (linOk xs n)) rfl (OpQ.call (vs := [.agg #[.slice Av n cv]]) (caps := []) Tcall_60 rfl rfl (fun w hs => l12Valid_spec (hs.sl ha))) ?_
    refine Run.q (v := .bool (linOk xs n)) rfl (OpQ.y (OpY.pure rfl)) ?_
    rcases Bool.eq_false_or_eq_true (linOk xs n) with h13 | h13
    · refine Run.q (v := .bool true) rfl (OpQ.y (OpY.moveB rfl h13)) ?_
      have p13 := h13; try simp only [decide_eq_true_eq, decide_eq_false_iff_not, beq_iff_eq, bne_iff_ne, beq_eq_false_iff_ne, ne_eq, gt_iff_lt, ge_iff_le, Int.not_lt, Int.not_le, bne_eq_false_iff_eq, Bool.not_eq_true', Bool.not_eq_false', Bool.and_eq_true, Bool.and_eq_false_iff, Bool.or_eq_true, Bool.or_eq_false_iff, Decidable.not_not, List.cons.injEq, and_true] at p13
      refine Run.q (v := .pointer (some ⟨b1, 0, none⟩)) rfl (OpQ.y (OpY.fieldAddr Tfo_28_0 rfl rfl)) ?_
      refine Run.q (v := .slice Av n cv) rfl (OpQ.y (OpY.load1 Tone_22 rfl (Cells.blk (.head _) ⟨rfl, trivial⟩))) ?_
      refine Run.q (v := .int .i64 (((n : Nat) : Int))) rfl (OpQ.y (OpY.len Tsl_22 rfl)) ?_
      refine Run.q (v := .slice Am (ms.length) cm) rfl (OpQ.y (OpY.pure rfl)) ?_
      refine Run.q (v := .bool (mskOk n ms ms.length)) rfl (OpQ.call (vs := [.int .i64 (((n : Nat) : Int)), .slice Am (ms.length) cm]) (caps := []) Tcall_83 rfl rfl (fun w hs => l14Masks_spec (hs.sl hms))) ?_
      refine Run.q (v := .bool (mskOk n ms ms.length)) rfl (OpQ.y (OpY.pure rfl)) ?_
      refine Run.q (v := .bool (mskOk n ms ms.length)) rfl (OpQ.y (OpY.pure rfl)) ?_
      refine Run.done ?_
      refine Run.ret ?_
      refine ⟨.bool (mskOk n ms ms.length), [], Out.one rfl rfl, (Some'.weak (.nil _)), ?_⟩
      show _ = _; simp only [nwB]; simp_all <;> omega
    · refine Run.q (v := .bool false) rfl (OpQ.y (OpY.moveB rfl h13)) ?_
      have p13 := h13; try simp only [decide_eq_true_eq, decide_eq_false_iff_not, beq_iff_eq, bne_iff_ne, beq_eq_false_iff_ne, ne_eq, gt_iff_lt, ge_iff_le, Int.not_lt, Int.not_le, bne_eq_false_iff_eq, Bool.not_eq_true', Bool.not_eq_false', Bool.and_eq_true, Bool.and_eq_false_iff, Bool.or_eq_true, Bool.or_eq_false_iff, Decidable.not_not, List.cons.injEq, and_true] at p13
      refine Run.pass rfl ?_
      refine Run.pass rfl ?_
      refine Run.pass rfl ?_
      refine Run.pass rfl ?_
      refine Run.pass rfl ?_
      refine Run.q (v := .bool false) rfl (OpQ.y (OpY.pure rfl)) ?_
      refine Run.q (v := .bool false) rfl (OpQ.y (OpY.pure rfl)) ?_
      refine Run.done ?_
      refine Run.ret ?_
      refine ⟨.bool false, [], Out.one rfl rfl, (Some'.weak (.nil _)), ?_⟩
      show _ = _; simp only [nwB]; simp_all <;> omega
  · refine Run.q (v := .bool false) rfl (OpQ.y (OpY.moveB rfl h9)) ?_
    have p9 := h9; try simp only [decide_eq_true_eq, decide_eq_false_iff_not, beq_iff_eq, bne_iff_ne, beq_eq_false_iff_ne, ne_eq, gt_iff_lt, ge_iff_le, Int.not_lt, Int.not_le, bne_eq_false_iff_eq, Bool.not_eq_true', Bool.not_eq_false', Bool.and_eq_true, Bool.and_eq_false_iff, Bool.or_eq_true, Bool.or_eq_false_iff, Decidable.not_not, List.cons.injEq, and_true] at p9
    refine Run.pass rfl ?_
    refine Run.pass rfl ?_
    refine Run.q (v := .bool false) rfl (OpQ.y (OpY.pure rfl)) ?_
    refine Run.q (v := .bool false) rfl (OpQ.y (OpY.pure rfl)) ?_
    refine Run.pass rfl ?_
    refine Run.pass rfl ?_
    refine Run.pass rfl ?_
    refine Run.pass rfl ?_
    refine Run.pass rfl ?_
    refine Run.q (v := .bool false) rfl (OpQ.y (OpY.pure rfl)) ?_
    refine Run.q (v := .bool false) rfl (OpQ.y (OpY.pure rfl)) ?_
    refine Run.done ?_
    refine Run.ret ?_
    refine ⟨.bool false, [], Out.one rfl rfl, (Some'.weak (.nil _)), ?_⟩
    show _ = _; simp only [nwB]; simp_all <;> omega

set_option maxHeartbeats 1000000 in
set_option maxRecDepth 20000 in
theorem l14Seen_spec {va vm : Value} {f : Nat} {l : List Nat} {ms : List Int} {w : World} (h7 : ms.length ≤ 7) (hf : f < 2 ^ ms.length) (ha : Sl w va 1 l.length (ints (nl l))) (hms : Sl w vm 1 ms.length (ints ms)) : Calls Try.prog 90 #[.int .i64 (f : Int), .agg #[va], vm] w (Post No w fun v _ => v = .int .i64 ((seenK f l ms ms.length : Nat) : Int)) := by
  obtain ⟨Am, cm, rfl, hmc, _⟩ := hms.form0
  have hp7 : 2 ^ ms.length ≤ 128 := Nat.le_trans (Nat.pow_le_pow_right (by omega) h7) (by decide)
  refine enter (n := 27) (args := [.int .i64 (((f : Nat) : Int)), .agg #[va], .slice Am (ms.length) cm]) Try.func90 rfl rfl (St.empty _ _) ?_
  refine Run.seq ?_
  refine Run.region ?_
  refine Run.step rfl (OpStep.box (us := [va]) rfl fun b1 => ?_)
  refine Run.q (v := .int .i64 0) rfl (OpQ.y (OpY.pure rfl)) ?_
  refine Run.done ?_
  refine Run.seq ?_
  refine Run.seq ?_
  refine Run.region ?_
  refine Run.q (v := .slice Am (ms.length) cm) rfl (OpQ.y (OpY.pure rfl)) ?_
  refine Run.q (v := .int .i64 (((ms.length : Nat) : Int))) rfl (OpQ.y (OpY.len Tsl_22 rfl)) ?_
  refine Run.q (v := .int .i64 0) rfl (OpQ.y (OpY.pure rfl)) ?_
  refine Run.done ?_
  refine Run.block ?_
  refine Run.loop (ι := Nat) [0, 7, 8, 11, 12, 13, 14, 15, 16, 17, 18, 19, 20, 21, 22, 23, 24, 25] (fun k => [(0, .int .i64 (((seenK f l ms k : Nat) : Int))), (11, .int .i64 (((k : Nat) : Int)))]) (fun k => [.blk b1 28 [va]]) (fun k => k ≤ ms.length ∧ (True)) (fun k => ms.length - k) 0 ?_ ?_ ?_ ?_
  · exact ⟨Nat.zero_le _, by first | trivial | (intro i hi; omega)⟩
  · exact ⟨rfl, rfl, trivial⟩
  · exact (Some'.weak (.take (.nil _)))
  · rintro k fr hinv
    show Run _ _ (over _ _ [(0, .int .i64 (((seenK f l ms k : Nat) : Int))), (11, .int .i64 (((k : Nat) : Int)))] fr) [.blk b1 28 [va]]
    try dsimp only at hinv
    refine Run.seq ?_
    refine Run.region ?_
    refine Run.q (v := .bool (decide ((((k : Nat) : Int)) < (((ms.length : Nat) : Int))))) rfl (OpQ.y (OpY.pure rfl)) ?_
    refine Run.done ?_
    refine Run.seq ?_
    refine Run.cond (b := decide ((((k : Nat) : Int)) < (((ms.length : Nat) : Int)))) rfl (fun h12 => ?_) (fun h12 => ?_)
    · have p12 := h12; try simp only [decide_eq_true_eq, decide_eq_false_iff_not, beq_iff_eq, bne_iff_ne, beq_eq_false_iff_ne, ne_eq, gt_iff_lt, ge_iff_le, Int.not_lt, Int.not_le, bne_eq_false_iff_eq, Bool.not_eq_true', Bool.not_eq_false', Bool.and_eq_true, Bool.and_eq_false_iff, Bool.or_eq_true, Bool.or_eq_false_iff, Decidable.not_not, List.cons.injEq, and_true] at p12
      have hltk : k < ms.length := by omega
      obtain ⟨b, o, rfl⟩ := hms.opn (by omega)
      have hsl := seenK_lt (l := l) hf k (by omega)
      obtain ⟨q, hq⟩ : ∃ q : Nat, q = 2 ^ k := ⟨_, rfl⟩
      have hq7 : q ≤ 128 := by rw [hq]; exact Nat.le_trans (Nat.pow_le_pow_right (by omega) (show k ≤ 7 by omega)) (by decide)
      refine Run.skip ?_
      refine Run.seq ?_
      refine Run.block ?_
      refine Run.seq ?_
      refine Run.region ?_
      refine Run.q (v := .int .i64 (((k : Nat) : Int))) rfl (OpQ.y (OpY.pure rfl)) ?_
      refine Run.q (v := .pointer (some ⟨b, o + k, none⟩)) rfl (OpQ.y (OpY.index (kk := k) Tsl_22 rfl rfl (by omega) (by omega) (by first | rfl | omega))) ?_
      refine Run.q (v := .int .i64 (ix ms (k))) rfl (OpQ.y (OpY.load1 Tone_3 rfl (Cells.arg (k := k) hms rfl (by omega) (pre1 (by omega))))) ?_
      refine Run.q (v := .int .i64 (((k : Nat) : Int))) rfl (OpQ.y (OpY.pure rfl)) ?_
      refine Run.q (v := .int .i64 (ix ms (k))) rfl (OpQ.y (OpY.pure rfl)) ?_
      refine Run.done ?_
      refine Run.seq ?_
      refine Run.region ?_
      refine Run.q (v := .pointer (some ⟨b1, 0, none⟩)) rfl (OpQ.y (OpY.fieldAddr Tfo_28_0 rfl rfl)) ?_
      refine Run.q (v := va) rfl (OpQ.y (OpY.load1 Tone_22 rfl (Cells.blk (.head _) ⟨rfl, trivial⟩))) ?_
      refine Run.q (v := .int .i64 (ix ms (k))) rfl (OpQ.y (OpY.pure rfl)) ?_
      refine Run.q (v := .bool (hasI (nl l) (ix ms k) l.length)) rfl (OpQ.call (vs := [va, .int .i64 (ix ms (k))]) (caps := []) Tcall_126 rfl rfl (fun w hs => l1Has_spec (hs.sl ha))) ?_
      refine Run.done ?_
      refine Run.cond (b := hasI (nl l) (ix ms k) l.length) rfl (fun h19 => ?_) (fun h19 => ?_)
      · have p19 := h19; try simp only [decide_eq_true_eq, decide_eq_false_iff_not, beq_iff_eq, bne_iff_ne, beq_eq_false_iff_ne, ne_eq, gt_iff_lt, ge_iff_le, Int.not_lt, Int.not_le, bne_eq_false_iff_eq, Bool.not_eq_true', Bool.not_eq_false', Bool.and_eq_true, Bool.and_eq_false_iff, Bool.or_eq_true, Bool.or_eq_false_iff, Decidable.not_not, List.cons.injEq, and_true] at p19
        refine Run.region ?_
        refine Run.q (v := .int .i64 (((seenK f l ms k : Nat) : Int))) rfl (OpQ.y (OpY.pure rfl)) ?_
        refine Run.q (v := .int .i64 (((k : Nat) : Int))) rfl (OpQ.y (OpY.pure rfl)) ?_
        refine Run.q (v := .int .u64 (((k : Nat) : Int))) rfl (OpQ.y (OpY.convIntEq Tsome_3 Tint_96 rfl (by rw [IntKind.wrap_u64]; omega))) ?_
        refine Run.q (v := .int .i64 (((q : Nat) : Int))) rfl (OpQ.y (OpY.shlOne rfl rfl rfl (by omega) hq)) ?_
        refine Run.q (v := .int .i64 (((seenK f l ms k ||| q : Nat) : Int))) rfl (OpQ.y (OpY.orNat rfl rfl rfl rfl (by omega) (by omega))) ?_
        refine Run.q (v := .int .i64 (((seenK f l ms k ||| q : Nat) : Int))) rfl (OpQ.y (OpY.pure rfl)) ?_
        refine Run.done ?_
        refine Run.blockEnd ?_
        refine Run.region ?_
        refine Run.q (v := .int .i64 ((((k : Nat) : Int)) + 1)) rfl (OpQ.y (OpY.add rfl rfl rfl (by omega) (by omega))) ?_
        refine Run.q (v := .int .i64 ((((k : Nat) : Int)) + 1)) rfl (OpQ.y (OpY.pure rfl)) ?_
        refine Run.done ?_
        refine Run.goal ⟨(by repeat (first | exact Same.refl _ _ | refine Same.put rfl ?_ | refine Same.over rfl rfl ?_)), k + 1, ?_, ?_, ?_, ?_⟩
        · refine ⟨by omega, ?_⟩
          trivial
        · omega
        · exact ⟨(by show Value.int _ _ = Value.int _ _; simp_all [seenK]), (by first | rfl | (congr 1; omega) | simp), trivial⟩
        · exact (Some'.weak (.take (.nil _)))
      · have p19 := h19; try simp only [decide_eq_true_eq, decide_eq_false_iff_not, beq_iff_eq, bne_iff_ne, beq_eq_false_iff_ne, ne_eq, gt_iff_lt, ge_iff_le, Int.not_lt, Int.not_le, bne_eq_false_iff_eq, Bool.not_eq_true', Bool.not_eq_false', Bool.and_eq_true, Bool.and_eq_false_iff, Bool.or_eq_true, Bool.or_eq_false_iff, Decidable.not_not, List.cons.injEq, and_true] at p19
        refine Run.skip ?_
        refine Run.blockEnd ?_
        refine Run.region ?_
        refine Run.q (v := .int .i64 ((((k : Nat) : Int)) + 1)) rfl (OpQ.y (OpY.add rfl rfl rfl (by omega) (by omega))) ?_
        refine Run.q (v := .int .i64 ((((k : Nat) : Int)) + 1)) rfl (OpQ.y (OpY.pure rfl)) ?_
        refine Run.done ?_
        refine Run.goal ⟨(by repeat (first | exact Same.refl _ _ | refine Same.put rfl ?_ | refine Same.over rfl rfl ?_)), k + 1, ?_, ?_, ?_, ?_⟩
        · refine ⟨by omega, ?_⟩
          trivial
        · omega
        · exact ⟨(by show Value.int _ _ = Value.int _ _; simp_all [seenK]), (by first | rfl | (congr 1; omega) | simp), trivial⟩
        · exact (Some'.weak (.take (.nil _)))
    · have p12 := h12; try simp only [decide_eq_true_eq, decide_eq_false_iff_not, beq_iff_eq, bne_iff_ne, beq_eq_false_iff_ne, ne_eq, gt_iff_lt, ge_iff_le, Int.not_lt, Int.not_le, bne_eq_false_iff_eq, Bool.not_eq_true', Bool.not_eq_false', Bool.and_eq_true, Bool.and_eq_false_iff, Bool.or_eq_true, Bool.or_eq_false_iff, Decidable.not_not, List.cons.injEq, and_true] at p12
      have hknk : k = ms.length := by omega
      refine Run.exit rfl ?_
      refine Run.seq ?_
      refine Run.region ?_
      refine Run.q (v := .int .i64 (((seenK f l ms k : Nat) : Int))) rfl (OpQ.y (OpY.pure rfl)) ?_
      refine Run.q (v := .int .i64 (((seenK f l ms k : Nat) : Int))) rfl (OpQ.y (OpY.pure rfl)) ?_
      refine Run.done ?_
      refine Run.ret ?_
      refine ⟨.int .i64 (((seenK f l ms k : Nat) : Int)), [], Out.one rfl rfl, (Some'.weak (.nil _)), ?_⟩
      show _ = _; rw [hknk]

set_option maxHeartbeats 1000000 in
set_option maxRecDepth 20000 in
theorem l14Code_spec {va : Value} {f : Nat} {l : List Nat} {c2 c3 c4 c5 c6 : Int} {w : World} (h3 : l.length ≤ 3) (hf : f < 128) (hb : ∀ i, nx l i < 8) (ha : Sl w va 1 l.length (ints (nl l))) : Calls Try.prog 91 #[.agg #[va, .int .i64 (f : Int), .int .i64 c2, .int .i64 c3, .int .i64 c4, .int .i64 c5, .int .i64 c6]] w (Post No w fun v _ => v = .int .i64 ((cdS f l l.length : Nat) : Int)) := by
  have hll := nl_length l
  obtain ⟨A, c, rfl, _, _⟩ := ha.form0
  refine enter (n := 22) (args := [.agg #[.slice A (l.length) c, .int .i64 (((f : Nat) : Int)), .int .i64 c2, .int .i64 c3, .int .i64 c4, .int .i64 c5, .int .i64 c6]]) Try.func91 rfl rfl (St.empty _ _) ?_
  refine Run.seq ?_
  refine Run.region ?_
  refine Run.step rfl (OpStep.box (us := [.slice A (l.length) c, .int .i64 (((f : Nat) : Int)), .int .i64 c2, .int .i64 c3, .int .i64 c4, .int .i64 c5, .int .i64 c6]) rfl fun b1 => ?_)
  refine Run.q (v := .int .i64 0) rfl (OpQ.y (OpY.pure rfl)) ?_
  refine Run.done ?_
  refine Run.seq ?_
  refine Run.region ?_
  refine Run.q (v := .pointer (some ⟨b1, 1, none⟩)) rfl (OpQ.y (OpY.fieldAddr Tfo_77_1 rfl rfl)) ?_
  refine Run.q (v := .int .i64 (((f : Nat) : Int))) rfl (OpQ.y (OpY.load1 Tone_3 rfl (Cells.blk (.head _) ⟨rfl, trivial⟩))) ?_
  refine Run.q (v := .int .i64 (((f : Nat) : Int))) rfl (OpQ.y (OpY.pure rfl)) ?_
  refine Run.done ?_
  refine Run.seq ?_
  refine Run.seq ?_
  refine Run.region ?_
  refine Run.q (v := .pointer (some ⟨b1, 0, none⟩)) rfl (OpQ.y (OpY.fieldAddr Tfo_77_0 rfl rfl)) ?_
  refine Run.q (v := .pointer (some ⟨b1, 0, none⟩)) rfl (OpQ.y (OpY.fieldAddr Tfo_28_0 rfl rfl)) ?_
  refine Run.q (v := .slice A (l.length) c) rfl (OpQ.y (OpY.load1 Tone_22 rfl (Cells.blk (.head _) ⟨rfl, trivial⟩))) ?_
  refine Run.q (v := .int .i64 (((l.length : Nat) : Int))) rfl (OpQ.y (OpY.len Tsl_22 rfl)) ?_
  refine Run.q (v := .int .i64 0) rfl (OpQ.y (OpY.pure rfl)) ?_
  refine Run.done ?_
  refine Run.block ?_
  refine Run.loop (ι := Nat) [3, 5, 12, 13, 14, 15, 16, 17, 18, 19, 20] (fun k => [(3, .int .i64 (((cdS f l k : Nat) : Int))), (12, .int .i64 (((k : Nat) : Int)))]) (fun k => [.blk b1 77 [.slice A (l.length) c, .int .i64 (((f : Nat) : Int)), .int .i64 c2, .int .i64 c3, .int .i64 c4, .int .i64 c5, .int .i64 c6]]) (fun k => k ≤ l.length ∧ (True)) (fun k => l.length - k) 0 ?_ ?_ ?_ ?_
  · exact ⟨Nat.zero_le _, by first | trivial | (intro i hi; omega)⟩
  · exact ⟨rfl, rfl, trivial⟩
  · exact (Some'.weak (.take (.nil _)))
  · rintro k fr hinv
    show Run _ _ (over _ _ [(3, .int .i64 (((cdS f l k : Nat) : Int))), (12, .int .i64 (((k : Nat) : Int)))] fr) [.blk b1 77 [.slice A (l.length) c, .int .i64 (((f : Nat) : Int)), .int .i64 c2, .int .i64 c3, .int .i64 c4, .int .i64 c5, .int .i64 c6]]
    try dsimp only at hinv
    refine Run.seq ?_
    refine Run.region ?_
    refine Run.q (v := .bool (decide ((((k : Nat) : Int)) < (((l.length : Nat) : Int))))) rfl (OpQ.y (OpY.pure rfl)) ?_
    refine Run.done ?_
    refine Run.seq ?_
    refine Run.cond (b := decide ((((k : Nat) : Int)) < (((l.length : Nat) : Int)))) rfl (fun h13 => ?_) (fun h13 => ?_)
    · have p13 := h13; try simp only [decide_eq_true_eq, decide_eq_false_iff_not, beq_iff_eq, bne_iff_ne, beq_eq_false_iff_ne, ne_eq, gt_iff_lt, ge_iff_le, Int.not_lt, Int.not_le, bne_eq_false_iff_eq, Bool.not_eq_true', Bool.not_eq_false', Bool.and_eq_true, Bool.and_eq_false_iff, Bool.or_eq_true, Bool.or_eq_false_iff, Decidable.not_not, List.cons.injEq, and_true] at p13
      have hltk : k < l.length := by omega
      obtain ⟨b, o, rfl⟩ := ha.opn (by omega)
      have hcd := cdS_lt hb hf k
      have hk8 : 8 ^ k ≤ 512 := Nat.le_trans (Nat.pow_le_pow_right (by omega) (show k ≤ 3 by omega)) (by decide)
      have hxk := hb k
      refine Run.skip ?_
      refine Run.seq ?_
      refine Run.block ?_
      refine Run.seq ?_
      refine Run.region ?_
      refine Run.q (v := .pointer (some ⟨b, o + k, none⟩)) rfl (OpQ.y (OpY.index (kk := k) Tsl_22 rfl rfl (by omega) (by omega) (by first | rfl | omega))) ?_
      refine Run.q (v := .int .i64 (ix (nl l) (k))) rfl (OpQ.y (OpY.load1 Tone_3 rfl (Cells.arg (k := k) ha rfl (by omega) (pre1 (by omega))))) ?_
      refine Run.q (v := .int .i64 (ix (nl l) (k))) rfl (OpQ.y (OpY.pure rfl)) ?_
      refine Run.done ?_
      refine Run.region ?_
      refine Run.q (v := .int .i64 (((cdS f l k : Nat) : Int))) rfl (OpQ.y (OpY.pure rfl)) ?_
      refine Run.q (v := .int .i64 (((cdS f l k * 8 : Nat) : Int))) rfl (OpQ.y (OpY.shl (n := 3) rfl rfl rfl (by decide) (by push_cast; rfl) (by omega) (by omega))) ?_
      refine Run.q (v := .int .i64 (ix (nl l) (k))) rfl (OpQ.y (OpY.pure rfl)) ?_
      refine Run.q (v := .int .i64 (((cdS f l k * 8 ||| nx l k : Nat) : Int))) rfl (OpQ.y (OpY.orNat rfl rfl rfl (ix_nl _ _) (by omega) (by omega))) ?_
      refine Run.q (v := .int .i64 (((cdS f l k * 8 ||| nx l k : Nat) : Int))) rfl (OpQ.y (OpY.pure rfl)) ?_
      refine Run.done ?_
      refine Run.blockEnd ?_
      refine Run.region ?_
      refine Run.q (v := .int .i64 ((((k : Nat) : Int)) + 1)) rfl (OpQ.y (OpY.add rfl rfl rfl (by omega) (by omega))) ?_
      refine Run.q (v := .int .i64 ((((k : Nat) : Int)) + 1)) rfl (OpQ.y (OpY.pure rfl)) ?_
      refine Run.done ?_
      refine Run.goal ⟨(by repeat (first | exact Same.refl _ _ | refine Same.put rfl ?_ | refine Same.over rfl rfl ?_)), k + 1, ?_, ?_, ?_, ?_⟩
      · refine ⟨by omega, ?_⟩
        trivial
      · omega
      · exact ⟨rfl, (by first | rfl | (congr 1; omega) | simp), trivial⟩
      · exact (Some'.weak (.takeEq (by first | rfl | simp) (.nil _)))
    · have p13 := h13; try simp only [decide_eq_true_eq, decide_eq_false_iff_not, beq_iff_eq, bne_iff_ne, beq_eq_false_iff_ne, ne_eq, gt_iff_lt, ge_iff_le, Int.not_lt, Int.not_le, bne_eq_false_iff_eq, Bool.not_eq_true', Bool.not_eq_false', Bool.and_eq_true, Bool.and_eq_false_iff, Bool.or_eq_true, Bool.or_eq_false_iff, Decidable.not_not, List.cons.injEq, and_true] at p13
      have hknk : k = l.length := by omega
      refine Run.exit rfl ?_
      refine Run.seq ?_
      refine Run.region ?_
      refine Run.q (v := .int .i64 (((cdS f l k : Nat) : Int))) rfl (OpQ.y (OpY.pure rfl)) ?_
      refine Run.q (v := .int .i64 (((cdS f l k : Nat) : Int))) rfl (OpQ.y (OpY.pure rfl)) ?_
      refine Run.done ?_
      refine Run.ret ?_
      refine ⟨.int .i64 (((cdS f l k : Nat) : Int)), [], Out.one rfl rfl, (Some'.weak (.nil _)), ?_⟩
      show _ = _; rw [hknk]

end Go.Proofs.Yteehfidjofcfmaa
