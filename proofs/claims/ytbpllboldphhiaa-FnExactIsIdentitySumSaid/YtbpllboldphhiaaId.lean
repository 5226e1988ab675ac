/- Walks: IsIdentitySum of the program and of the reference. -/
import Derived.Test.YtbpllboldphhiaaPs
import Derived.Test.YtbpllboldphhiaaProg
set_option linter.unusedSimpArgs false
set_option linter.unusedVariables false
namespace Go.Proofs.Ytbpllboldphhiaa
open Go Go.RowKit
namespace IdT
theorem Tagg_149 : aggOf Try.prog 149 = some 2 := by kernel_rfl
theorem Tagg_75 : aggOf Try.prog 75 = some 6 := by kernel_rfl
theorem Tcall_104 : callable Try.prog 104 = true := by kernel_rfl
theorem Tcall_105 : callable Try.prog 105 = true := by kernel_rfl
theorem Tcall_108 : callable Try.prog 108 = true := by kernel_rfl
theorem Tfo_149_0 : fieldOff Try.prog 149 0 = some 0 := by kernel_rfl
theorem Tfo_149_1 : fieldOff Try.prog 149 1 = some 1 := by kernel_rfl
theorem Tfo_75_1 : fieldOff Try.prog 75 1 = some 1 := by kernel_rfl
theorem Tfo_75_2 : fieldOff Try.prog 75 2 = some 2 := by kernel_rfl
theorem Tfo_75_3 : fieldOff Try.prog 75 3 = some 3 := by kernel_rfl
theorem Tfo_75_4 : fieldOff Try.prog 75 4 = some 4 := by kernel_rfl
theorem Tfo_75_5 : fieldOff Try.prog 75 5 = some 5 := by kernel_rfl
theorem Tint_134 : Try.prog.underlying 134 = some (.int .u64) := by kernel_rfl
theorem Tns_149_2 : numStruct Try.prog 149 2 = true := by kernel_rfl
theorem Tone_3 : oneOf Try.prog 3 = true := by kernel_rfl
theorem Tone_72 : oneOf Try.prog 72 = true := by kernel_rfl
theorem Tone_73 : oneOf Try.prog 73 = true := by kernel_rfl
theorem Tsize_149 : (Try.prog.info? 149).map (·.size) = some 2 := by kernel_rfl
theorem Tsl_72 : sliceOf Try.prog 72 = some (190, 2, 16, [.int .i64 0, .int .i64 0]) := by kernel_rfl
theorem Tsl_73 : sliceOf Try.prog 73 = some (149, 2, 16, [.int .i64 0, .int .i64 0]) := by kernel_rfl
theorem Tsome_3 : (Try.prog.underlying 3).isSome = true := by kernel_rfl
theorem Tzero_149 : zeroOf Try.prog 149 = some [.int .i64 0, .int .i64 0] := by kernel_rfl
end IdT
open IdT

/-- Output i is qubit i. -/
def idAt (os : List Int) (i : Nat) : Bool := decide ([ix os (i * 2), ix os (i * 2 + 1)] = [2 ^ i, 0])
def idOk (V R : Int) (nt : Nat) (os : List Int) (no : Nat) : Bool := decide (V = 0) && decide (R = 0) && decide (nt = 0) && !anyI (fun i => !idAt os i) no
theorem idAt_iff {os : List Int} {i : Nat} : idAt os i = true ↔ ix os (i * 2) = 2 ^ i ∧ ix os (i * 2 + 1) = 0 := by simp [idAt]
theorem pow_small {i : Nat} (h : i < 5) : (1 : Int) * 2 ^ i = 2 ^ i ∧ (1 : Int) ≤ 2 ^ i ∧ (2 : Int) ^ i ≤ 16777216 := ⟨Int.one_mul _, pow_le24 (by omega)⟩

set_option maxHeartbeats 1000000 in
set_option maxRecDepth 20000 in
theorem l21Identity_spec {I V R F : Int} {vt vo : Value} {nt no : Nat} {ts os : List Int} {w : World} (hV : 0 ≤ V) (hno : no ≤ 5) (ht : Sl w vt 2 nt (ints ts)) (ho : Sl w vo 2 no (ints os)) : Calls Try.prog 105 #[.agg #[.int .i64 I, .int .i64 V, .int .i64 R, .int .i64 F, vt, vo]] w (Post No w fun v _ => v = .bool (idOk V R nt os no)) := by
  have htl := ht.len
  have hnt := ht.le
  obtain ⟨At, ct, rfl, _, _⟩ := ht.form0
  have hol := ho.len
  have hno := ho.le
  obtain ⟨Ao, co, rfl, _, _⟩ := ho.form0
  refine enter (n := 39) (args := [.agg #[.int .i64 I, .int .i64 V, .int .i64 R, .int .i64 F, .slice At nt ct, .slice Ao no co]]) Try.func105 rfl rfl (St.empty _ _) ?_
  refine Run.seq ?_
  refine Run.region ?_
  refine Run.step rfl (OpStep.box (us := [.int .i64 I, .int .i64 V, .int .i64 R, .int .i64 F, .slice At nt ct, .slice Ao no co]) rfl fun b1 => ?_)
  refine Run.q (v := .bool false) rfl (OpQ.y (OpY.pure rfl)) ?_
  refine Run.done ?_
  refine Run.seq ?_
  refine Run.seq ?_
  refine Run.region ?_
  refine Run.q (v := .pointer (some ⟨b1, 1, none⟩)) rfl (OpQ.y (OpY.fieldAddr Tfo_75_1 rfl rfl)) ?_
  refine Run.q (v := .int .i64 V) rfl (OpQ.y (OpY.load1 Tone_3 rfl (Cells.blk (.head _) ⟨rfl, trivial⟩))) ?_
  refine Run.q (v := .bool (decide (V > 0))) rfl (OpQ.y (OpY.pure rfl)) ?_
  rcases Bool.eq_false_or_eq_true (decide (V > 0)) with h8 | h8
  · refine Run.q (v := .bool true) rfl (OpQ.y (OpY.moveB rfl h8)) ?_
    have p8 := h8; try simp only [decide_eq_true_eq, decide_eq_false_iff_not, beq_iff_eq, bne_iff_ne, beq_eq_false_iff_ne, ne_eq, gt_iff_lt, ge_iff_le, Int.not_lt, Int.not_le, bne_eq_false_iff_eq, Bool.not_eq_true', Bool.not_eq_false', Bool.and_eq_true, Bool.and_eq_false_iff, Bool.or_eq_true, Bool.or_eq_false_iff, Decidable.not_not, List.cons.injEq, and_true] at p8
    refine Run.pass rfl ?_
    refine Run.pass rfl ?_
    refine Run.pass rfl ?_
    refine Run.q (v := .bool true) rfl (OpQ.y (OpY.pure rfl)) ?_
    refine Run.q (v := .bool true) rfl (OpQ.y (OpY.pure rfl)) ?_
    refine Run.pass rfl ?_
    refine Run.pass rfl ?_
    refine Run.pass rfl ?_
    refine Run.pass rfl ?_
    refine Run.q (v := .bool true) rfl (OpQ.y (OpY.pure rfl)) ?_
    refine Run.done ?_
    refine Run.cond (b := true) rfl (fun _ => ?_) (fun h => nomatch h)
    refine Run.seq ?_
    have hid : idOk V R nt os no = false := by
      unfold idOk
      first | (rw [decide_eq_false (show ¬ V = 0 by omega)]; simp; done) | (rw [decide_eq_false (show ¬ R = 0 by omega)]; simp; done) | (rw [decide_eq_false (show ¬ nt = 0 by omega)]; simp; done)
    refine Run.region ?_
    refine Run.q (v := .bool false) rfl (OpQ.y (OpY.pure rfl)) ?_
    refine Run.done ?_
    refine Run.ret ?_
    refine ⟨.bool false, [], Out.one rfl rfl, (Some'.weak (.nil _)), ?_⟩
    show _ = _; rw [hid]
  · refine Run.q (v := .bool false) rfl (OpQ.y (OpY.moveB rfl h8)) ?_
    have p8 := h8; try simp only [decide_eq_true_eq, decide_eq_false_iff_not, beq_iff_eq, bne_iff_ne, beq_eq_false_iff_ne, ne_eq, gt_iff_lt, ge_iff_le, Int.not_lt, Int.not_le, bne_eq_false_iff_eq, Bool.not_eq_true', Bool.not_eq_false', Bool.and_eq_true, Bool.and_eq_false_iff, Bool.or_eq_true, Bool.or_eq_false_iff, Decidable.not_not, List.cons.injEq, and_true] at p8
    refine Run.q (v := .pointer (some ⟨b1, 2, none⟩)) rfl (OpQ.y (OpY.fieldAddr Tfo_75_2 rfl rfl)) ?_
    refine Run.q (v := .int .i64 R) rfl (OpQ.y (OpY.load1 Tone_3 rfl (Cells.blk (.head _) ⟨rfl, trivial⟩))) ?_
    refine Run.q (v := .bool (R != 0)) rfl (OpQ.y (OpY.pure rfl)) ?_
    refine Run.q (v := .bool (R != 0)) rfl (OpQ.y (OpY.pure rfl)) ?_
    rcases Bool.eq_false_or_eq_true (R != 0) with h13 | h13
    · refine Run.q (v := .bool true) rfl (OpQ.y (OpY.moveB rfl h13)) ?_
      have p13 := h13; try simp only [decide_eq_true_eq, decide_eq_false_iff_not, beq_iff_eq, bne_iff_ne, beq_eq_false_iff_ne, ne_eq, gt_iff_lt, ge_iff_le, Int.not_lt, Int.not_le, bne_eq_false_iff_eq, Bool.not_eq_true', Bool.not_eq_false', Bool.and_eq_true, Bool.and_eq_false_iff, Bool.or_eq_true, Bool.or_eq_false_iff, Decidable.not_not, List.cons.injEq, and_true] at p13
      refine Run.pass rfl ?_
      refine Run.pass rfl ?_
      refine Run.pass rfl ?_
      refine Run.pass rfl ?_
      refine Run.q (v := .bool true) rfl (OpQ.y (OpY.pure rfl)) ?_
      refine Run.done ?_
      refine Run.cond (b := true) rfl (fun _ => ?_) (fun h => nomatch h)
      refine Run.seq ?_
      have hid : idOk V R nt os no = false := by
        unfold idOk
        first | (rw [decide_eq_false (show ¬ V = 0 by omega)]; simp; done) | (rw [decide_eq_false (show ¬ R = 0 by omega)]; simp; done) | (rw [decide_eq_false (show ¬ nt = 0 by omega)]; simp; done)
      refine Run.region ?_
      refine Run.q (v := .bool false) rfl (OpQ.y (OpY.pure rfl)) ?_
      refine Run.done ?_
      refine Run.ret ?_
      refine ⟨.bool false, [], Out.one rfl rfl, (Some'.weak (.nil _)), ?_⟩
      show _ = _; rw [hid]
    · refine Run.q (v := .bool false) rfl (OpQ.y (OpY.moveB rfl h13)) ?_
      have p13 := h13; try simp only [decide_eq_true_eq, decide_eq_false_iff_not, beq_iff_eq, bne_iff_ne, beq_eq_false_iff_ne, ne_eq, gt_iff_lt, ge_iff_le, Int.not_lt, Int.not_le, bne_eq_false_iff_eq, Bool.not_eq_true', Bool.not_eq_false', Bool.and_eq_true, Bool.and_eq_false_iff, Bool.or_eq_true, Bool.or_eq_false_iff, Decidable.not_not, List.cons.injEq, and_true] at p13
      refine Run.q (v := .pointer (some ⟨b1, 4, none⟩)) rfl (OpQ.y (OpY.fieldAddr Tfo_75_4 rfl rfl)) ?_
      refine Run.q (v := .slice At nt ct) rfl (OpQ.y (OpY.load1 Tone_72 rfl (Cells.blk (.head _) ⟨rfl, trivial⟩))) ?_
      refine Run.q (v := .int .i64 (((nt : Nat) : Int))) rfl (OpQ.y (OpY.len Tsl_72 rfl)) ?_
      refine Run.q (v := .bool (decide ((((nt : Nat) : Int)) > 0))) rfl (OpQ.y (OpY.pure rfl)) ?_
      refine Run.q (v := .bool (decide ((((nt : Nat) : Int)) > 0))) rfl (OpQ.y (OpY.pure rfl)) ?_
      refine Run.done ?_
      refine Run.cond (b := decide ((((nt : Nat) : Int)) > 0)) rfl (fun h18 => ?_) (fun h18 => ?_)
      · have p18 := h18; try simp only [decide_eq_true_eq, decide_eq_false_iff_not, beq_iff_eq, bne_iff_ne, beq_eq_false_iff_ne, ne_eq, gt_iff_lt, ge_iff_le, Int.not_lt, Int.not_le, bne_eq_false_iff_eq, Bool.not_eq_true', Bool.not_eq_false', Bool.and_eq_true, Bool.and_eq_false_iff, Bool.or_eq_true, Bool.or_eq_false_iff, Decidable.not_not, List.cons.injEq, and_true] at p18
        refine Run.seq ?_
        have hid : idOk V R nt os no = false := by
          unfold idOk
          first | (rw [decide_eq_false (show ¬ V = 0 by omega)]; simp; done) | (rw [decide_eq_false (show ¬ R = 0 by omega)]; simp; done) | (rw [decide_eq_false (show ¬ nt = 0 by omega)]; simp; done)
        refine Run.region ?_
        refine Run.q (v := .bool false) rfl (OpQ.y (OpY.pure rfl)) ?_
        refine Run.done ?_
        refine Run.ret ?_
        refine ⟨.bool false, [], Out.one rfl rfl, (Some'.weak (.nil _)), ?_⟩
        show _ = _; rw [hid]
      · have p18 := h18; try simp only [decide_eq_true_eq, decide_eq_false_iff_not, beq_iff_eq, bne_iff_ne, beq_eq_false_iff_ne, ne_eq, gt_iff_lt, ge_iff_le, Int.not_lt, Int.not_le, bne_eq_false_iff_eq, Bool.not_eq_true', Bool.not_eq_false', Bool.and_eq_true, Bool.and_eq_false_iff, Bool.or_eq_true, Bool.or_eq_false_iff, Decidable.not_not, List.cons.injEq, and_true] at p18
        refine Run.skip ?_
        refine Run.seq ?_
        refine Run.seq ?_
        have hV0 : V = 0 := by omega
        have hR0 : R = 0 := by omega
        have hT0 : nt = 0 := by omega
        refine Run.region ?_
        refine Run.q (v := .pointer (some ⟨b1, 5, none⟩)) rfl (OpQ.y (OpY.fieldAddr Tfo_75_5 rfl rfl)) ?_
        refine Run.q (v := .slice Ao no co) rfl (OpQ.y (OpY.load1 Tone_73 rfl (Cells.blk (.head _) ⟨rfl, trivial⟩))) ?_
        refine Run.q (v := .int .i64 (((no : Nat) : Int))) rfl (OpQ.y (OpY.len Tsl_73 rfl)) ?_
        refine Run.q (v := .int .i64 0) rfl (OpQ.y (OpY.pure rfl)) ?_
        refine Run.done ?_
        refine Run.block ?_
        refine Run.loop (ι := Nat) [2, 3, 4, 22, 23, 24, 25, 26, 27, 28, 29, 30, 31, 32, 33, 34, 35, 36, 37, 38] (fun k => [(22, .int .i64 (((k : Nat) : Int)))]) (fun k => [.blk b1 75 [.int .i64 I, .int .i64 V, .int .i64 R, .int .i64 F, .slice At nt ct, .slice Ao no co]]) (fun k => k ≤ no ∧ (∀ i, i < k → (!idAt os i) = false)) (fun k => no - k) 0 ?_ ?_ ?_ ?_
        · exact ⟨Nat.zero_le _, by first | trivial | (intro i hi; omega)⟩
        · exact ⟨rfl, trivial⟩
        · exact (Some'.weak (.take (.nil _)))
        · rintro k fr hinv
          show Run _ _ (over _ _ [(22, .int .i64 (((k : Nat) : Int)))] fr) [.blk b1 75 [.int .i64 I, .int .i64 V, .int .i64 R, .int .i64 F, .slice At nt ct, .slice Ao no co]]
          try dsimp only at hinv
          refine Run.seq ?_
          refine Run.region ?_
          refine Run.q (v := .bool (decide ((((k : Nat) : Int)) < (((no : Nat) : Int))))) rfl (OpQ.y (OpY.pure rfl)) ?_
          refine Run.done ?_
          refine Run.seq ?_
          refine Run.cond (b := decide ((((k : Nat) : Int)) < (((no : Nat) : Int)))) rfl (fun h23 => ?_) (fun h23 => ?_)
          · have p23 := h23; try simp only [decide_eq_true_eq, decide_eq_false_iff_not, beq_iff_eq, bne_iff_ne, beq_eq_false_iff_ne, ne_eq, gt_iff_lt, ge_iff_le, Int.not_lt, Int.not_le, bne_eq_false_iff_eq, Bool.not_eq_true', Bool.not_eq_false', Bool.and_eq_true, Bool.and_eq_false_iff, Bool.or_eq_true, Bool.or_eq_false_iff, Decidable.not_not, List.cons.injEq, and_true] at p23
            have hltk : k < no := by omega
            obtain ⟨b, o, rfl⟩ := ho.opn (by omega)
            have hpk := pow_small (i := k) (by omega)
            refine Run.skip ?_
            refine Run.seq ?_
            refine Run.block ?_
            refine Run.seq ?_
            refine Run.region ?_
            refine Run.q (v := .int .i64 (((k : Nat) : Int))) rfl (OpQ.y (OpY.pure rfl)) ?_
            refine Run.q (v := .pointer (some ⟨b, o + k * 2, none⟩)) rfl (OpQ.y (OpY.index (kk := k) Tsl_73 rfl rfl (by omega) (by omega) (by first | rfl | omega))) ?_
            refine Run.q (v := .agg #[.int .i64 (ix os (k * 2)), .int .i64 (ix os (k * 2 + 1))]) rfl (OpQ.y (OpY.loadN (cs := [.int .i64 (ix os (k * 2)), .int .i64 (ix os (k * 2 + 1))]) Tagg_149 rfl (Cells.arg (k := k * 2) ho rfl (by omega) (pre2 (by omega))))) ?_
            refine Run.step rfl (OpStep.alloc (zs := [.int .i64 0, .int .i64 0]) Tzero_149 fun b2 => ?_)
            refine Run.q (v := .int .i64 (((k : Nat) : Int))) rfl (OpQ.y (OpY.pure rfl)) ?_
            refine Run.step rfl (OpStep.storeAll (us := [.int .i64 (ix os (k * 2)), .int .i64 (ix os (k * 2 + 1))]) Tsize_149 rfl rfl rfl (.here _) rfl ?_)
            refine Run.done ?_
            refine Run.seq ?_
            refine Run.region ?_
            refine Run.q (v := .pointer (some ⟨b2, 0, none⟩)) rfl (OpQ.y (OpY.fieldAddr Tfo_149_0 rfl rfl)) ?_
            refine Run.q (v := .int .i64 (ix os (k * 2))) rfl (OpQ.y (OpY.load1 Tone_3 rfl (Cells.blk (.head _) ⟨rfl, trivial⟩))) ?_
            refine Run.q (v := .int .i64 (((k : Nat) : Int))) rfl (OpQ.y (OpY.pure rfl)) ?_
            refine Run.q (v := .int .u64 (((k : Nat) : Int))) rfl (OpQ.y (OpY.convIntEq Tsome_3 Tint_134 rfl (by rw [IntKind.wrap_u64]; omega))) ?_
            refine Run.q (v := .int .i64 (2 ^ k)) rfl (OpQ.y (OpY.shl (n := k) rfl rfl rfl (by omega) hpk.1 (by omega) (by omega))) ?_
            refine Run.q (v := .bool ((ix os (k * 2)) != (2 ^ k))) rfl (OpQ.y (OpY.pure rfl)) ?_
            rcases Bool.eq_false_or_eq_true ((ix os (k * 2)) != (2 ^ k)) with h33 | h33
            · refine Run.q (v := .bool true) rfl (OpQ.y (OpY.moveB rfl h33)) ?_
              have p33 := h33; try simp only [decide_eq_true_eq, decide_eq_false_iff_not, beq_iff_eq, bne_iff_ne, beq_eq_false_iff_ne, ne_eq, gt_iff_lt, ge_iff_le, Int.not_lt, Int.not_le, bne_eq_false_iff_eq, Bool.not_eq_true', Bool.not_eq_false', Bool.and_eq_true, Bool.and_eq_false_iff, Bool.or_eq_true, Bool.or_eq_false_iff, Decidable.not_not, List.cons.injEq, and_true] at p33
              refine Run.pass rfl ?_
              refine Run.pass rfl ?_
              refine Run.pass rfl ?_
              refine Run.q (v := .bool true) rfl (OpQ.y (OpY.pure rfl)) ?_
              refine Run.done ?_
              refine Run.cond (b := true) rfl (fun _ => ?_) (fun h => nomatch h)
              refine Run.seq ?_
              have hb1 : (!idAt os k) = true := by
                cases h : idAt os k with
                | false => rfl
                | true => have := idAt_iff.1 h; exfalso; omega
              have hid : idOk V R nt os no = false := by
                unfold idOk
                rw [anyI_true hltk hb1]; simp
              refine Run.region ?_
              refine Run.q (v := .bool false) rfl (OpQ.y (OpY.pure rfl)) ?_
              refine Run.done ?_
              refine Run.ret ?_
              refine ⟨.bool false, [], Out.one rfl rfl, (Some'.weak (.nil _)), ?_⟩
              show _ = _; rw [hid]
            · refine Run.q (v := .bool false) rfl (OpQ.y (OpY.moveB rfl h33)) ?_
              have p33 := h33; try simp only [decide_eq_true_eq, decide_eq_false_iff_not, beq_iff_eq, bne_iff_ne, beq_eq_false_iff_ne, ne_eq, gt_iff_lt, ge_iff_le, Int.not_lt, Int.not_le, bne_eq_false_iff_eq, Bool.not_eq_true', Bool.not_eq_false', Bool.and_eq_true, Bool.and_eq_false_iff, Bool.or_eq_true, Bool.or_eq_false_iff, Decidable.not_not, List.cons.injEq, and_true] at p33
              refine Run.q (v := .pointer (some ⟨b2, 1, none⟩)) rfl (OpQ.y (OpY.fieldAddr Tfo_149_1 rfl rfl)) ?_
              refine Run.q (v := .int .i64 (ix os (k * 2 + 1))) rfl (OpQ.y (OpY.load1 Tone_3 rfl (Cells.blk (.head _) ⟨rfl, trivial⟩))) ?_
              refine Run.q (v := .bool ((ix os (k * 2 + 1)) != 0)) rfl (OpQ.y (OpY.pure rfl)) ?_
              refine Run.q (v := .bool ((ix os (k * 2 + 1)) != 0)) rfl (OpQ.y (OpY.pure rfl)) ?_
              refine Run.done ?_
              refine Run.cond (b := (ix os (k * 2 + 1)) != 0) rfl (fun h37 => ?_) (fun h37 => ?_)
              · have p37 := h37; try simp only [decide_eq_true_eq, decide_eq_false_iff_not, beq_iff_eq, bne_iff_ne, beq_eq_false_iff_ne, ne_eq, gt_iff_lt, ge_iff_le, Int.not_lt, Int.not_le, bne_eq_false_iff_eq, Bool.not_eq_true', Bool.not_eq_false', Bool.and_eq_true, Bool.and_eq_false_iff, Bool.or_eq_true, Bool.or_eq_false_iff, Decidable.not_not, List.cons.injEq, and_true] at p37
                refine Run.seq ?_
                have hb1 : (!idAt os k) = true := by
                  cases h : idAt os k with
                  | false => rfl
                  | true => have := idAt_iff.1 h; exfalso; omega
                have hid : idOk V R nt os no = false := by
                  unfold idOk
                  rw [anyI_true hltk hb1]; simp
                refine Run.region ?_
                refine Run.q (v := .bool false) rfl (OpQ.y (OpY.pure rfl)) ?_
                refine Run.done ?_
                refine Run.ret ?_
                refine ⟨.bool false, [], Out.one rfl rfl, (Some'.weak (.nil _)), ?_⟩
                show _ = _; rw [hid]
              · have p37 := h37; try simp only [decide_eq_true_eq, decide_eq_false_iff_not, beq_iff_eq, bne_iff_ne, beq_eq_false_iff_ne, ne_eq, gt_iff_lt, ge_iff_le, Int.not_lt, Int.not_le, bne_eq_false_iff_eq, Bool.not_eq_true', Bool.not_eq_false', Bool.and_eq_true, Bool.and_eq_false_iff, Bool.or_eq_true, Bool.or_eq_false_iff, Decidable.not_not, List.cons.injEq, and_true] at p37
                refine Run.skip ?_
                refine Run.blockEnd ?_
                have hgood : (!idAt os k) = false := by rw [idAt_iff.2 ⟨by omega, by omega⟩]; rfl
                refine Run.region ?_
                refine Run.q (v := .int .i64 ((((k : Nat) : Int)) + 1)) rfl (OpQ.y (OpY.add rfl rfl rfl (by omega) (by omega))) ?_
                refine Run.q (v := .int .i64 ((((k : Nat) : Int)) + 1)) rfl (OpQ.y (OpY.pure rfl)) ?_
                refine Run.done ?_
                refine Run.goal ⟨(by repeat (first | exact Same.refl _ _ | refine Same.put rfl ?_ | refine Same.over rfl rfl ?_)), k + 1, ?_, ?_, ?_, ?_⟩
                · refine ⟨by omega, ?_⟩
                  intro i hi
                  rcases Nat.lt_succ_iff_lt_or_eq.1 hi with h | h
                  · exact hinv.2 i h
                  · rw [h]; exact hgood
                · omega
                · exact ⟨(by first | rfl | (congr 1; omega) | simp), trivial⟩
                · exact (Some'.weak (.skip (.takeEq (by first | rfl | simp) (.nil _))))
          · have p23 := h23; try simp only [decide_eq_true_eq, decide_eq_false_iff_not, beq_iff_eq, bne_iff_ne, beq_eq_false_iff_ne, ne_eq, gt_iff_lt, ge_iff_le, Int.not_lt, Int.not_le, bne_eq_false_iff_eq, Bool.not_eq_true', Bool.not_eq_false', Bool.and_eq_true, Bool.and_eq_false_iff, Bool.or_eq_true, Bool.or_eq_false_iff, Decidable.not_not, List.cons.injEq, and_true] at p23
            have hknk : k = no := by omega
            have hall : anyI (fun i => !idAt os i) no = false := by rw [← hknk]; exact anyI_false hinv.2
            have hid : idOk V R nt os no = true := by
              unfold idOk
              rw [decide_eq_true hV0, decide_eq_true hR0, decide_eq_true hT0, hall]; rfl
            refine Run.exit rfl ?_
            refine Run.seq ?_
            refine Run.region ?_
            refine Run.q (v := .bool true) rfl (OpQ.y (OpY.pure rfl)) ?_
            refine Run.done ?_
            refine Run.ret ?_
            refine ⟨.bool true, [], Out.one rfl rfl, (Some'.weak (.nil _)), ?_⟩
            show _ = _; rw [hid]


def idV (I V R F : Int) (ts : List Int) (nt : Nat) (os : List Int) (no : Nat) : Int := if psOk I V R F ts nt os no && idOk V R nt os no then F else 0
theorem psOk_head {I V R F : Int} {ts os : List Int} {nt no : Nat} (h : psOk I V R F ts nt os no = true) : 0 ≤ V ∧ no ≤ 5 := by
  simp only [psOk, Bool.and_eq_true] at h
  have := psHead_iff h.1.1
  omega

set_option maxHeartbeats 1000000 in
set_option maxRecDepth 20000 in
theorem sIsIdentitySum_spec {I V R F : Int} {vt vo : Value} {nt no : Nat} {ts os : List Int} {w : World} (ht : Sl w vt 2 nt (ints ts)) (ho : Sl w vo 2 no (ints os)) : Calls Try.prog 40 #[.agg #[.int .i64 I, .int .i64 V, .int .i64 R, .int .i64 F, vt, vo]] w (Post No w fun v _ => v = .tuple #[.int .i64 (idV I V R F ts nt os no), .bool (psOk I V R F ts nt os no && idOk V R nt os no), .bool (psOk I V R F ts nt os no)]) := by
  refine enter (n := 13) (args := [.agg #[.int .i64 I, .int .i64 V, .int .i64 R, .int .i64 F, vt, vo]]) Try.func40 rfl rfl (St.empty _ _) ?_
  refine Run.seq ?_
  refine Run.region ?_
  refine Run.step rfl (OpStep.box (us := [.int .i64 I, .int .i64 V, .int .i64 R, .int .i64 F, vt, vo]) rfl fun b1 => ?_)
  refine Run.q (v := .int .i64 0) rfl (OpQ.y (OpY.pure rfl)) ?_
  refine Run.q (v := .bool false) rfl (OpQ.y (OpY.pure rfl)) ?_
  refine Run.q (v := .bool false) rfl (OpQ.y (OpY.pure rfl)) ?_
  refine Run.done ?_
  refine Run.seq ?_
  refine Run.seq ?_
  refine Run.region ?_
  refine Run.q (v := .agg #[.int .i64 I, .int .i64 V, .int .i64 R, .int .i64 F, vt, vo]) rfl (OpQ.y (OpY.loadN (cs := [.int .i64 I, .int .i64 V, .int .i64 R, .int .i64 F, vt, vo]) Tagg_75 rfl (Cells.blk (.head _) ⟨rfl, rfl, rfl, rfl, rfl, rfl, trivial⟩))) ?_
  refine Run.q (v := .bool (psOk I V R F ts nt os no)) rfl (OpQ.call (vs := [.agg #[.int .i64 I, .int .i64 V, .int .i64 R, .int .i64 F, vt, vo]]) (caps := []) Tcall_104 rfl rfl (fun w hs => l21Valid_spec (hs.sl ht) (hs.sl ho))) ?_
  refine Run.q (v := .bool (!(psOk I V R F ts nt os no))) rfl (OpQ.y (OpY.pure rfl)) ?_
  refine Run.done ?_
  refine Run.cond (b := !(psOk I V R F ts nt os no)) rfl (fun h7 => ?_) (fun h7 => ?_)
  · have p7 := h7; try simp only [decide_eq_true_eq, decide_eq_false_iff_not, beq_iff_eq, bne_iff_ne, beq_eq_false_iff_ne, ne_eq, gt_iff_lt, ge_iff_le, Int.not_lt, Int.not_le, bne_eq_false_iff_eq, Bool.not_eq_true', Bool.not_eq_false', Bool.and_eq_true, Bool.and_eq_false_iff, Bool.or_eq_true, Bool.or_eq_false_iff, Decidable.not_not, List.cons.injEq, and_true] at p7
    have hok : psOk I V R F ts nt os no = false := by simpa using p7
    refine Run.seq ?_
    refine Run.region ?_
    refine Run.q (v := .int .i64 0) rfl (OpQ.y (OpY.pure rfl)) ?_
    refine Run.q (v := .bool false) rfl (OpQ.y (OpY.pure rfl)) ?_
    refine Run.q (v := .bool false) rfl (OpQ.y (OpY.pure rfl)) ?_
    refine Run.done ?_
    refine Run.ret ?_
    refine ⟨.tuple #[.int .i64 0, .bool false, .bool false], [], Out.three rfl rfl rfl rfl, (Some'.weak (.nil _)), ?_⟩
    show _ = _
    first | (rw [idV, hok, hid]; rfl) | (rw [idV, hok]; rfl)
  · have p7 := h7; try simp only [decide_eq_true_eq, decide_eq_false_iff_not, beq_iff_eq, bne_iff_ne, beq_eq_false_iff_ne, ne_eq, gt_iff_lt, ge_iff_le, Int.not_lt, Int.not_le, bne_eq_false_iff_eq, Bool.not_eq_true', Bool.not_eq_false', Bool.and_eq_true, Bool.and_eq_false_iff, Bool.or_eq_true, Bool.or_eq_false_iff, Decidable.not_not, List.cons.injEq, and_true] at p7
    have hok : psOk I V R F ts nt os no = true := by simpa using p7
    have hh := psOk_head hok
    refine Run.skip ?_
    refine Run.seq ?_
    refine Run.seq ?_
    refine Run.region ?_
    refine Run.q (v := .agg #[.int .i64 I, .int .i64 V, .int .i64 R, .int .i64 F, vt, vo]) rfl (OpQ.y (OpY.loadN (cs := [.int .i64 I, .int .i64 V, .int .i64 R, .int .i64 F, vt, vo]) Tagg_75 rfl (Cells.blk (.head _) ⟨rfl, rfl, rfl, rfl, rfl, rfl, trivial⟩))) ?_
    refine Run.q (v := .bool (idOk V R nt os no)) rfl (OpQ.call (vs := [.agg #[.int .i64 I, .int .i64 V, .int .i64 R, .int .i64 F, vt, vo]]) (caps := []) Tcall_105 rfl rfl (fun w hs => l21Identity_spec hh.1 hh.2 (hs.sl ht) (hs.sl ho))) ?_
    refine Run.q (v := .bool (!(idOk V R nt os no))) rfl (OpQ.y (OpY.pure rfl)) ?_
    refine Run.done ?_
    refine Run.cond (b := !(idOk V R nt os no)) rfl (fun h10 => ?_) (fun h10 => ?_)
    · have p10 := h10; try simp only [decide_eq_true_eq, decide_eq_false_iff_not, beq_iff_eq, bne_iff_ne, beq_eq_false_iff_ne, ne_eq, gt_iff_lt, ge_iff_le, Int.not_lt, Int.not_le, bne_eq_false_iff_eq, Bool.not_eq_true', Bool.not_eq_false', Bool.and_eq_true, Bool.and_eq_false_iff, Bool.or_eq_true, Bool.or_eq_false_iff, Decidable.not_not, List.cons.injEq, and_true] at p10
      have hid : idOk V R nt os no = false := by simpa using p10
      refine Run.seq ?_
      refine Run.region ?_
      refine Run.q (v := .int .i64 0) rfl (OpQ.y (OpY.pure rfl)) ?_
      refine Run.q (v := .bool false) rfl (OpQ.y (OpY.pure rfl)) ?_
      refine Run.q (v := .bool true) rfl (OpQ.y (OpY.pure rfl)) ?_
      refine Run.done ?_
      refine Run.ret ?_
      refine ⟨.tuple #[.int .i64 0, .bool false, .bool true], [], Out.three rfl rfl rfl rfl, (Some'.weak (.nil _)), ?_⟩
      show _ = _
      first | (rw [idV, hok, hid]; rfl) | (rw [idV, hok]; rfl)
    · have p10 := h10; try simp only [decide_eq_true_eq, decide_eq_false_iff_not, beq_iff_eq, bne_iff_ne, beq_eq_false_iff_ne, ne_eq, gt_iff_lt, ge_iff_le, Int.not_lt, Int.not_le, bne_eq_false_iff_eq, Bool.not_eq_true', Bool.not_eq_false', Bool.and_eq_true, Bool.and_eq_false_iff, Bool.or_eq_true, Bool.or_eq_false_iff, Decidable.not_not, List.cons.injEq, and_true] at p10
      have hid : idOk V R nt os no = true := by simpa using p10
      refine Run.skip ?_
      refine Run.seq ?_
      refine Run.region ?_
      refine Run.q (v := .pointer (some ⟨b1, 3, none⟩)) rfl (OpQ.y (OpY.fieldAddr Tfo_75_3 rfl rfl)) ?_
      refine Run.q (v := .int .i64 F) rfl (OpQ.y (OpY.load1 Tone_3 rfl (Cells.blk (.head _) ⟨rfl, trivial⟩))) ?_
      refine Run.q (v := .int .i64 F) rfl (OpQ.y (OpY.pure rfl)) ?_
      refine Run.q (v := .bool true) rfl (OpQ.y (OpY.pure rfl)) ?_
      refine Run.q (v := .bool true) rfl (OpQ.y (OpY.pure rfl)) ?_
      refine Run.done ?_
      refine Run.ret ?_
      refine ⟨.tuple #[.int .i64 F, .bool true, .bool true], [], Out.three rfl rfl rfl rfl, (Some'.weak (.nil _)), ?_⟩
      show _ = _
      first | (rw [idV, hok, hid]; rfl) | (rw [idV, hok]; rfl)

set_option maxHeartbeats 1000000 in
set_option maxRecDepth 20000 in
theorem IsIdentitySum_spec {I V R F : Int} {vt vo : Value} {nt no : Nat} {ts os : List Int} {w : World} (ht : Sl w vt 2 nt (ints ts)) (ho : Sl w vo 2 no (ints os)) : Calls Try.prog 42 #[.agg #[.int .i64 I, .int .i64 V, .int .i64 R, .int .i64 F, vt, vo]] w (Post No w fun v _ => v = .tuple #[.int .i64 (idV I V R F ts nt os no), .bool (psOk I V R F ts nt os no && idOk V R nt os no), .bool (psOk I V R F ts nt os no)]) := by
  have htl := ht.len
  have hnt := ht.le
  obtain ⟨At, ct, rfl, _, _⟩ := ht.form0
  have hol := ho.len
  have hno := ho.le
  obtain ⟨Ao, co, rfl, _, _⟩ := ho.form0
  refine enter (n := 40) (args := [.agg #[.int .i64 I, .int .i64 V, .int .i64 R, .int .i64 F, .slice At nt ct, .slice Ao no co]]) Try.func42 rfl rfl (St.empty _ _) ?_
  refine Run.seq ?_
  refine Run.region ?_
  refine Run.step rfl (OpStep.box (us := [.int .i64 I, .int .i64 V, .int .i64 R, .int .i64 F, .slice At nt ct, .slice Ao no co]) rfl fun b1 => ?_)
  refine Run.q (v := .int .i64 0) rfl (OpQ.y (OpY.pure rfl)) ?_
  refine Run.q (v := .bool false) rfl (OpQ.y (OpY.pure rfl)) ?_
  refine Run.q (v := .bool false) rfl (OpQ.y (OpY.pure rfl)) ?_
  refine Run.done ?_
  refine Run.seq ?_
  refine Run.seq ?_
  refine Run.region ?_
  refine Run.q (v := .agg #[.int .i64 I, .int .i64 V, .int .i64 R, .int .i64 F, .slice At nt ct, .slice Ao no co]) rfl (OpQ.y (OpY.loadN (cs := [.int .i64 I, .int .i64 V, .int .i64 R, .int .i64 F, .slice At nt ct, .slice Ao no co]) Tagg_75 rfl (Cells.blk (.head _) ⟨rfl, rfl, rfl, rfl, rfl, rfl, trivial⟩))) ?_
  refine Run.q (v := .bool (psOk I V R F ts nt os no)) rfl (OpQ.call (vs := [.agg #[.int .i64 I, .int .i64 V, .int .i64 R, .int .i64 F, .slice At nt ct, .slice Ao no co]]) (caps := []) Tcall_108 rfl rfl (fun w hs => IsValidPathSum_spec (hs.sl ht) (hs.sl ho))) ?_
  refine Run.q (v := .bool (!(psOk I V R F ts nt os no))) rfl (OpQ.y (OpY.pure rfl)) ?_
  refine Run.done ?_
  refine Run.cond (b := !(psOk I V R F ts nt os no)) rfl (fun h9 => ?_) (fun h9 => ?_)
  · have p9 := h9; try simp only [decide_eq_true_eq, decide_eq_false_iff_not, beq_iff_eq, bne_iff_ne, beq_eq_false_iff_ne, ne_eq, gt_iff_lt, ge_iff_le, Int.not_lt, Int.not_le, bne_eq_false_iff_eq, Bool.not_eq_true', Bool.not_eq_false', Bool.and_eq_true, Bool.and_eq_false_iff, Bool.or_eq_true, Bool.or_eq_false_iff, Decidable.not_not, List.cons.injEq, and_true] at p9
    have hok : psOk I V R F ts nt os no = false := by simpa using p9
    refine Run.seq ?_
    refine Run.region ?_
    refine Run.q (v := .int .i64 0) rfl (OpQ.y (OpY.pure rfl)) ?_
    refine Run.q (v := .bool false) rfl (OpQ.y (OpY.pure rfl)) ?_
    refine Run.q (v := .bool false) rfl (OpQ.y (OpY.pure rfl)) ?_
    refine Run.done ?_
    refine Run.ret ?_
    refine ⟨.tuple #[.int .i64 0, .bool false, .bool false], [], Out.three rfl rfl rfl rfl, (Some'.weak (.nil _)), ?_⟩
    show _ = _
    first | (rw [idV, hok, hid]; rfl) | (rw [idV, hok]; rfl)
  · have p9 := h9; try simp only [decide_eq_true_eq, decide_eq_false_iff_not, beq_iff_eq, bne_iff_ne, beq_eq_false_iff_ne, ne_eq, gt_iff_lt, ge_iff_le, Int.not_lt, Int.not_le, bne_eq_false_iff_eq, Bool.not_eq_true', Bool.not_eq_false', Bool.and_eq_true, Bool.and_eq_false_iff, Bool.or_eq_true, Bool.or_eq_false_iff, Decidable.not_not, List.cons.injEq, and_true] at p9
    have hok : psOk I V R F ts nt os no = true := by simpa using p9
    have hh := psOk_head hok
    refine Run.skip ?_
    refine Run.seq ?_
    refine Run.seq ?_
    refine Run.region ?_
    refine Run.q (v := .pointer (some ⟨b1, 1, none⟩)) rfl (OpQ.y (OpY.fieldAddr Tfo_75_1 rfl rfl)) ?_
    refine Run.q (v := .int .i64 V) rfl (OpQ.y (OpY.load1 Tone_3 rfl (Cells.blk (.head _) ⟨rfl, trivial⟩))) ?_
    refine Run.q (v := .bool (V != 0)) rfl (OpQ.y (OpY.pure rfl)) ?_
    rcases Bool.eq_false_or_eq_true (V != 0) with h13 | h13
    · refine Run.q (v := .bool true) rfl (OpQ.y (OpY.moveB rfl h13)) ?_
      have p13 := h13; try simp only [decide_eq_true_eq, decide_eq_false_iff_not, beq_iff_eq, bne_iff_ne, beq_eq_false_iff_ne, ne_eq, gt_iff_lt, ge_iff_le, Int.not_lt, Int.not_le, bne_eq_false_iff_eq, Bool.not_eq_true', Bool.not_eq_false', Bool.and_eq_true, Bool.and_eq_false_iff, Bool.or_eq_true, Bool.or_eq_false_iff, Decidable.not_not, List.cons.injEq, and_true] at p13
      refine Run.pass rfl ?_
      refine Run.pass rfl ?_
      refine Run.pass rfl ?_
      refine Run.pass rfl ?_
      refine Run.q (v := .bool true) rfl (OpQ.y (OpY.pure rfl)) ?_
      refine Run.q (v := .bool true) rfl (OpQ.y (OpY.pure rfl)) ?_
      refine Run.pass rfl ?_
      refine Run.pass rfl ?_
      refine Run.pass rfl ?_
      refine Run.q (v := .bool true) rfl (OpQ.y (OpY.pure rfl)) ?_
      refine Run.done ?_
      refine Run.cond (b := true) rfl (fun _ => ?_) (fun h => nomatch h)
      refine Run.seq ?_
      have hid : idOk V R nt os no = false := by
        unfold idOk
        first | (rw [decide_eq_false (show ¬ V = 0 by omega)]; simp; done) | (rw [decide_eq_false (show ¬ R = 0 by omega)]; simp; done) | (rw [decide_eq_false (show ¬ nt = 0 by omega)]; simp; done)
      refine Run.region ?_
      refine Run.q (v := .int .i64 0) rfl (OpQ.y (OpY.pure rfl)) ?_
      refine Run.q (v := .bool false) rfl (OpQ.y (OpY.pure rfl)) ?_
      refine Run.q (v := .bool true) rfl (OpQ.y (OpY.pure rfl)) ?_
      refine Run.done ?_
      refine Run.ret ?_
      refine ⟨.tuple #[.int .i64 0, .bool false, .bool true], [], Out.three rfl rfl rfl rfl, (Some'.weak (.nil _)), ?_⟩
      show _ = _
      first | (rw [idV, hok, hid]; rfl) | (rw [idV, hok]; rfl)
    · refine Run.q (v := .bool false) rfl (OpQ.y (OpY.moveB rfl h13)) ?_
      have p13 := h13; try simp only [decide_eq_true_eq, decide_eq_false_iff_not, beq_iff_eq, bne_iff_ne, beq_eq_false_iff_ne, ne_eq, gt_iff_lt, ge_iff_le, Int.not_lt, Int.not_le, bne_eq_false_iff_eq, Bool.not_eq_true', Bool.not_eq_false', Bool.and_eq_true, Bool.and_eq_false_iff, Bool.or_eq_true, Bool.or_eq_false_iff, Decidable.not_not, List.cons.injEq, and_true] at p13
      refine Run.q (v := .pointer (some ⟨b1, 4, none⟩)) rfl (OpQ.y (OpY.fieldAddr Tfo_75_4 rfl rfl)) ?_
      refine Run.q (v := .slice At nt ct) rfl (OpQ.y (OpY.load1 Tone_72 rfl (Cells.blk (.head _) ⟨rfl, trivial⟩))) ?_
      refine Run.q (v := .int .i64 (((nt : Nat) : Int))) rfl (OpQ.y (OpY.len Tsl_72 rfl)) ?_
      refine Run.q (v := .bool (decide ((((nt : Nat) : Int)) > 0))) rfl (OpQ.y (OpY.pure rfl)) ?_
      refine Run.q (v := .bool (decide ((((nt : Nat) : Int)) > 0))) rfl (OpQ.y (OpY.pure rfl)) ?_
      rcases Bool.eq_false_or_eq_true (decide ((((nt : Nat) : Int)) > 0)) with h19 | h19
      · refine Run.q (v := .bool true) rfl (OpQ.y (OpY.moveB rfl h19)) ?_
        have p19 := h19; try simp only [decide_eq_true_eq, decide_eq_false_iff_not, beq_iff_eq, bne_iff_ne, beq_eq_false_iff_ne, ne_eq, gt_iff_lt, ge_iff_le, Int.not_lt, Int.not_le, bne_eq_false_iff_eq, Bool.not_eq_true', Bool.not_eq_false', Bool.and_eq_true, Bool.and_eq_false_iff, Bool.or_eq_true, Bool.or_eq_false_iff, Decidable.not_not, List.cons.injEq, and_true] at p19
        refine Run.pass rfl ?_
        refine Run.pass rfl ?_
        refine Run.pass rfl ?_
        refine Run.q (v := .bool true) rfl (OpQ.y (OpY.pure rfl)) ?_
        refine Run.done ?_
        refine Run.cond (b := true) rfl (fun _ => ?_) (fun h => nomatch h)
        refine Run.seq ?_
        have hid : idOk V R nt os no = false := by
          unfold idOk
          first | (rw [decide_eq_false (show ¬ V = 0 by omega)]; simp; done) | (rw [decide_eq_false (show ¬ R = 0 by omega)]; simp; done) | (rw [decide_eq_false (show ¬ nt = 0 by omega)]; simp; done)
        refine Run.region ?_
        refine Run.q (v := .int .i64 0) rfl (OpQ.y (OpY.pure rfl)) ?_
        refine Run.q (v := .bool false) rfl (OpQ.y (OpY.pure rfl)) ?_
        refine Run.q (v := .bool true) rfl (OpQ.y (OpY.pure rfl)) ?_
        refine Run.done ?_
        refine Run.ret ?_
        refine ⟨.tuple #[.int .i64 0, .bool false, .bool true], [], Out.three rfl rfl rfl rfl, (Some'.weak (.nil _)), ?_⟩
        show _ = _
        first | (rw [idV, hok, hid]; rfl) | (rw [idV, hok]; rfl)
      · refine Run.q (v := .bool false) rfl (OpQ.y (OpY.moveB rfl h19)) ?_
        have p19 := h19; try simp only [decide_eq_true_eq, decide_eq_false_iff_not, beq_iff_eq, bne_iff_ne, beq_eq_false_iff_ne, ne_eq, gt_iff_lt, ge_iff_le, Int.not_lt, Int.not_le, bne_eq_false_iff_eq, Bool.not_eq_true', Bool.not_eq_false', Bool.and_eq_true, Bool.and_eq_false_iff, Bool.or_eq_true, Bool.or_eq_false_iff, Decidable.not_not, List.cons.injEq, and_true] at p19
        refine Run.q (v := .pointer (some ⟨b1, 2, none⟩)) rfl (OpQ.y (OpY.fieldAddr Tfo_75_2 rfl rfl)) ?_
        refine Run.q (v := .int .i64 R) rfl (OpQ.y (OpY.load1 Tone_3 rfl (Cells.blk (.head _) ⟨rfl, trivial⟩))) ?_
        refine Run.q (v := .bool (R != 0)) rfl (OpQ.y (OpY.pure rfl)) ?_
        refine Run.q (v := .bool (R != 0)) rfl (OpQ.y (OpY.pure rfl)) ?_
        refine Run.done ?_
        refine Run.cond (b := R != 0) rfl (fun h23 => ?_) (fun h23 => ?_)
        · have p23 := h23; try simp only [decide_eq_true_eq, decide_eq_false_iff_not, beq_iff_eq, bne_iff_ne, beq_eq_false_iff_ne, ne_eq, gt_iff_lt, ge_iff_le, Int.not_lt, Int.not_le, bne_eq_false_iff_eq, Bool.not_eq_true', Bool.not_eq_false', Bool.and_eq_true, Bool.and_eq_false_iff, Bool.or_eq_true, Bool.or_eq_false_iff, Decidable.not_not, List.cons.injEq, and_true] at p23
          refine Run.seq ?_
          have hid : idOk V R nt os no = false := by
            unfold idOk
            first | (rw [decide_eq_false (show ¬ V = 0 by omega)]; simp; done) | (rw [decide_eq_false (show ¬ R = 0 by omega)]; simp; done) | (rw [decide_eq_false (show ¬ nt = 0 by omega)]; simp; done)
          refine Run.region ?_
          refine Run.q (v := .int .i64 0) rfl (OpQ.y (OpY.pure rfl)) ?_
          refine Run.q (v := .bool false) rfl (OpQ.y (OpY.pure rfl)) ?_
          refine Run.q (v := .bool true) rfl (OpQ.y (OpY.pure rfl)) ?_
          refine Run.done ?_
          refine Run.ret ?_
          refine ⟨.tuple #[.int .i64 0, .bool false, .bool true], [], Out.three rfl rfl rfl rfl, (Some'.weak (.nil _)), ?_⟩
          show _ = _
          first | (rw [idV, hok, hid]; rfl) | (rw [idV, hok]; rfl)
        · have p23 := h23; try simp only [decide_eq_true_eq, decide_eq_false_iff_not, beq_iff_eq, bne_iff_ne, beq_eq_false_iff_ne, ne_eq, gt_iff_lt, ge_iff_le, Int.not_lt, Int.not_le, bne_eq_false_iff_eq, Bool.not_eq_true', Bool.not_eq_false', Bool.and_eq_true, Bool.and_eq_false_iff, Bool.or_eq_true, Bool.or_eq_false_iff, Decidable.not_not, List.cons.injEq, and_true] at p23
          refine Run.skip ?_
          refine Run.seq ?_
          refine Run.seq ?_
          have hV0 : V = 0 := by omega
          have hR0 : R = 0 := by omega
          have hT0 : nt = 0 := by omega
          refine Run.region ?_
          refine Run.q (v := .pointer (some ⟨b1, 5, none⟩)) rfl (OpQ.y (OpY.fieldAddr Tfo_75_5 rfl rfl)) ?_
          refine Run.q (v := .slice Ao no co) rfl (OpQ.y (OpY.load1 Tone_73 rfl (Cells.blk (.head _) ⟨rfl, trivial⟩))) ?_
          refine Run.q (v := .int .i64 (((no : Nat) : Int))) rfl (OpQ.y (OpY.len Tsl_73 rfl)) ?_
          refine Run.q (v := .int .i64 0) rfl (OpQ.y (OpY.pure rfl)) ?_
          refine Run.done ?_
          refine Run.block ?_
          refine Run.loop (ι := Nat) [2, 3, 4, 5, 6, 27, 28, 29, 30, 31, 32, 33, 34, 35, 36, 37] (fun k => [(27, .int .i64 (((k : Nat) : Int)))]) (fun k => [.blk b1 75 [.int .i64 I, .int .i64 V, .int .i64 R, .int .i64 F, .slice At nt ct, .slice Ao no co]]) (fun k => k ≤ no ∧ (∀ i, i < k → (!idAt os i) = false)) (fun k => no - k) 0 ?_ ?_ ?_ ?_
          · exact ⟨Nat.zero_le _, by first | trivial | (intro i hi; omega)⟩
          · exact ⟨rfl, trivial⟩
          · exact (Some'.weak (.take (.nil _)))
          · rintro k fr hinv
            show Run _ _ (over _ _ [(27, .int .i64 (((k : Nat) : Int)))] fr) [.blk b1 75 [.int .i64 I, .int .i64 V, .int .i64 R, .int .i64 F, .slice At nt ct, .slice Ao no co]]
            try dsimp only at hinv
            refine Run.seq ?_
            refine Run.region ?_
            refine Run.q (v := .bool (decide ((((k : Nat) : Int)) < (((no : Nat) : Int))))) rfl (OpQ.y (OpY.pure rfl)) ?_
            refine Run.done ?_
            refine Run.seq ?_
            refine Run.cond (b := decide ((((k : Nat) : Int)) < (((no : Nat) : Int)))) rfl (fun h28 => ?_) (fun h28 => ?_)
            · have p28 := h28; try simp only [decide_eq_true_eq, decide_eq_false_iff_not, beq_iff_eq, bne_iff_ne, beq_eq_false_iff_ne, ne_eq, gt_iff_lt, ge_iff_le, Int.not_lt, Int.not_le, bne_eq_false_iff_eq, Bool.not_eq_true', Bool.not_eq_false', Bool.and_eq_true, Bool.and_eq_false_iff, Bool.or_eq_true, Bool.or_eq_false_iff, Decidable.not_not, List.cons.injEq, and_true] at p28
              have hltk : k < no := by omega
              obtain ⟨b, o, rfl⟩ := ho.opn (by omega)
              have hpk := pow_small (i := k) (by omega)
              refine Run.skip ?_
              refine Run.seq ?_
              refine Run.block ?_
              refine Run.seq ?_
              refine Run.region ?_
              refine Run.q (v := .int .i64 (((k : Nat) : Int))) rfl (OpQ.y (OpY.pure rfl)) ?_
              refine Run.q (v := .pointer (some ⟨b, o + k * 2, none⟩)) rfl (OpQ.y (OpY.index (kk := k) Tsl_73 rfl rfl (by omega) (by omega) (by first | rfl | omega))) ?_
              refine Run.q (v := .agg #[.int .i64 (ix os (k * 2)), .int .i64 (ix os (k * 2 + 1))]) rfl (OpQ.y (OpY.loadN (cs := [.int .i64 (ix os (k * 2)), .int .i64 (ix os (k * 2 + 1))]) Tagg_149 rfl (Cells.arg (k := k * 2) ho rfl (by omega) (pre2 (by omega))))) ?_
              refine Run.step rfl (OpStep.alloc (zs := [.int .i64 0, .int .i64 0]) Tzero_149 fun b2 => ?_)
              refine Run.q (v := .int .i64 (((k : Nat) : Int))) rfl (OpQ.y (OpY.pure rfl)) ?_
              refine Run.step rfl (OpStep.storeAll (us := [.int .i64 (ix os (k * 2)), .int .i64 (ix os (k * 2 + 1))]) Tsize_149 rfl rfl rfl (.here _) rfl ?_)
              refine Run.done ?_
              refine Run.seq ?_
              refine Run.draws (by kernel_rfl) (by kernel_rfl) ?_
              refine Lex.q (v := .agg #[.int .i64 (ix os (k * 2)), .int .i64 (ix os (k * 2 + 1))]) rfl (OpQ.y (OpY.loadN (cs := [.int .i64 (ix os (k * 2)), .int .i64 (ix os (k * 2 + 1))]) Tagg_149 rfl (Cells.blk (.head _) ⟨rfl, rfl, trivial⟩))) ?_
              refine Lex.q (v := .int .i64 (((k : Nat) : Int))) rfl (OpQ.y (OpY.pure rfl)) ?_
              refine Lex.q (v := .int .i64 (2 ^ k)) rfl (OpQ.y (OpY.shl (n := k) rfl rfl rfl (by omega) hpk.1 (by omega) (by omega))) ?_
              refine Lex.q (v := .agg #[.int .i64 (2 ^ k), .int .i64 0]) rfl (OpQ.y (OpY.build (cs := [.int .i64 (2 ^ k), .int .i64 0]) (by kernel_rfl))) ?_
              refine Lex.q (v := .bool (!decide ([ix os (k * 2), ix os (k * 2 + 1)] = [2 ^ k, 0]))) rfl (OpQ.y (OpY.neStruct (xs := [ix os (k * 2), ix os (k * 2 + 1)]) (ys := [2 ^ k, 0]) Tns_149_2 rfl rfl rfl rfl)) ?_
              refine Lex.done ?_
              refine Run.cond (b := !decide ([ix os (k * 2), ix os (k * 2 + 1)] = [2 ^ k, 0])) rfl (fun h36 => ?_) (fun h36 => ?_)
              · have p36 := h36; try simp only [decide_eq_true_eq, decide_eq_false_iff_not, beq_iff_eq, bne_iff_ne, beq_eq_false_iff_ne, ne_eq, gt_iff_lt, ge_iff_le, Int.not_lt, Int.not_le, bne_eq_false_iff_eq, Bool.not_eq_true', Bool.not_eq_false', Bool.and_eq_true, Bool.and_eq_false_iff, Bool.or_eq_true, Bool.or_eq_false_iff, Decidable.not_not, List.cons.injEq, and_true] at p36
                refine Run.seq ?_
                have hb1 : (!idAt os k) = true := h36
                have hid : idOk V R nt os no = false := by
                  unfold idOk
                  rw [anyI_true hltk hb1]; simp
                refine Run.region ?_
                refine Run.q (v := .int .i64 0) rfl (OpQ.y (OpY.pure rfl)) ?_
                refine Run.q (v := .bool false) rfl (OpQ.y (OpY.pure rfl)) ?_
                refine Run.q (v := .bool true) rfl (OpQ.y (OpY.pure rfl)) ?_
                refine Run.done ?_
                refine Run.ret ?_
                refine ⟨.tuple #[.int .i64 0, .bool false, .bool true], [], Out.three rfl rfl rfl rfl, (Some'.weak (.nil _)), ?_⟩
                show _ = _
                first | (rw [idV, hok, hid]; rfl) | (rw [idV, hok]; rfl)
              · have p36 := h36; try simp only [decide_eq_true_eq, decide_eq_false_iff_not, beq_iff_eq, bne_iff_ne, beq_eq_false_iff_ne, ne_eq, gt_iff_lt, ge_iff_le, Int.not_lt, Int.not_le, bne_eq_false_iff_eq, Bool.not_eq_true', Bool.not_eq_false', Bool.and_eq_true, Bool.and_eq_false_iff, Bool.or_eq_true, Bool.or_eq_false_iff, Decidable.not_not, List.cons.injEq, and_true] at p36
                refine Run.skip ?_
                refine Run.blockEnd ?_
                have hgood : (!idAt os k) = false := h36
                refine Run.region ?_
                refine Run.q (v := .int .i64 ((((k : Nat) : Int)) + 1)) rfl (OpQ.y (OpY.add rfl rfl rfl (by omega) (by omega))) ?_
                refine Run.q (v := .int .i64 ((((k : Nat) : Int)) + 1)) rfl (OpQ.y (OpY.pure rfl)) ?_
                refine Run.done ?_
                refine Run.goal ⟨(by repeat (first | exact Same.refl _ _ | refine Same.put rfl ?_ | refine Same.over rfl rfl ?_)), k + 1, ?_, ?_, ?_, ?_⟩
                · refine ⟨by omega, ?_⟩
                  intro i hi
                  rcases Nat.lt_succ_iff_lt_or_eq.1 hi with h | h
                  · exact hinv.2 i h
                  · rw [h]; exact hgood
                · omega
                · exact ⟨(by first | rfl | (congr 1; omega) | simp), trivial⟩
                · exact (Some'.weak (.skip (.takeEq (by first | rfl | simp) (.nil _))))
            · have p28 := h28; try simp only [decide_eq_true_eq, decide_eq_false_iff_not, beq_iff_eq, bne_iff_ne, beq_eq_false_iff_ne, ne_eq, gt_iff_lt, ge_iff_le, Int.not_lt, Int.not_le, bne_eq_false_iff_eq, Bool.not_eq_true', Bool.not_eq_false', Bool.and_eq_true, Bool.and_eq_false_iff, Bool.or_eq_true, Bool.or_eq_false_iff, Decidable.not_not, List.cons.injEq, and_true] at p28
              have hknk : k = no := by omega
              have hall : anyI (fun i => !idAt os i) no = false := by rw [← hknk]; exact anyI_false hinv.2
              have hid : idOk V R nt os no = true := by
                unfold idOk
                rw [decide_eq_true hV0, decide_eq_true hR0, decide_eq_true hT0, hall]; rfl
              refine Run.exit rfl ?_
              refine Run.seq ?_
              refine Run.region ?_
              refine Run.q (v := .pointer (some ⟨b1, 3, none⟩)) rfl (OpQ.y (OpY.fieldAddr Tfo_75_3 rfl rfl)) ?_
              refine Run.q (v := .int .i64 F) rfl (OpQ.y (OpY.load1 Tone_3 rfl (Cells.blk (.head _) ⟨rfl, trivial⟩))) ?_
              refine Run.q (v := .int .i64 F) rfl (OpQ.y (OpY.pure rfl)) ?_
              refine Run.q (v := .bool true) rfl (OpQ.y (OpY.pure rfl)) ?_
              refine Run.q (v := .bool true) rfl (OpQ.y (OpY.pure rfl)) ?_
              refine Run.done ?_
              refine Run.ret ?_
              refine ⟨.tuple #[.int .i64 F, .bool true, .bool true], [], Out.three rfl rfl rfl rfl, (Some'.weak (.nil _)), ?_⟩
              show _ = _
              first | (rw [idV, hok, hid]; rfl) | (rw [idV, hok]; rfl)

end Go.Proofs.Ytbpllboldphhiaa
