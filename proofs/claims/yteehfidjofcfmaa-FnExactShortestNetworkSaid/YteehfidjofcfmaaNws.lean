/- Walks: valid masks; shortest networks by the program. -/
import Derived.Test.YteehfidjofcfmaaNwp
import Derived.Test.YteehfidjofcfmaaSly
import Derived.Test.YteehfidjofcfmaaLie
import Derived.Test.YteehfidjofcfmaaProg
set_option linter.unusedSimpArgs false
set_option linter.unusedVariables false
namespace Go.Proofs.Yteehfidjofcfmaa
open Go Go.RowKit
namespace NwsT
theorem Tcall_100 : callable Try.prog 100 = true := by kernel_rfl
theorem Tcall_121 : callable Try.prog 121 = true := by kernel_rfl
theorem Tcall_73 : callable Try.prog 73 = true := by kernel_rfl
theorem Tint_96 : Try.prog.underlying 96 = some (.int .u64) := by kernel_rfl
theorem Tone_3 : oneOf Try.prog 3 = true := by kernel_rfl
theorem Tsl_22 : sliceOf Try.prog 22 = some (3, 1, 8, [.int .i64 0]) := by kernel_rfl
theorem Tsome_3 : (Try.prog.underlying 3).isSome = true := by kernel_rfl
end NwsT
open NwsT

theorem mask_pow {n : Nat} (h : within (n : Int) 1 5 = true) : ∃ q : Nat, q = 2 ^ n ∧ q ≤ 32 := by
  have := within_iff.1 h
  exact ⟨_, rfl, Nat.pow_le_pow_right (n := 2) (by omega) (show n ≤ 5 by omega)⟩
def rsAt (lo hi : Int) (xs : List Int) (i : Nat) : Bool := within (ix xs i) lo hi && decide (0 < i → ix xs (i - 1) < ix xs i)
theorem mskAt_rs (n : Nat) (ms : List Int) (i : Nat) : mskAt n ms i = rsAt 1 (((2 ^ n : Nat) : Int) - 1) ms i := rfl
def nwB (n : Nat) (xs ms : List Int) : Bool := decide (n ≤ 3) && linOk xs n && mskOk n ms ms.length
noncomputable def nwP (n : Nat) (m : List Nat) (ms : List Int) : List Nat := @Classical.epsilon _ ⟨[]⟩ fun p => ∃ i, ((m, 2 ^ ms.length - 1), p) ∈ mQ n ms i
noncomputable def nwG (n : Nat) (xs ms : List Int) : List Nat := if nwB n xs ms = true then nwP n (nats xs) ms else []
def nwN (n : Nat) (xs ms : List Int) : Int := if nwB n xs ms = true then n else 0
theorem nwP_spec {n i : Nat} {m p : List Nat} {ms : List Int} (h : ((m, 2 ^ ms.length - 1), p) ∈ mQ n ms i) : nwP n m ms = p := by
  obtain ⟨j, hj⟩ := @Classical.epsilon_spec_aux _ ⟨[]⟩ (fun p => ∃ i, ((m, 2 ^ ms.length - 1), p) ∈ mQ n ms i) ⟨p, i, h⟩
  exact mQ_one hj h
theorem nw_bad {n : Nat} {xs ms : List Int} (h : nwB n xs ms = false) : nwG n xs ms = [] ∧ nwN n xs ms = 0 := by simp [nwG, nwN, h]
theorem nw_good {n : Nat} {xs ms : List Int} (h : nwB n xs ms = true) : nwN n xs ms = n := by simp [nwN, h]
structure NwOk (n : Nat) (xs ms : List Int) : Prop where
  n3 : n ≤ 3
  n1 : 1 ≤ n
  nl : nl (nats xs) = xs
  ml : (nats xs).length = n
  mb : ∀ i, nx (nats xs) i < 2 ^ n
  mi : Indep (nats xs)
  mks : mskOk n ms ms.length = true
  m7 : ms.length ≤ 7
  fd : ∀ i, (mQ n ms i).length ≤ i → (nats xs, 2 ^ ms.length - 1) ∈ (mQ n ms i).map (·.1)
  one : ∀ i p, ((nats xs, 2 ^ ms.length - 1), p) ∈ mQ n ms i → p = nwG n xs ms
  len : (nwG n xs ms).length ≤ 60
  bw : BW (lok n) (n * n) (nwG n xs ms)
theorem nw_ok {n : Nat} {xs ms : List Int} (hl : xs.length = n) (h : nwB n xs ms = true) : NwOk n xs ms := by
  obtain ⟨⟨h3, hk⟩, hm⟩ : (n ≤ 3 ∧ linOk xs n = true) ∧ mskOk n ms ms.length = true := by simpa [nwB] using h
  obtain ⟨h1, h5, hnl, hml, hmb, hmi⟩ := lin_facts hl hk
  have hm7 : ms.length ≤ 7 := by have := msk_len hm; have h8 : 2 ^ n ≤ 2 ^ 3 := Nat.pow_le_pow_right (by omega) h3; omega
  have hfd : ∀ i, (mQ n ms i).length ≤ i → (nats xs, 2 ^ ms.length - 1) ∈ (mQ n ms i).map (·.1) := fun i hi => mQ_found hm hml (fun i _ => hmb i) hmi hi
  have hone : ∀ i p, ((nats xs, 2 ^ ms.length - 1), p) ∈ mQ n ms i → p = nwG n xs ms := fun i p hp => by rw [nwG, if_pos h, nwP_spec hp]
  obtain ⟨B, hB⟩ : ∃ B : Nat, B = 1000000 := ⟨_, rfl⟩
  obtain ⟨y, hy, he⟩ := List.mem_map.1 (hfd B (by rw [hB]; exact mQ_small h3 hm7 _))
  have hy2 : ((nats xs, 2 ^ ms.length - 1), y.2) ∈ mQ n ms B := by rw [← he]; exact hy
  have hG := hone _ _ hy2
  refine ⟨h3, h1, hnl, hml, hmb, hmi, hm, hm7, hfd, hone, ?_, ?_⟩
  · rw [← hG]; exact mQ_len h3 hm hml (fun i _ => hmb i) hmi hy2
  · rw [← hG]; exact (bfs_inv (step := lstep n ms) (ok := lok n) (E := n * n) (s := (idL n, apF ms n)) B).okw y hy
theorem nw_le {n : Nat} {xs ms : List Int} (hl : xs.length = n) : (nwG n xs ms).length ≤ 60 := by
  cases hb : nwB n xs ms with
  | true => exact (nw_ok hl hb).len
  | false => rw [(nw_bad hb).1]; simp

set_option maxHeartbeats 1000000 in
set_option maxRecDepth 20000 in
theorem l1Rising_spec {va : Value} {n : Nat} {xs : List Int} {lo hi : Int} {w : World} (ha : Sl w va 1 n (ints xs)) : Calls Try.prog 121 #[va, .int .i64 lo, .int .i64 hi] w (Post No w fun v _ => v = .bool (allI (rsAt lo hi xs) n)) := by
  have hxl := ha.len
  have hn := ha.le
  obtain ⟨A, c, rfl, _, _⟩ := ha.form0
  refine enter (n := 35) (args := [.slice A n c, .int .i64 lo, .int .i64 hi]) Try.func121 rfl rfl (St.empty _ _) ?_
  refine Run.seq ?_
  refine Run.region ?_
  refine Run.q (v := .bool false) rfl (OpQ.y (OpY.pure rfl)) ?_
  refine Run.done ?_
  refine Run.seq ?_
  refine Run.seq ?_
  refine Run.region ?_
  refine Run.q (v := .slice A n c) rfl (OpQ.y (OpY.pure rfl)) ?_
  refine Run.q (v := .int .i64 (((n : Nat) : Int))) rfl (OpQ.y (OpY.len Tsl_22 rfl)) ?_
  refine Run.q (v := .int .i64 0) rfl (OpQ.y (OpY.pure rfl)) ?_
  refine Run.done ?_
  refine Run.block ?_
  refine Run.loop (ι := Nat) [6, 7, 8, 11, 12, 13, 14, 15, 16, 17, 18, 19, 20, 21, 22, 23, 24, 25, 26, 27, 28, 29, 30, 31, 32, 33, 34] (fun k => [(11, .int .i64 (((k : Nat) : Int)))]) (fun k => []) (fun k => k ≤ n ∧ (∀ i, i < k → rsAt lo hi xs i = true)) (fun k => n - k) 0 ?_ ?_ ?_ ?_
  · exact ⟨Nat.zero_le _, by first | trivial | (intro i hi; omega)⟩
  · exact ⟨rfl, trivial⟩
  · exact (Some'.weak (.nil _))
  · rintro k fr hinv
    show Run _ _ (over _ _ [(11, .int .i64 (((k : Nat) : Int)))] fr) []
    try dsimp only at hinv
    refine Run.seq ?_
    refine Run.region ?_
    refine Run.q (v := .bool (decide ((((k : Nat) : Int)) < (((n : Nat) : Int))))) rfl (OpQ.y (OpY.pure rfl)) ?_
    refine Run.done ?_
    refine Run.seq ?_
    refine Run.cond (b := decide ((((k : Nat) : Int)) < (((n : Nat) : Int)))) rfl (fun h12 => ?_) (fun h12 => ?_)
    · have p12 := h12; try simp only [decide_eq_true_eq, decide_eq_false_iff_not, beq_iff_eq, bne_iff_ne, beq_eq_false_iff_ne, ne_eq, gt_iff_lt, ge_iff_le, Int.not_lt, Int.not_le, bne_eq_false_iff_eq, Bool.not_eq_true', Bool.not_eq_false', Bool.and_eq_true, Bool.and_eq_false_iff, Bool.or_eq_true, Bool.or_eq_false_iff, Decidable.not_not, List.cons.injEq, and_true] at p12
      have hltk : k < n := by omega
      obtain ⟨b, o, rfl⟩ := ha.opn (by omega)
      refine Run.skip ?_
      refine Run.seq ?_
      refine Run.block ?_
      refine Run.seq ?_
      refine Run.region ?_
      refine Run.q (v := .int .i64 (((k : Nat) : Int))) rfl (OpQ.y (OpY.pure rfl)) ?_
      refine Run.q (v := .pointer (some ⟨b, o + k, none⟩)) rfl (OpQ.y (OpY.index (kk := k) Tsl_22 rfl rfl (by omega) (by omega) (by first | rfl | omega))) ?_
      refine Run.q (v := .int .i64 (ix xs (k))) rfl (OpQ.y (OpY.load1 Tone_3 rfl (Cells.arg (k := k) ha rfl (by omega) (pre1 (by omega))))) ?_
      refine Run.q (v := .int .i64 (((k : Nat) : Int))) rfl (OpQ.y (OpY.pure rfl)) ?_
      refine Run.q (v := .int .i64 (ix xs (k))) rfl (OpQ.y (OpY.pure rfl)) ?_
      refine Run.done ?_
      refine Run.seq ?_
      refine Run.region ?_
      refine Run.q (v := .int .i64 (ix xs (k))) rfl (OpQ.y (OpY.pure rfl)) ?_
      refine Run.q (v := .int .i64 lo) rfl (OpQ.y (OpY.pure rfl)) ?_
      refine Run.q (v := .int .i64 hi) rfl (OpQ.y (OpY.pure rfl)) ?_
      refine Run.q (v := .bool (within (ix xs k) lo hi)) rfl (OpQ.call (vs := [.int .i64 (ix xs (k)), .int .i64 lo, .int .i64 hi]) (caps := []) Tcall_100 rfl rfl (fun w hs => l1In_spec _ _ _ w)) ?_
      refine Run.q (v := .bool (!(within (ix xs k) lo hi))) rfl (OpQ.y (OpY.pure rfl)) ?_
      rcases Bool.eq_false_or_eq_true (!(within (ix xs k) lo hi)) with h21 | h21
      · refine Run.q (v := .bool true) rfl (OpQ.y (OpY.moveB rfl h21)) ?_
        have p21 := h21; try simp only [decide_eq_true_eq, decide_eq_false_iff_not, beq_iff_eq, bne_iff_ne, beq_eq_false_iff_ne, ne_eq, gt_iff_lt, ge_iff_le, Int.not_lt, Int.not_le, bne_eq_false_iff_eq, Bool.not_eq_true', Bool.not_eq_false', Bool.and_eq_true, Bool.and_eq_false_iff, Bool.or_eq_true, Bool.or_eq_false_iff, Decidable.not_not, List.cons.injEq, and_true] at p21
        refine Run.pass rfl ?_
        refine Run.pass rfl ?_
        refine Run.pass rfl ?_
        refine Run.pass rfl ?_
        refine Run.pass rfl ?_
        refine Run.pass rfl ?_
        refine Run.pass rfl ?_
        refine Run.pass rfl ?_
        refine Run.pass rfl ?_
        refine Run.pass rfl ?_
        refine Run.pass rfl ?_
        refine Run.q (v := .bool true) rfl (OpQ.y (OpY.pure rfl)) ?_
        refine Run.done ?_
        refine Run.cond (b := true) rfl (fun _ => ?_) (fun h => nomatch h)
        refine Run.seq ?_
        have hres : allI (rsAt lo hi xs) n = false := by
          refine allI_false hltk ?_
          simp only [rsAt, Bool.and_eq_false_iff, decide_eq_false_iff_not]
          simp_all <;> omega
        refine Run.region ?_
        refine Run.q (v := .bool false) rfl (OpQ.y (OpY.pure rfl)) ?_
        refine Run.done ?_
        refine Run.ret ?_
        refine ⟨.bool false, [], Out.one rfl rfl, (Some'.weak (.nil _)), ?_⟩
        show _ = _; rw [hres]
      · refine Run.q (v := .bool false) rfl (OpQ.y (OpY.moveB rfl h21)) ?_
        have p21 := h21; try simp only [decide_eq_true_eq, decide_eq_false_iff_not, beq_iff_eq, bne_iff_ne, beq_eq_false_iff_ne, ne_eq, gt_iff_lt, ge_iff_le, Int.not_lt, Int.not_le, bne_eq_false_iff_eq, Bool.not_eq_true', Bool.not_eq_false', Bool.and_eq_true, Bool.and_eq_false_iff, Bool.or_eq_true, Bool.or_eq_false_iff, Decidable.not_not, List.cons.injEq, and_true] at p21
        refine Run.q (v := .int .i64 (((k : Nat) : Int))) rfl (OpQ.y (OpY.pure rfl)) ?_
        refine Run.q (v := .bool (decide ((((k : Nat) : Int)) > 0))) rfl (OpQ.y (OpY.pure rfl)) ?_
        rcases Bool.eq_false_or_eq_true (decide ((((k : Nat) : Int)) > 0)) with h24 | h24
        · refine Run.q (v := .bool true) rfl (OpQ.y (OpY.moveB rfl h24)) ?_
          have p24 := h24; try simp only [decide_eq_true_eq, decide_eq_false_iff_not, beq_iff_eq, bne_iff_ne, beq_eq_false_iff_ne, ne_eq, gt_iff_lt, ge_iff_le, Int.not_lt, Int.not_le, bne_eq_false_iff_eq, Bool.not_eq_true', Bool.not_eq_false', Bool.and_eq_true, Bool.and_eq_false_iff, Bool.or_eq_true, Bool.or_eq_false_iff, Decidable.not_not, List.cons.injEq, and_true] at p24
          refine Run.q (v := .slice (some ⟨b, o, none⟩) n c) rfl (OpQ.y (OpY.pure rfl)) ?_
          refine Run.q (v := .int .i64 (((k : Nat) : Int))) rfl (OpQ.y (OpY.pure rfl)) ?_
          refine Run.q (v := .int .i64 ((((k : Nat) : Int)) - 1)) rfl (OpQ.y (OpY.sub rfl rfl rfl (by omega) (by omega))) ?_
          refine Run.q (v := .pointer (some ⟨b, o + (k - 1), none⟩)) rfl (OpQ.y (OpY.index (kk := (k - 1)) Tsl_22 rfl rfl (by omega) (by omega) (by first | rfl | omega))) ?_
          refine Run.q (v := .int .i64 (ix xs ((k - 1)))) rfl (OpQ.y (OpY.load1 Tone_3 rfl (Cells.arg (k := (k - 1)) ha rfl (by omega) (pre1 (by omega))))) ?_
          refine Run.q (v := .int .i64 (ix xs (k))) rfl (OpQ.y (OpY.pure rfl)) ?_
          refine Run.q (v := .bool (decide ((ix xs ((k - 1))) ≥ (ix xs (k))))) rfl (OpQ.y (OpY.pure rfl)) ?_
          refine Run.q (v := .bool (decide ((ix xs ((k - 1))) ≥ (ix xs (k))))) rfl (OpQ.y (OpY.pure rfl)) ?_
          refine Run.q (v := .bool (decide ((ix xs ((k - 1))) ≥ (ix xs (k))))) rfl (OpQ.y (OpY.pure rfl)) ?_
          refine Run.done ?_
          refine Run.cond (b := decide ((ix xs ((k - 1))) ≥ (ix xs (k)))) rfl (fun h33 => ?_) (fun h33 => ?_)
          · have p33 := h33; try simp only [decide_eq_true_eq, decide_eq_false_iff_not, beq_iff_eq, bne_iff_ne, beq_eq_false_iff_ne, ne_eq, gt_iff_lt, ge_iff_le, Int.not_lt, Int.not_le, bne_eq_false_iff_eq, Bool.not_eq_true', Bool.not_eq_false', Bool.and_eq_true, Bool.and_eq_false_iff, Bool.or_eq_true, Bool.or_eq_false_iff, Decidable.not_not, List.cons.injEq, and_true] at p33
            refine Run.seq ?_
            have hres : allI (rsAt lo hi xs) n = false := by
              refine allI_false hltk ?_
              simp only [rsAt, Bool.and_eq_false_iff, decide_eq_false_iff_not]
              simp_all <;> omega
            refine Run.region ?_
            refine Run.q (v := .bool false) rfl (OpQ.y (OpY.pure rfl)) ?_
            refine Run.done ?_
            refine Run.ret ?_
            refine ⟨.bool false, [], Out.one rfl rfl, (Some'.weak (.nil _)), ?_⟩
            show _ = _; rw [hres]
          · have p33 := h33; try simp only [decide_eq_true_eq, decide_eq_false_iff_not, beq_iff_eq, bne_iff_ne, beq_eq_false_iff_ne, ne_eq, gt_iff_lt, ge_iff_le, Int.not_lt, Int.not_le, bne_eq_false_iff_eq, Bool.not_eq_true', Bool.not_eq_false', Bool.and_eq_true, Bool.and_eq_false_iff, Bool.or_eq_true, Bool.or_eq_false_iff, Decidable.not_not, List.cons.injEq, and_true] at p33
            refine Run.skip ?_
            refine Run.blockEnd ?_
            have hgood : rsAt lo hi xs k = true := by
              simp only [rsAt, Bool.and_eq_true, decide_eq_true_eq]
              refine ⟨?_, ?_⟩ <;> simp_all <;> omega
            refine Run.region ?_
            refine Run.q (v := .int .i64 ((((k : Nat) : Int)) + 1)) rfl (OpQ.y (OpY.add rfl rfl rfl (by omega) (by omega))) ?_
            refine Run.q (v := .int .i64 ((((k : Nat) : Int)) + 1)) rfl (OpQ.y (OpY.pure rfl)) ?_
            refine Run.done ?_
            refine Run.goal ⟨(by repeat (first | exact Same.refl _ _ | refine Same.put rfl ?_ | refine Same.over rfl rfl ?_)), k + 1, ?_, ?_, ?_, ?_⟩
            · refine ⟨by omega, ?_⟩
              intro i hi
              rcases Nat.lt_succ_iff_lt_or_eq.1 hi with h | h
              · exact hinv.2 i h
              · rw [h]; exact hgood
            · omega
            · exact ⟨(by first | rfl | (congr 1; omega) | simp), trivial⟩
            · exact (Some'.weak (.nil _))
        · refine Run.q (v := .bool false) rfl (OpQ.y (OpY.moveB rfl h24)) ?_
          have p24 := h24; try simp only [decide_eq_true_eq, decide_eq_false_iff_not, beq_iff_eq, bne_iff_ne, beq_eq_false_iff_ne, ne_eq, gt_iff_lt, ge_iff_le, Int.not_lt, Int.not_le, bne_eq_false_iff_eq, Bool.not_eq_true', Bool.not_eq_false', Bool.and_eq_true, Bool.and_eq_false_iff, Bool.or_eq_true, Bool.or_eq_false_iff, Decidable.not_not, List.cons.injEq, and_true] at p24
          refine Run.pass rfl ?_
          refine Run.pass rfl ?_
          refine Run.pass rfl ?_
          refine Run.pass rfl ?_
          refine Run.pass rfl ?_
          refine Run.pass rfl ?_
          refine Run.pass rfl ?_
          refine Run.q (v := .bool false) rfl (OpQ.y (OpY.pure rfl)) ?_
          refine Run.q (v := .bool false) rfl (OpQ.y (OpY.pure rfl)) ?_
          refine Run.done ?_
          refine Run.cond (b := false) rfl (fun h => nomatch h) (fun _ => ?_)
          refine Run.skip ?_
          refine Run.blockEnd ?_
          have hgood : rsAt lo hi xs k = true := by
            simp only [rsAt, Bool.and_eq_true, decide_eq_true_eq]
            refine ⟨?_, ?_⟩ <;> simp_all <;> omega
          refine Run.region ?_
          refine Run.q (v := .int .i64 ((((k : Nat) : Int)) + 1)) rfl (OpQ.y (OpY.add rfl rfl rfl (by omega) (by omega))) ?_
          refine Run.q (v := .int .i64 ((((k : Nat) : Int)) + 1)) rfl (OpQ.y (OpY.pure rfl)) ?_
          refine Run.done ?_
          refine Run.goal ⟨(by repeat (first | exact Same.refl _ _ | refine Same.put rfl ?_ | refine Same.over rfl rfl ?_)), k + 1, ?_, ?_, ?_, ?_⟩
          · refine ⟨by omega, ?_⟩
            intro i hi
            rcases Nat.lt_succ_iff_lt_or_eq.1 hi with h | h
            · exact hinv.2 i h
            · rw [h]; exact hgood
          · omega
          · exact ⟨(by first | rfl | (congr 1; omega) | simp), trivial⟩
          · exact (Some'.weak (.nil _))
    · have p12 := h12; try simp only [decide_eq_true_eq, decide_eq_false_iff_not, beq_iff_eq, bne_iff_ne, beq_eq_false_iff_ne, ne_eq, gt_iff_lt, ge_iff_le, Int.not_lt, Int.not_le, bne_eq_false_iff_eq, Bool.not_eq_true', Bool.not_eq_false', Bool.and_eq_true, Bool.and_eq_false_iff, Bool.or_eq_true, Bool.or_eq_false_iff, Decidable.not_not, List.cons.injEq, and_true] at p12
      have hknk : k = n := by omega
      have hres : allI (rsAt lo hi xs) n = true := allI_iff.2 (by rw [← hknk]; exact hinv.2)
      refine Run.exit rfl ?_
      refine Run.seq ?_
      refine Run.region ?_
      refine Run.q (v := .bool true) rfl (OpQ.y (OpY.pure rfl)) ?_
      refine Run.done ?_
      refine Run.ret ?_
      refine ⟨.bool true, [], Out.one rfl rfl, (Some'.weak (.nil _)), ?_⟩
      show _ = _; rw [hres]

set_option maxHeartbeats 1000000 in
set_option maxRecDepth 20000 in
theorem l14Masks_spec {n : Nat} {vm : Value} {mn : Nat} {ms : List Int} {w : World} (hms : Sl w vm 1 mn (ints ms)) : Calls Try.prog 83 #[.int .i64 (n : Int), vm] w (Post No w fun v _ => v = .bool (mskOk n ms mn)) := by
  refine enter (n := 15) (args := [.int .i64 (((n : Nat) : Int)), vm]) Try.func83 rfl rfl (St.empty _ _) ?_
  refine Run.seq ?_
  refine Run.region ?_
  refine Run.q (v := .bool false) rfl (OpQ.y (OpY.pure rfl)) ?_
  refine Run.done ?_
  refine Run.seq ?_
  refine Run.region ?_
  refine Run.q (v := .int .i64 (((n : Nat) : Int))) rfl (OpQ.y (OpY.pure rfl)) ?_
  refine Run.q (v := .bool (within (n : Int) 1 5)) rfl (OpQ.call (vs := [.int .i64 (((n : Nat) : Int)), .int .i64 1, .int .i64 5]) (caps := []) Tcall_100 rfl rfl (fun w hs => l1In_spec _ _ _ w)) ?_
  rcases Bool.eq_false_or_eq_true (within (n : Int) 1 5) with h7 | h7
  · refine Run.q (v := .bool true) rfl (OpQ.y (OpY.moveB rfl h7)) ?_
    have p7 := h7; try simp only [decide_eq_true_eq, decide_eq_false_iff_not, beq_iff_eq, bne_iff_ne, beq_eq_false_iff_ne, ne_eq, gt_iff_lt, ge_iff_le, Int.not_lt, Int.not_le, bne_eq_false_iff_eq, Bool.not_eq_true', Bool.not_eq_false', Bool.and_eq_true, Bool.and_eq_false_iff, Bool.or_eq_true, Bool.or_eq_false_iff, Decidable.not_not, List.cons.injEq, and_true] at p7
    have hw : within (n : Int) 1 5 = true := by simpa using h7
    obtain ⟨q, hq, hq32⟩ := mask_pow hw
    have hn5 := within_iff.1 hw
    refine Run.q (v := vm) rfl (OpQ.y (OpY.pure rfl)) ?_
    refine Run.q (v := .int .i64 (((n : Nat) : Int))) rfl (OpQ.y (OpY.pure rfl)) ?_
    refine Run.q (v := .int .u64 (((n : Nat) : Int))) rfl (OpQ.y (OpY.convIntEq Tsome_3 Tint_96 rfl (by rw [IntKind.wrap_u64]; omega))) ?_
    refine Run.q (v := .int .i64 (((q : Nat) : Int))) rfl (OpQ.y (OpY.shlOne rfl rfl rfl (by omega) hq)) ?_
    refine Run.q (v := .int .i64 ((((q : Nat) : Int)) - 1)) rfl (OpQ.y (OpY.sub rfl rfl rfl (by omega) (by omega))) ?_
    refine Run.q (v := .bool (allI (rsAt 1 (((q : Nat) : Int) - 1) ms) mn)) rfl (OpQ.call (vs := [vm, .int .i64 1, .int .i64 ((((q : Nat) : Int)) - 1)]) (caps := []) Tcall_121 rfl rfl (fun w hs => l1Rising_spec (hs.sl hms))) ?_
    refine Run.q (v := .bool (allI (rsAt 1 (((q : Nat) : Int) - 1) ms) mn)) rfl (OpQ.y (OpY.pure rfl)) ?_
    refine Run.q (v := .bool (allI (rsAt 1 (((q : Nat) : Int) - 1) ms) mn)) rfl (OpQ.y (OpY.pure rfl)) ?_
    refine Run.done ?_
    refine Run.ret ?_
    refine ⟨.bool (allI (rsAt 1 (((q : Nat) : Int) - 1) ms) mn), [], Out.one rfl rfl, (Some'.weak (.nil _)), ?_⟩
    show _ = _; simp only [mskOk]; first | (rw [hw, Bool.true_and, hq]; rfl) | simp_all
  · refine Run.q (v := .bool false) rfl (OpQ.y (OpY.moveB rfl h7)) ?_
    have p7 := h7; try simp only [decide_eq_true_eq, decide_eq_false_iff_not, beq_iff_eq, bne_iff_ne, beq_eq_false_iff_ne, ne_eq, gt_iff_lt, ge_iff_le, Int.not_lt, Int.not_le, bne_eq_false_iff_eq, Bool.not_eq_true', Bool.not_eq_false', Bool.and_eq_true, Bool.and_eq_false_iff, Bool.or_eq_true, Bool.or_eq_false_iff, Decidable.not_not, List.cons.injEq, and_true] at p7
    refine Run.pass rfl ?_
    refine Run.pass rfl ?_
    refine Run.pass rfl ?_
    refine Run.pass rfl ?_
    refine Run.pass rfl ?_
    refine Run.pass rfl ?_
    refine Run.q (v := .bool false) rfl (OpQ.y (OpY.pure rfl)) ?_
    refine Run.q (v := .bool false) rfl (OpQ.y (OpY.pure rfl)) ?_
    refine Run.done ?_
    refine Run.ret ?_
    refine ⟨.bool false, [], Out.one rfl rfl, (Some'.weak (.nil _)), ?_⟩
    show _ = _; simp only [mskOk]; first | (rw [hw, Bool.true_and, hq]; rfl) | simp_all

set_option maxHeartbeats 1000000 in
set_option maxRecDepth 20000 in
theorem areMasks_spec {n : Nat} {vm : Value} {mn : Nat} {ms : List Int} {w : World} (hms : Sl w vm 1 mn (ints ms)) : Calls Try.prog 57 #[.int .i64 (n : Int), vm] w (Post No w fun v _ => v = .bool (mskOk n ms mn)) := by
  have hml0 := hms.len
  have hmn := hms.le
  obtain ⟨Am, cm, rfl, _, _⟩ := hms.form0
  refine enter (n := 37) (args := [.int .i64 (((n : Nat) : Int)), .slice Am mn cm]) Try.func57 rfl rfl (St.empty _ _) ?_
  refine Run.seq ?_
  refine Run.region ?_
  refine Run.q (v := .bool false) rfl (OpQ.y (OpY.pure rfl)) ?_
  refine Run.done ?_
  refine Run.seq ?_
  refine Run.seq ?_
  refine Run.region ?_
  refine Run.q (v := .int .i64 (((n : Nat) : Int))) rfl (OpQ.y (OpY.pure rfl)) ?_
  refine Run.q (v := .bool (within (n : Int) 1 5)) rfl (OpQ.call (vs := [.int .i64 (((n : Nat) : Int)), .int .i64 1, .int .i64 5]) (caps := []) Tcall_73 rfl rfl (fun w hs => within_spec _ _ _ w)) ?_
  refine Run.q (v := .bool (!(within (n : Int) 1 5))) rfl (OpQ.y (OpY.pure rfl)) ?_
  refine Run.done ?_
  refine Run.cond (b := !(within (n : Int) 1 5)) rfl (fun h9 => ?_) (fun h9 => ?_)
  · have p9 := h9; try simp only [decide_eq_true_eq, decide_eq_false_iff_not, beq_iff_eq, bne_iff_ne, beq_eq_false_iff_ne, ne_eq, gt_iff_lt, ge_iff_le, Int.not_lt, Int.not_le, bne_eq_false_iff_eq, Bool.not_eq_true', Bool.not_eq_false', Bool.and_eq_true, Bool.and_eq_false_iff, Bool.or_eq_true, Bool.or_eq_false_iff, Decidable.not_not, List.cons.injEq, and_true] at p9
    have hres : mskOk n ms mn = false := by
      have hw : within (n : Int) 1 5 = false := by simpa using h9
      rw [mskOk, hw, Bool.false_and]
    refine Run.seq ?_
    refine Run.region ?_
    refine Run.q (v := .bool false) rfl (OpQ.y (OpY.pure rfl)) ?_
    refine Run.done ?_
    refine Run.ret ?_
    refine ⟨.bool false, [], Out.one rfl rfl, (Some'.weak (.nil _)), ?_⟩
    show _ = _; first | (rw [hres]; done) | (rw [hres]) | simp_all [mskOk]
  · have p9 := h9; try simp only [decide_eq_true_eq, decide_eq_false_iff_not, beq_iff_eq, bne_iff_ne, beq_eq_false_iff_ne, ne_eq, gt_iff_lt, ge_iff_le, Int.not_lt, Int.not_le, bne_eq_false_iff_eq, Bool.not_eq_true', Bool.not_eq_false', Bool.and_eq_true, Bool.and_eq_false_iff, Bool.or_eq_true, Bool.or_eq_false_iff, Decidable.not_not, List.cons.injEq, and_true] at p9
    have hw : within (n : Int) 1 5 = true := by simpa using h9
    obtain ⟨q, hq, hq32⟩ := mask_pow hw
    have hn5 := within_iff.1 hw
    refine Run.skip ?_
    refine Run.seq ?_
    refine Run.seq ?_
    refine Run.region ?_
    refine Run.q (v := .slice Am mn cm) rfl (OpQ.y (OpY.pure rfl)) ?_
    refine Run.q (v := .int .i64 (((mn : Nat) : Int))) rfl (OpQ.y (OpY.len Tsl_22 rfl)) ?_
    refine Run.q (v := .int .i64 0) rfl (OpQ.y (OpY.pure rfl)) ?_
    refine Run.done ?_
    refine Run.block ?_
    refine Run.loop (ι := Nat) [4, 5, 6, 12, 13, 14, 15, 16, 17, 18, 19, 20, 21, 22, 23, 24, 25, 26, 27, 28, 29, 30, 31, 32, 33, 34, 35, 36] (fun k => [(12, .int .i64 (((k : Nat) : Int)))]) (fun k => []) (fun k => k ≤ mn ∧ (∀ i, i < k → mskAt n ms i = true)) (fun k => mn - k) 0 ?_ ?_ ?_ ?_
    · exact ⟨Nat.zero_le _, by first | trivial | (intro i hi; omega)⟩
    · exact ⟨rfl, trivial⟩
    · exact (Some'.weak (.nil _))
    · rintro k fr hinv
      show Run _ _ (over _ _ [(12, .int .i64 (((k : Nat) : Int)))] fr) []
      try dsimp only at hinv
      refine Run.seq ?_
      refine Run.region ?_
      refine Run.q (v := .bool (decide ((((k : Nat) : Int)) < (((mn : Nat) : Int))))) rfl (OpQ.y (OpY.pure rfl)) ?_
      refine Run.done ?_
      refine Run.seq ?_
      refine Run.cond (b := decide ((((k : Nat) : Int)) < (((mn : Nat) : Int)))) rfl (fun h13 => ?_) (fun h13 => ?_)
      · have p13 := h13; try simp only [decide_eq_true_eq, decide_eq_false_iff_not, beq_iff_eq, bne_iff_ne, beq_eq_false_iff_ne, ne_eq, gt_iff_lt, ge_iff_le, Int.not_lt, Int.not_le, bne_eq_false_iff_eq, Bool.not_eq_true', Bool.not_eq_false', Bool.and_eq_true, Bool.and_eq_false_iff, Bool.or_eq_true, Bool.or_eq_false_iff, Decidable.not_not, List.cons.injEq, and_true] at p13
        have hltk : k < mn := by omega
        obtain ⟨b, o, rfl⟩ := hms.opn (by omega)
        refine Run.skip ?_
        refine Run.seq ?_
        refine Run.block ?_
        refine Run.seq ?_
        refine Run.region ?_
        refine Run.q (v := .int .i64 (((k : Nat) : Int))) rfl (OpQ.y (OpY.pure rfl)) ?_
        refine Run.q (v := .pointer (some ⟨b, o + k, none⟩)) rfl (OpQ.y (OpY.index (kk := k) Tsl_22 rfl rfl (by omega) (by omega) (by first | rfl | omega))) ?_
        refine Run.q (v := .int .i64 (ix ms (k))) rfl (OpQ.y (OpY.load1 Tone_3 rfl (Cells.arg (k := k) hms rfl (by omega) (pre1 (by omega))))) ?_
        refine Run.q (v := .int .i64 (((k : Nat) : Int))) rfl (OpQ.y (OpY.pure rfl)) ?_
        refine Run.q (v := .int .i64 (ix ms (k))) rfl (OpQ.y (OpY.pure rfl)) ?_
        refine Run.done ?_
        refine Run.seq ?_
        refine Run.region ?_
        refine Run.q (v := .int .i64 (ix ms (k))) rfl (OpQ.y (OpY.pure rfl)) ?_
        refine Run.q (v := .int .i64 (((n : Nat) : Int))) rfl (OpQ.y (OpY.pure rfl)) ?_
        refine Run.q (v := .int .i64 (((q : Nat) : Int))) rfl (OpQ.y (OpY.shlOne rfl rfl rfl (by omega) hq)) ?_
        refine Run.q (v := .int .i64 ((((q : Nat) : Int)) - 1)) rfl (OpQ.y (OpY.sub rfl rfl rfl (by omega) (by omega))) ?_
        refine Run.q (v := .bool (within (ix ms k) 1 (((q : Nat) : Int) - 1))) rfl (OpQ.call (vs := [.int .i64 (ix ms (k)), .int .i64 1, .int .i64 ((((q : Nat) : Int)) - 1)]) (caps := []) Tcall_73 rfl rfl (fun w hs => within_spec _ _ _ w)) ?_
        refine Run.q (v := .bool (!(within (ix ms k) 1 (((q : Nat) : Int) - 1)))) rfl (OpQ.y (OpY.pure rfl)) ?_
        rcases Bool.eq_false_or_eq_true (!(within (ix ms k) 1 (((q : Nat) : Int) - 1))) with h23 | h23
        · refine Run.q (v := .bool true) rfl (OpQ.y (OpY.moveB rfl h23)) ?_
          have p23 := h23; try simp only [decide_eq_true_eq, decide_eq_false_iff_not, beq_iff_eq, bne_iff_ne, beq_eq_false_iff_ne, ne_eq, gt_iff_lt, ge_iff_le, Int.not_lt, Int.not_le, bne_eq_false_iff_eq, Bool.not_eq_true', Bool.not_eq_false', Bool.and_eq_true, Bool.and_eq_false_iff, Bool.or_eq_true, Bool.or_eq_false_iff, Decidable.not_not, List.cons.injEq, and_true] at p23
          refine Run.pass rfl ?_
          refine Run.pass rfl ?_
          refine Run.pass rfl ?_
          refine Run.pass rfl ?_
          refine Run.pass rfl ?_
          refine Run.pass rfl ?_
          refine Run.pass rfl ?_
          refine Run.pass rfl ?_
          refine Run.pass rfl ?_
          refine Run.pass rfl ?_
          refine Run.pass rfl ?_
          refine Run.q (v := .bool true) rfl (OpQ.y (OpY.pure rfl)) ?_
          refine Run.done ?_
          refine Run.cond (b := true) rfl (fun _ => ?_) (fun h => nomatch h)
          refine Run.seq ?_
          have hres : mskOk n ms mn = false := by
            rw [mskOk, hw, Bool.true_and]
            refine allI_false hltk ?_
            simp only [mskAt, ← hq, Bool.and_eq_false_iff, decide_eq_false_iff_not]
            simp_all <;> omega
          refine Run.region ?_
          refine Run.q (v := .bool false) rfl (OpQ.y (OpY.pure rfl)) ?_
          refine Run.done ?_
          refine Run.ret ?_
          refine ⟨.bool false, [], Out.one rfl rfl, (Some'.weak (.nil _)), ?_⟩
          show _ = _; first | (rw [hres]; done) | (rw [hres]) | simp_all [mskOk]
        · refine Run.q (v := .bool false) rfl (OpQ.y (OpY.moveB rfl h23)) ?_
          have p23 := h23; try simp only [decide_eq_true_eq, decide_eq_false_iff_not, beq_iff_eq, bne_iff_ne, beq_eq_false_iff_ne, ne_eq, gt_iff_lt, ge_iff_le, Int.not_lt, Int.not_le, bne_eq_false_iff_eq, Bool.not_eq_true', Bool.not_eq_false', Bool.and_eq_true, Bool.and_eq_false_iff, Bool.or_eq_true, Bool.or_eq_false_iff, Decidable.not_not, List.cons.injEq, and_true] at p23
          refine Run.q (v := .int .i64 (((k : Nat) : Int))) rfl (OpQ.y (OpY.pure rfl)) ?_
          refine Run.q (v := .bool (decide ((((k : Nat) : Int)) > 0))) rfl (OpQ.y (OpY.pure rfl)) ?_
          rcases Bool.eq_false_or_eq_true (decide ((((k : Nat) : Int)) > 0)) with h26 | h26
          · refine Run.q (v := .bool true) rfl (OpQ.y (OpY.moveB rfl h26)) ?_
            have p26 := h26; try simp only [decide_eq_true_eq, decide_eq_false_iff_not, beq_iff_eq, bne_iff_ne, beq_eq_false_iff_ne, ne_eq, gt_iff_lt, ge_iff_le, Int.not_lt, Int.not_le, bne_eq_false_iff_eq, Bool.not_eq_true', Bool.not_eq_false', Bool.and_eq_true, Bool.and_eq_false_iff, Bool.or_eq_true, Bool.or_eq_false_iff, Decidable.not_not, List.cons.injEq, and_true] at p26
            refine Run.q (v := .slice (some ⟨b, o, none⟩) mn cm) rfl (OpQ.y (OpY.pure rfl)) ?_
            refine Run.q (v := .int .i64 (((k : Nat) : Int))) rfl (OpQ.y (OpY.pure rfl)) ?_
            refine Run.q (v := .int .i64 ((((k : Nat) : Int)) - 1)) rfl (OpQ.y (OpY.sub rfl rfl rfl (by omega) (by omega))) ?_
            refine Run.q (v := .pointer (some ⟨b, o + (k - 1), none⟩)) rfl (OpQ.y (OpY.index (kk := (k - 1)) Tsl_22 rfl rfl (by omega) (by omega) (by first | rfl | omega))) ?_
            refine Run.q (v := .int .i64 (ix ms ((k - 1)))) rfl (OpQ.y (OpY.load1 Tone_3 rfl (Cells.arg (k := (k - 1)) hms rfl (by omega) (pre1 (by omega))))) ?_
            refine Run.q (v := .int .i64 (ix ms (k))) rfl (OpQ.y (OpY.pure rfl)) ?_
            refine Run.q (v := .bool (decide ((ix ms ((k - 1))) ≥ (ix ms (k))))) rfl (OpQ.y (OpY.pure rfl)) ?_
            refine Run.q (v := .bool (decide ((ix ms ((k - 1))) ≥ (ix ms (k))))) rfl (OpQ.y (OpY.pure rfl)) ?_
            refine Run.q (v := .bool (decide ((ix ms ((k - 1))) ≥ (ix ms (k))))) rfl (OpQ.y (OpY.pure rfl)) ?_
            refine Run.done ?_
            refine Run.cond (b := decide ((ix ms ((k - 1))) ≥ (ix ms (k)))) rfl (fun h35 => ?_) (fun h35 => ?_)
            · have p35 := h35; try simp only [decide_eq_true_eq, decide_eq_false_iff_not, beq_iff_eq, bne_iff_ne, beq_eq_false_iff_ne, ne_eq, gt_iff_lt, ge_iff_le, Int.not_lt, Int.not_le, bne_eq_false_iff_eq, Bool.not_eq_true', Bool.not_eq_false', Bool.and_eq_true, Bool.and_eq_false_iff, Bool.or_eq_true, Bool.or_eq_false_iff, Decidable.not_not, List.cons.injEq, and_true] at p35
              refine Run.seq ?_
              have hres : mskOk n ms mn = false := by
                rw [mskOk, hw, Bool.true_and]
                refine allI_false hltk ?_
                simp only [mskAt, ← hq, Bool.and_eq_false_iff, decide_eq_false_iff_not]
                simp_all <;> omega
              refine Run.region ?_
              refine Run.q (v := .bool false) rfl (OpQ.y (OpY.pure rfl)) ?_
              refine Run.done ?_
              refine Run.ret ?_
              refine ⟨.bool false, [], Out.one rfl rfl, (Some'.weak (.nil _)), ?_⟩
              show _ = _; first | (rw [hres]; done) | (rw [hres]) | simp_all [mskOk]
            · have p35 := h35; try simp only [decide_eq_true_eq, decide_eq_false_iff_not, beq_iff_eq, bne_iff_ne, beq_eq_false_iff_ne, ne_eq, gt_iff_lt, ge_iff_le, Int.not_lt, Int.not_le, bne_eq_false_iff_eq, Bool.not_eq_true', Bool.not_eq_false', Bool.and_eq_true, Bool.and_eq_false_iff, Bool.or_eq_true, Bool.or_eq_false_iff, Decidable.not_not, List.cons.injEq, and_true] at p35
              refine Run.skip ?_
              refine Run.blockEnd ?_
              have hgood : mskAt n ms k = true := by
                simp only [mskAt, ← hq, Bool.and_eq_true, decide_eq_true_eq]
                refine ⟨?_, ?_⟩ <;> simp_all <;> omega
              refine Run.region ?_
              refine Run.q (v := .int .i64 ((((k : Nat) : Int)) + 1)) rfl (OpQ.y (OpY.add rfl rfl rfl (by omega) (by omega))) ?_
              refine Run.q (v := .int .i64 ((((k : Nat) : Int)) + 1)) rfl (OpQ.y (OpY.pure rfl)) ?_
              refine Run.done ?_
              refine Run.goal ⟨(by repeat (first | exact Same.refl _ _ | refine Same.put rfl ?_ | refine Same.over rfl rfl ?_)), k + 1, ?_, ?_, ?_, ?_⟩
              · refine ⟨by omega, ?_⟩
                intro i hi
                rcases Nat.lt_succ_iff_lt_or_eq.1 hi with h | h
                · exact hinv.2 i h
                · rw [h]; exact hgood
              · omega
              · exact ⟨(by first | rfl | (congr 1; omega) | simp), trivial⟩
              · exact (Some'.weak (.nil _))
          · refine Run.q (v := .bool false) rfl (OpQ.y (OpY.moveB rfl h26)) ?_
            have p26 := h26; try simp only [decide_eq_true_eq, decide_eq_false_iff_not, beq_iff_eq, bne_iff_ne, beq_eq_false_iff_ne, ne_eq, gt_iff_lt, ge_iff_le, Int.not_lt, Int.not_le, bne_eq_false_iff_eq, Bool.not_eq_true', Bool.not_eq_false', Bool.and_eq_true, Bool.and_eq_false_iff, Bool.or_eq_true, Bool.or_eq_false_iff, Decidable.not_not, List.cons.injEq, and_true] at p26
            refine Run.pass rfl ?_
            refine Run.pass rfl ?_
            refine Run.pass rfl ?_
            refine Run.pass rfl ?_
            refine Run.pass rfl ?_
            refine Run.pass rfl ?_
            refine Run.pass rfl ?_
            refine Run.q (v := .bool false) rfl (OpQ.y (OpY.pure rfl)) ?_
            refine Run.q (v := .bool false) rfl (OpQ.y (OpY.pure rfl)) ?_
            refine Run.done ?_
            refine Run.cond (b := false) rfl (fun h => nomatch h) (fun _ => ?_)
            refine Run.skip ?_
            refine Run.blockEnd ?_
            have hgood : mskAt n ms k = true := by
              simp only [mskAt, ← hq, Bool.and_eq_true, decide_eq_true_eq]
              refine ⟨?_, ?_⟩ <;> simp_all <;> omega
            refine Run.region ?_
            refine Run.q (v := .int .i64 ((((k : Nat) : Int)) + 1)) rfl (OpQ.y (OpY.add rfl rfl rfl (by omega) (by omega))) ?_
            refine Run.q (v := .int .i64 ((((k : Nat) : Int)) + 1)) rfl (OpQ.y (OpY.pure rfl)) ?_
            refine Run.done ?_
            refine Run.goal ⟨(by repeat (first | exact Same.refl _ _ | refine Same.put rfl ?_ | refine Same.over rfl rfl ?_)), k + 1, ?_, ?_, ?_, ?_⟩
            · refine ⟨by omega, ?_⟩
              intro i hi
              rcases Nat.lt_succ_iff_lt_or_eq.1 hi with h | h
              · exact hinv.2 i h
              · rw [h]; exact hgood
            · omega
            · exact ⟨(by first | rfl | (congr 1; omega) | simp), trivial⟩
            · exact (Some'.weak (.nil _))
      · have p13 := h13; try simp only [decide_eq_true_eq, decide_eq_false_iff_not, beq_iff_eq, bne_iff_ne, beq_eq_false_iff_ne, ne_eq, gt_iff_lt, ge_iff_le, Int.not_lt, Int.not_le, bne_eq_false_iff_eq, Bool.not_eq_true', Bool.not_eq_false', Bool.and_eq_true, Bool.and_eq_false_iff, Bool.or_eq_true, Bool.or_eq_false_iff, Decidable.not_not, List.cons.injEq, and_true] at p13
        have hknk : k = mn := by omega
        have hres : mskOk n ms mn = true := by rw [mskOk, hw, Bool.true_and]; exact allI_iff.2 (by rw [← hknk]; exact hinv.2)
        refine Run.exit rfl ?_
        refine Run.seq ?_
        refine Run.region ?_
        refine Run.q (v := .bool true) rfl (OpQ.y (OpY.pure rfl)) ?_
        refine Run.done ?_
        refine Run.ret ?_
        refine ⟨.bool true, [], Out.one rfl rfl, (Some'.weak (.nil _)), ?_⟩
        show _ = _; first | (rw [hres]; done) | (rw [hres]) | simp_all [mskOk]

end Go.Proofs.Yteehfidjofcfmaa
