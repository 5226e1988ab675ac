/- Walks: routings: placements that are swapped, gates that fit. -/
import Derived.Test.YtekikmdjldincaaQ5
import Derived.Test.YtekikmdjldincaaProg
import Derived.Test.YtekikmdjldincaaQ3
set_option linter.unusedSimpArgs false
set_option linter.unusedVariables false
namespace Go.Proofs.Ytekikmdjldincaa
open Go Go.RowKit
namespace GqT
theorem Tagg_35 : aggOf Try.prog 35 = some 2 := by kernel_rfl
theorem Tagg_39 : aggOf Try.prog 39 = some 2 := by kernel_rfl
theorem Tagg_81 : aggOf Try.prog 81 = some 3 := by kernel_rfl
theorem Tagg_87 : aggOf Try.prog 87 = some 6 := by kernel_rfl
theorem Tcall_54 : callable Try.prog 54 = true := by kernel_rfl
theorem Tcall_59 : callable Try.prog 59 = true := by kernel_rfl
theorem Tcall_64 : callable Try.prog 64 = true := by kernel_rfl
theorem Tcall_85 : callable Try.prog 85 = true := by kernel_rfl
theorem Tcall_90 : callable Try.prog 90 = true := by kernel_rfl
theorem Tcall_93 : callable Try.prog 93 = true := by kernel_rfl
theorem Tfo_39_1 : fieldOff Try.prog 39 1 = some 1 := by kernel_rfl
theorem Tfo_81_0 : fieldOff Try.prog 81 0 = some 0 := by kernel_rfl
theorem Tfo_81_1 : fieldOff Try.prog 81 1 = some 1 := by kernel_rfl
theorem Tfo_81_2 : fieldOff Try.prog 81 2 = some 2 := by kernel_rfl
theorem Tfo_87_0 : fieldOff Try.prog 87 0 = some 0 := by kernel_rfl
theorem Tfo_87_1 : fieldOff Try.prog 87 1 = some 2 := by kernel_rfl
theorem Tfo_87_2 : fieldOff Try.prog 87 2 = some 4 := by kernel_rfl
theorem Tone_28 : oneOf Try.prog 28 = true := by kernel_rfl
theorem Tone_3 : oneOf Try.prog 3 = true := by kernel_rfl
theorem Tone_37 : oneOf Try.prog 37 = true := by kernel_rfl
theorem Tsize_3 : (Try.prog.info? 3).map (·.size) = some 1 := by kernel_rfl
theorem Tsize_81 : (Try.prog.info? 81).map (·.size) = some 3 := by kernel_rfl
theorem Tsize_87 : (Try.prog.info? 87).map (·.size) = some 6 := by kernel_rfl
theorem Tsl_28 : sliceOf Try.prog 28 = some (3, 1, 8, [.int .i64 0]) := by kernel_rfl
theorem Tsl_37 : sliceOf Try.prog 37 = some (81, 3, 24, [.int .i64 0, .int .i64 0, .int .i64 0]) := by kernel_rfl
theorem Tsl_85 : sliceOf Try.prog 85 = some (4, 1, 1, [.bool false]) := by kernel_rfl
theorem Tzero_81 : zeroOf Try.prog 81 = some [.int .i64 0, .int .i64 0, .int .i64 0] := by kernel_rfl
theorem Tzero_87 : zeroOf Try.prog 87 = some [.int .i64 0, .slice none 0 0, .int .i64 0, .slice none 0 0, .slice none 0 0, .slice none 0 0] := by kernel_rfl
end GqT
open GqT
/-- The contents of nodes a and b are swapped. -/
def swI (a b x : Int) : Int := if x = a then b else if x = b then a else x
def swL (a b : Int) (ps : List Int) : List Int := ps.map (swI a b)
@[simp] theorem swL_length (a b : Int) (ps : List Int) : (swL a b ps).length = ps.length := by simp [swL]
theorem ix_swL {a b : Int} {ps : List Int} {i : Nat} (h : i < ps.length) : ix (swL a b ps) i = swI a b (ix ps i) := by simp [ix, swL, List.getD, h]
/-- .. as far as number k. -/
def prt (a b : Int) (k : Nat) (ps : List Int) : List Int := (List.range ps.length).map fun j : Nat => if j < k then swI a b (ix ps j) else ix ps j
@[simp] theorem prt_length (a b : Int) (k : Nat) (ps : List Int) : (prt a b k ps).length = ps.length := by simp [prt]
theorem ix_prt {a b : Int} {k j : Nat} {ps : List Int} (h : j < ps.length) : ix (prt a b k ps) j = if j < k then swI a b (ix ps j) else ix ps j := by simp [ix, prt, List.getD, h]
theorem prt_zero (a b : Int) (ps : List Int) : prt a b 0 ps = ps := list_ext_ix (by simp) fun j h => by
  rw [ix_prt (by simpa using h)]; simp
theorem prt_all {a b : Int} {k : Nat} {ps : List Int} (h : ps.length ≤ k) : prt a b k ps = swL a b ps := list_ext_ix (by simp) fun j hj => by
  simp only [prt_length] at hj
  rw [ix_prt hj, if_pos (by omega), ix_swL hj]
theorem prt_at {a b : Int} {k : Nat} {ps : List Int} (h : k < ps.length) : ix (prt a b k ps) k = ix ps k := by rw [ix_prt h]; simp
theorem prt_set {a b : Int} {k : Nat} {ps : List Int} {y : Int} (h : k < ps.length) (hy : swI a b (ix ps k) = y) : prt a b (k + 1) ps = (prt a b k ps).set k y := list_ext_ix (by simp) fun j hj => by
  simp only [prt_length] at hj
  rw [ix_prt hj, ix_set (by simpa using hj), ix_prt hj]
  by_cases e : k = j
  · subst e; simp [hy]
  · rw [if_neg e]
    by_cases h2 : j < k
    · rw [if_pos (by omega), if_pos h2]
    · rw [if_neg (by omega), if_neg h2]
theorem prt_keep {a b : Int} {k : Nat} {ps : List Int} (h : k < ps.length) (hy : swI a b (ix ps k) = ix ps k) : prt a b (k + 1) ps = prt a b k ps := list_ext_ix (by simp) fun j hj => by
  simp only [prt_length] at hj
  rw [ix_prt hj, ix_prt hj]
  by_cases e : k = j
  · subst e; simp [hy]
  · by_cases h2 : j < k
    · rw [if_pos (by omega), if_pos h2]
    · rw [if_neg (by omega), if_neg h2]
theorem swI_in {N a b x : Int} (ha : 0 ≤ a ∧ a < N) (hb : 0 ≤ b ∧ b < N) (hx : 0 ≤ x ∧ x < N) : 0 ≤ swI a b x ∧ swI a b x < N := by
  unfold swI; split
  · exact hb
  · split
    · exact ha
    · exact hx
theorem swI_inj {a b x y : Int} (h : swI a b x = swI a b y) : x = y := by
  unfold swI at h
  split at h <;> split at h <;> (try split at h) <;> (try split at h) <;> omega
/-- A placement, number by number. -/
theorem placeOk_iff {N : Int} {ps : List Int} {n : Nat} : placeOk N ps n = true ↔ (∀ i, i < n → 0 ≤ ix ps i ∧ ix ps i < N) ∧ ∀ i j, i < j → j < n → ix ps i ≠ ix ps j := by
  unfold placeOk
  rw [allI_iff]
  constructor
  · intro h
    refine ⟨fun i hi => ?_, fun i j hij hj e => ?_⟩
    · have := h i hi
      rw [Bool.and_eq_true] at this
      have := within_iff.1 this.1
      omega
    · have := h j hj
      rw [Bool.and_eq_true] at this
      have h2 : hasI ps (ix ps j) j = true := by unfold hasI; exact anyI_true hij (decide_eq_true e)
      rw [h2] at this; exact absurd this.2 (by decide)
  · rintro ⟨h1, h2⟩ i hi
    rw [Bool.and_eq_true]
    refine ⟨within_iff.2 (by have := h1 i hi; omega), ?_⟩
    cases hb : hasI ps (ix ps i) i with
    | false => rfl
    | true =>
      unfold hasI at hb
      obtain ⟨j, hj, e⟩ := anyI_iff.1 hb
      exact absurd (of_decide_eq_true e) (h2 j i hj hi)
theorem placeOk_swL {N a b : Int} {ps : List Int} {n : Nat} (hl : ps.length = n) (ha : 0 ≤ a ∧ a < N) (hb : 0 ≤ b ∧ b < N) (h : placeOk N ps n = true) : placeOk N (swL a b ps) n = true := by
  have h1 := placeOk_iff.1 h
  refine placeOk_iff.2 ⟨fun i hi => ?_, fun i j hij hj e => ?_⟩
  · rw [ix_swL (by omega)]; exact swI_in ha hb (h1.1 i hi)
  · rw [ix_swL (by omega), ix_swL (by omega)] at e
    exact h1.2 i j hij hj (swI_inj e)
/-- A gate can be executed. -/
def nearG (es : List Int) (m : Nat) (xs ps : List Int) (k : Nat) : Bool := !isTwoI (ix xs (k * 3)) || adj es m (ix ps (ix xs (k * 3 + 1)).toNat) (ix ps (ix xs (k * 3 + 2)).toNat)

set_option maxHeartbeats 1000000 in
set_option maxRecDepth 20000 in
theorem l23Near_spec {N k a b : Int} {vg vp : Value} {m pn : Nat} {es ps : List Int} {w : World} (hin : isTwoI k = true → 0 ≤ a ∧ a.toNat < pn ∧ 0 ≤ b ∧ b.toNat < pn) (hg : Sl w vg 2 m (ints es)) (hp : Sl w vp 1 pn (ints ps)) : Calls Try.prog 83 #[.agg #[.int .i64 N, vg], vp, .agg #[.int .i64 k, .int .i64 a, .int .i64 b]] w (Post No w fun v _ => v = .bool (!isTwoI k || adj es m (ix ps a.toNat) (ix ps b.toNat))) := by
  have hpl := hp.len
  obtain ⟨A, c, rfl, _, _⟩ := hp.form0
  refine enter (n := 24) (args := [.agg #[.int .i64 N, vg], .slice A pn c, .agg #[.int .i64 k, .int .i64 a, .int .i64 b]]) Try.func83 rfl rfl (St.empty _ _) ?_
  refine Run.seq ?_
  refine Run.region ?_
  refine Run.step rfl (OpStep.box (us := [.int .i64 N, vg]) rfl fun b1 => ?_)
  refine Run.step rfl (OpStep.box (us := [.int .i64 k, .int .i64 a, .int .i64 b]) rfl fun b2 => ?_)
  refine Run.q (v := .bool false) rfl (OpQ.y (OpY.pure rfl)) ?_
  refine Run.done ?_
  refine Run.seq ?_
  refine Run.draws (by kernel_rfl) (by kernel_rfl) ?_
  refine Lex.q (v := .agg #[.int .i64 k, .int .i64 a, .int .i64 b]) rfl (OpQ.y (OpY.loadN (cs := [.int .i64 k, .int .i64 a, .int .i64 b]) Tagg_81 rfl (Cells.blk (.head _) ⟨rfl, rfl, rfl, trivial⟩))) ?_
  refine Lex.q (v := .bool (decide (9 ≤ k ∧ k ≤ 11))) rfl (OpQ.call (vs := [.agg #[.int .i64 k, .int .i64 a, .int .i64 b]]) (caps := []) Tcall_59 rfl rfl (fun w hs => l22Two_spec _ _ _ w)) ?_
  refine Lex.q (v := .bool (!(decide (9 ≤ k ∧ k ≤ 11)))) rfl (OpQ.y (OpY.pure rfl)) ?_
  rcases Bool.eq_false_or_eq_true (!(decide (9 ≤ k ∧ k ≤ 11))) with h10 | h10
  · refine Lex.q (v := .bool true) rfl (OpQ.y (OpY.moveB rfl h10)) ?_
    have p10 := h10; try simp only [bs] at p10
    refine Lex.pass rfl ?_
    refine Lex.pass rfl ?_
    refine Lex.pass rfl ?_
    refine Lex.pass rfl ?_
    refine Lex.pass rfl ?_
    refine Lex.pass rfl ?_
    refine Lex.pass rfl ?_
    refine Lex.pass rfl ?_
    refine Lex.pass rfl ?_
    refine Lex.pass rfl ?_
    refine Lex.pass rfl ?_
    refine Lex.pass rfl ?_
    refine Lex.q (v := .bool true) rfl (OpQ.y (OpY.pure rfl)) ?_
    refine Lex.q (v := .bool true) rfl (OpQ.y (OpY.pure rfl)) ?_
    refine Lex.done ?_
    refine Run.ret ?_
    refine ⟨.bool true, [], Out.one rfl rfl, (Some'.weak (.nil _)), ?_⟩
    show _ = _; unfold isTwoI; rw [h10]; rfl
  · refine Lex.q (v := .bool false) rfl (OpQ.y (OpY.moveB rfl h10)) ?_
    have p10 := h10; try simp only [bs] at p10
    have h2 : isTwoI k = true := by simp_all [isTwoI]
    have hh := hin h2
    obtain ⟨bp, op, rfl⟩ := hp.opn (by omega)
    refine Lex.q (v := .agg #[.int .i64 N, vg]) rfl (OpQ.y (OpY.loadN (cs := [.int .i64 N, vg]) Tagg_35 rfl (Cells.blk (.tail _ (List.Mem.head _)) ⟨rfl, rfl, trivial⟩))) ?_
    refine Lex.q (v := .slice (some ⟨bp, op, none⟩) pn c) rfl (OpQ.y (OpY.pure rfl)) ?_
    refine Lex.q (v := .pointer (some ⟨b2, 1, none⟩)) rfl (OpQ.y (OpY.fieldAddr Tfo_81_1 rfl rfl)) ?_
    refine Lex.q (v := .int .i64 a) rfl (OpQ.y (OpY.load1 Tone_3 rfl (Cells.blk (.head _) ⟨rfl, trivial⟩))) ?_
    refine Lex.q (v := .pointer (some ⟨bp, op + a.toNat, none⟩)) rfl (OpQ.y (OpY.index (kk := a.toNat) Tsl_28 rfl rfl (by omega) (by omega) (by first | rfl | omega))) ?_
    refine Lex.q (v := .int .i64 (ix ps (a.toNat))) rfl (OpQ.y (OpY.load1 Tone_3 rfl (Cells.arg (k := a.toNat) hp rfl (by omega) (pre1 (by omega))))) ?_
    refine Lex.q (v := .slice (some ⟨bp, op, none⟩) pn c) rfl (OpQ.y (OpY.pure rfl)) ?_
    refine Lex.q (v := .pointer (some ⟨b2, 2, none⟩)) rfl (OpQ.y (OpY.fieldAddr Tfo_81_2 rfl rfl)) ?_
    refine Lex.q (v := .int .i64 b) rfl (OpQ.y (OpY.load1 Tone_3 rfl (Cells.blk (.head _) ⟨rfl, trivial⟩))) ?_
    refine Lex.q (v := .pointer (some ⟨bp, op + b.toNat, none⟩)) rfl (OpQ.y (OpY.index (kk := b.toNat) Tsl_28 rfl rfl (by omega) (by omega) (by first | rfl | omega))) ?_
    refine Lex.q (v := .int .i64 (ix ps (b.toNat))) rfl (OpQ.y (OpY.load1 Tone_3 rfl (Cells.arg (k := b.toNat) hp rfl (by omega) (pre1 (by omega))))) ?_
    refine Lex.q (v := .bool (adj es m (ix ps a.toNat) (ix ps b.toNat))) rfl (OpQ.call (vs := [.agg #[.int .i64 N, vg], .int .i64 (ix ps (a.toNat)), .int .i64 (ix ps (b.toNat))]) (caps := []) Tcall_93 rfl rfl (fun w hs => l22Edge_spec (hs.sl hg))) ?_
    refine Lex.q (v := .bool (adj es m (ix ps a.toNat) (ix ps b.toNat))) rfl (OpQ.y (OpY.pure rfl)) ?_
    refine Lex.q (v := .bool (adj es m (ix ps a.toNat) (ix ps b.toNat))) rfl (OpQ.y (OpY.pure rfl)) ?_
    refine Lex.done ?_
    refine Run.ret ?_
    refine ⟨.bool (adj es m (ix ps a.toNat) (ix ps b.toNat)), [], Out.one rfl rfl, (Some'.weak (.nil _)), ?_⟩
    show _ = _; unfold isTwoI; rw [h10]; rfl

set_option maxHeartbeats 1000000 in
set_option maxRecDepth 20000 in
theorem rswap_spec {N Q a b : Int} {vg vc vd : Value} {g pn cp : Nat} {ps : List Int} {w : World} (hpl : ps.length = pn) (h : (Res.own (.slice (some ⟨g, 0, none⟩) pn cp) 3 1 pn (ints ps)).holds w) : Calls Try.prog 78 #[.agg #[.int .i64 N, vg, .int .i64 Q, vc, .slice (some ⟨g, 0, none⟩) pn cp, vd], .int .i64 a, .int .i64 b] w (Post (Of [.own (.slice (some ⟨g, 0, none⟩) pn cp) 3 1 pn (ints ps)]) w fun v H => v = .tuple #[] ∧ H = [.own (.slice (some ⟨g, 0, none⟩) pn cp) 3 1 pn (ints (swL a b ps))]) := by
  have hnn : pn ≤ 9223372036854775807 := by
    have := (St.start1 h).slOwn (.head _)
    exact this.le
  refine enter (n := 34) (args := [.agg #[.int .i64 N, vg, .int .i64 Q, vc, .slice (some ⟨g, 0, none⟩) pn cp, vd], .int .i64 a, .int .i64 b]) Try.func78 rfl rfl (St.start1 h) ?_
  refine Run.seq ?_
  refine Run.region ?_
  refine Run.step rfl (OpStep.box (us := [.int .i64 N, vg, .int .i64 Q, vc, .slice (some ⟨g, 0, none⟩) pn cp, vd]) rfl fun b1 => ?_)
  refine Run.done ?_
  refine Run.seq ?_
  refine Run.region ?_
  refine Run.q (v := .pointer (some ⟨b1, 4, none⟩)) rfl (OpQ.y (OpY.fieldAddr Tfo_87_2 rfl rfl)) ?_
  refine Run.q (v := .slice (some ⟨g, 0, none⟩) pn cp) rfl (OpQ.y (OpY.load1 Tone_28 rfl (Cells.blk (.head _) ⟨rfl, trivial⟩))) ?_
  refine Run.q (v := .int .i64 (((pn : Nat) : Int))) rfl (OpQ.y (OpY.len Tsl_28 rfl)) ?_
  refine Run.q (v := .int .i64 0) rfl (OpQ.y (OpY.pure rfl)) ?_
  refine Run.done ?_
  refine Run.block ?_
  refine Run.loop (ι := Nat) [6, 7, 11, 12, 13, 14, 15, 16, 17, 18, 19, 20, 21, 22, 23, 24, 25, 26, 27, 28, 29, 30, 31, 32, 33] (fun k => [(11, .int .i64 (((k : Nat) : Int)))]) (fun k => [.blk b1 87 [.int .i64 N, vg, .int .i64 Q, vc, .slice (some ⟨g, 0, none⟩) pn cp, vd], .own (.slice (some ⟨g, 0, none⟩) pn cp) 3 1 pn (ints (prt a b k ps))]) (fun k => k ≤ pn) (fun k => pn - k) 0 ?_ ?_ ?_ ?_
  · exact Nat.zero_le _
  · exact ⟨rfl, trivial⟩
  · exact (Some'.weak (.take (.takeEq (by rw [prt_zero]) (.nil _))))
  · rintro k fr hinv
    show Run _ _ (over _ _ [(11, .int .i64 (((k : Nat) : Int)))] fr) [.blk b1 87 [.int .i64 N, vg, .int .i64 Q, vc, .slice (some ⟨g, 0, none⟩) pn cp, vd], .own (.slice (some ⟨g, 0, none⟩) pn cp) 3 1 pn (ints (prt a b k ps))]
    try dsimp only at hinv
    refine Run.seq ?_
    refine Run.region ?_
    refine Run.q (v := .bool (decide ((((k : Nat) : Int)) < (((pn : Nat) : Int))))) rfl (OpQ.y (OpY.pure rfl)) ?_
    refine Run.done ?_
    refine Run.seq ?_
    refine Run.cond (b := decide ((((k : Nat) : Int)) < (((pn : Nat) : Int)))) rfl (fun h12 => ?_) (fun h12 => ?_)
    · have p12 := h12; try simp only [bs] at p12
      have hkn : k < pn := by omega
      have hkl : k < ps.length := by omega
      have hpa := prt_at (a := a) (b := b) hkl
      refine Run.skip ?_
      refine Run.seq ?_
      refine Run.block ?_
      refine Run.seq ?_
      refine Run.region ?_
      refine Run.q (v := .int .i64 (((k : Nat) : Int))) rfl (OpQ.y (OpY.pure rfl)) ?_
      refine Run.q (v := .pointer (some ⟨g, k, none⟩)) rfl (OpQ.y (OpY.index (kk := k) Tsl_28 rfl rfl (by omega) (by omega) (by first | rfl | omega))) ?_
      refine Run.q (v := .int .i64 (ix (prt a b k ps) (k))) rfl (OpQ.y (OpY.load1 Tone_3 rfl (Cells.own0 (.tail _ (List.Mem.head _)) (pre1 (by first | omega | (simp only [prt_length]; omega)))))) ?_
      refine Run.q (v := .int .i64 (((k : Nat) : Int))) rfl (OpQ.y (OpY.pure rfl)) ?_
      refine Run.q (v := .int .i64 (ix (prt a b k ps) (k))) rfl (OpQ.y (OpY.pure rfl)) ?_
      refine Run.done ?_
      refine Run.seq ?_
      refine Run.region ?_
      refine Run.q (v := .int .i64 (ix (prt a b k ps) (k))) rfl (OpQ.y (OpY.pure rfl)) ?_
      refine Run.done ?_
      refine Run.block ?_
      refine Run.seq ?_
      refine Run.region ?_
      refine Run.q (v := .int .i64 a) rfl (OpQ.y (OpY.pure rfl)) ?_
      refine Run.q (v := .bool ((ix (prt a b k ps) (k)) == a)) rfl (OpQ.y (OpY.pure rfl)) ?_
      refine Run.q (v := .bool ((ix (prt a b k ps) (k)) == a)) rfl (OpQ.y (OpY.pure rfl)) ?_
      refine Run.done ?_
      refine Run.cond (b := (ix (prt a b k ps) (k)) == a) rfl (fun h17 => ?_) (fun h17 => ?_)
      · have p17 := h17; try simp only [bs] at p17
        refine Run.region ?_
        refine Run.q (v := .pointer (some ⟨b1, 4, none⟩)) rfl (OpQ.y (OpY.fieldAddr Tfo_87_2 rfl rfl)) ?_
        refine Run.q (v := .slice (some ⟨g, 0, none⟩) pn cp) rfl (OpQ.y (OpY.load1 Tone_28 rfl (Cells.blk (.head _) ⟨rfl, trivial⟩))) ?_
        refine Run.q (v := .int .i64 (((k : Nat) : Int))) rfl (OpQ.y (OpY.pure rfl)) ?_
        refine Run.q (v := .int .i64 b) rfl (OpQ.y (OpY.pure rfl)) ?_
        refine Run.q (v := .pointer (some ⟨g, k, none⟩)) rfl (OpQ.y (OpY.index (kk := k) Tsl_28 rfl rfl (by omega) (by omega) (by first | rfl | omega))) ?_
        refine Run.step rfl (OpStep.storeOwnInt (o := k) (a := b) Tsize_3 rfl rfl (.there _ (.here _)) (by first | omega | (simp only [prt_length]; omega)) ?_)
        refine Run.done ?_
        refine Run.blockEnd ?_
        refine Run.blockEnd ?_
        refine Run.region ?_
        refine Run.q (v := .int .i64 ((((k : Nat) : Int)) + 1)) rfl (OpQ.y (OpY.add rfl rfl rfl (by omega) (by omega))) ?_
        refine Run.q (v := .int .i64 ((((k : Nat) : Int)) + 1)) rfl (OpQ.y (OpY.pure rfl)) ?_
        refine Run.done ?_
        have hX : prt a b (k + 1) ps = ((prt a b k ps).set k b) := prt_set hkl (by unfold swI; first | (rw [if_pos (by omega)]; done) | (rw [if_neg (by omega), if_pos (by omega)]))
        refine Run.goal ⟨(by repeat (first | exact Same.refl _ _ | refine Same.put rfl ?_ | refine Same.over rfl rfl ?_)), k + 1, ?_, ?_, ?_, ?_⟩
        · omega
        · omega
        · exact ⟨(by first | rfl | (congr 1; omega) | simp), trivial⟩
        · exact (Some'.weak (.take (.takeEq (by first | rw [hX] | rfl) (.nil _))))
      · have p17 := h17; try simp only [bs] at p17
        refine Run.seq ?_
        refine Run.region ?_
        refine Run.q (v := .int .i64 b) rfl (OpQ.y (OpY.pure rfl)) ?_
        refine Run.q (v := .bool ((ix (prt a b k ps) (k)) == b)) rfl (OpQ.y (OpY.pure rfl)) ?_
        refine Run.q (v := .bool ((ix (prt a b k ps) (k)) == b)) rfl (OpQ.y (OpY.pure rfl)) ?_
        refine Run.done ?_
        refine Run.cond (b := (ix (prt a b k ps) (k)) == b) rfl (fun h25 => ?_) (fun h25 => ?_)
        · have p25 := h25; try simp only [bs] at p25
          refine Run.region ?_
          refine Run.q (v := .pointer (some ⟨b1, 4, none⟩)) rfl (OpQ.y (OpY.fieldAddr Tfo_87_2 rfl rfl)) ?_
          refine Run.q (v := .slice (some ⟨g, 0, none⟩) pn cp) rfl (OpQ.y (OpY.load1 Tone_28 rfl (Cells.blk (.head _) ⟨rfl, trivial⟩))) ?_
          refine Run.q (v := .int .i64 (((k : Nat) : Int))) rfl (OpQ.y (OpY.pure rfl)) ?_
          refine Run.q (v := .int .i64 a) rfl (OpQ.y (OpY.pure rfl)) ?_
          refine Run.q (v := .pointer (some ⟨g, k, none⟩)) rfl (OpQ.y (OpY.index (kk := k) Tsl_28 rfl rfl (by omega) (by omega) (by first | rfl | omega))) ?_
          refine Run.step rfl (OpStep.storeOwnInt (o := k) (a := a) Tsize_3 rfl rfl (.there _ (.here _)) (by first | omega | (simp only [prt_length]; omega)) ?_)
          refine Run.done ?_
          refine Run.blockEnd ?_
          refine Run.blockEnd ?_
          refine Run.region ?_
          refine Run.q (v := .int .i64 ((((k : Nat) : Int)) + 1)) rfl (OpQ.y (OpY.add rfl rfl rfl (by omega) (by omega))) ?_
          refine Run.q (v := .int .i64 ((((k : Nat) : Int)) + 1)) rfl (OpQ.y (OpY.pure rfl)) ?_
          refine Run.done ?_
          have hX : prt a b (k + 1) ps = ((prt a b k ps).set k a) := prt_set hkl (by unfold swI; first | (rw [if_pos (by omega)]; done) | (rw [if_neg (by omega), if_pos (by omega)]))
          refine Run.goal ⟨(by repeat (first | exact Same.refl _ _ | refine Same.put rfl ?_ | refine Same.over rfl rfl ?_)), k + 1, ?_, ?_, ?_, ?_⟩
          · omega
          · omega
          · exact ⟨(by first | rfl | (congr 1; omega) | simp), trivial⟩
          · exact (Some'.weak (.take (.takeEq (by first | rw [hX] | rfl) (.nil _))))
        · have p25 := h25; try simp only [bs] at p25
          refine Run.skip ?_
          refine Run.blockEnd ?_
          refine Run.blockEnd ?_
          refine Run.region ?_
          refine Run.q (v := .int .i64 ((((k : Nat) : Int)) + 1)) rfl (OpQ.y (OpY.add rfl rfl rfl (by omega) (by omega))) ?_
          refine Run.q (v := .int .i64 ((((k : Nat) : Int)) + 1)) rfl (OpQ.y (OpY.pure rfl)) ?_
          refine Run.done ?_
          have hX : prt a b (k + 1) ps = (prt a b k ps) := prt_keep hkl (by unfold swI; rw [if_neg (by omega), if_neg (by omega)])
          refine Run.goal ⟨(by repeat (first | exact Same.refl _ _ | refine Same.put rfl ?_ | refine Same.over rfl rfl ?_)), k + 1, ?_, ?_, ?_, ?_⟩
          · omega
          · omega
          · exact ⟨(by first | rfl | (congr 1; omega) | simp), trivial⟩
          · exact (Some'.weak (.take (.takeEq (by first | rw [hX] | rfl) (.nil _))))
    · have p12 := h12; try simp only [bs] at p12
      have hkn : k = pn := by omega
      have hall := prt_all (a := a) (b := b) (k := k) (ps := ps) (by omega)
      refine Run.exit rfl ?_
      refine Run.fin ?_
      refine ⟨.tuple #[], [.own (.slice (some ⟨g, 0, none⟩) pn cp) 3 1 pn (ints (swL a b ps))], Out.none rfl, (Some'.weak (.skip (.takeEq (by rw [hall]) (.nil _)))), ?_⟩
      exact ⟨rfl, rfl⟩

set_option maxHeartbeats 1000000 in
set_option maxRecDepth 20000 in
theorem l23Swap_spec {a b : Int} {vp : Value} {pn : Nat} {ps : List Int} {w : World} (hb5 : pn ≤ 1048576) (h0 : 0 < pn) (hp : Sl w vp 1 pn (ints ps)) : Calls Try.prog 67 #[vp, .int .i64 a, .int .i64 b] w (Post No w fun v H => H = [.own v 3 1 pn (ints (swL a b ps))]) := by
  have hpl : ps.length = pn := by have := hp.len; omega
  obtain ⟨A, c, rfl, _, _⟩ := hp.form0
  obtain ⟨bp, op, rfl⟩ := hp.opn h0
  refine enter (n := 36) (args := [.slice (some ⟨bp, op, none⟩) pn c, .int .i64 a, .int .i64 b]) Try.func67 rfl rfl (St.empty _ _) ?_
  refine Run.seq ?_
  refine Run.region ?_
  refine Run.q (v := .slice none 0 0) rfl (OpQ.y (OpY.pure rfl)) ?_
  refine Run.done ?_
  refine Run.seq ?_
  refine Run.region ?_
  refine Run.q (v := .slice (some ⟨bp, op, none⟩) pn c) rfl (OpQ.y (OpY.pure rfl)) ?_
  refine Run.step rfl (OpStep.call (vs := [.slice (some ⟨bp, op, none⟩) pn c]) (caps := []) Tcall_64 rfl rfl (fun w hs => l1Own_spec hb5 (hs.sl hp)) ?_)
  rintro uo _ rfl
  show Run _ _ (putF _ _ _ uo) [.own uo 3 1 pn (ints ps)]
  refine Run.q (v := uo) rfl (OpQ.y (OpY.pure rfl)) ?_
  refine Run.done ?_
  refine Run.seq ?_
  refine Run.seq ?_
  refine Run.openOwn (.head _) (by omega) (fun go co hvgo hcapgo _ => ?_) (fun _ _ _ => ⟨nofun, nofun, nofun⟩)
  subst hvgo
  refine Run.region ?_
  refine Run.q (v := .slice (some ⟨bp, op, none⟩) pn c) rfl (OpQ.y (OpY.pure rfl)) ?_
  refine Run.q (v := .int .i64 (((pn : Nat) : Int))) rfl (OpQ.y (OpY.len Tsl_28 rfl)) ?_
  refine Run.q (v := .int .i64 0) rfl (OpQ.y (OpY.pure rfl)) ?_
  refine Run.done ?_
  refine Run.block ?_
  refine Run.loop (ι := Nat) [8, 9, 14, 15, 16, 17, 18, 19, 20, 21, 22, 23, 24, 25, 26, 27, 28, 29, 30, 31, 32, 33, 34] (fun k => [(14, .int .i64 (((k : Nat) : Int)))]) (fun k => [.own (.slice (some ⟨go, 0, none⟩) pn co) 3 1 pn (ints (prt a b k ps))]) (fun k => k ≤ pn) (fun k => pn - k) 0 ?_ ?_ ?_ ?_
  · exact Nat.zero_le _
  · exact ⟨rfl, trivial⟩
  · exact (Some'.weak (.takeEq (by rw [prt_zero]) (.nil _)))
  · rintro k fr hinv
    show Run _ _ (over _ _ [(14, .int .i64 (((k : Nat) : Int)))] fr) [.own (.slice (some ⟨go, 0, none⟩) pn co) 3 1 pn (ints (prt a b k ps))]
    try dsimp only at hinv
    refine Run.seq ?_
    refine Run.region ?_
    refine Run.q (v := .bool (decide ((((k : Nat) : Int)) < (((pn : Nat) : Int))))) rfl (OpQ.y (OpY.pure rfl)) ?_
    refine Run.done ?_
    refine Run.seq ?_
    refine Run.cond (b := decide ((((k : Nat) : Int)) < (((pn : Nat) : Int)))) rfl (fun h15 => ?_) (fun h15 => ?_)
    · have p15 := h15; try simp only [bs] at p15
      have hkn : k < pn := by omega
      have hkl : k < ps.length := by omega
      have hpa := prt_at (a := a) (b := b) hkl
      refine Run.skip ?_
      refine Run.seq ?_
      refine Run.block ?_
      refine Run.seq ?_
      refine Run.region ?_
      refine Run.q (v := .int .i64 (((k : Nat) : Int))) rfl (OpQ.y (OpY.pure rfl)) ?_
      refine Run.q (v := .pointer (some ⟨bp, op + k, none⟩)) rfl (OpQ.y (OpY.index (kk := k) Tsl_28 rfl rfl (by omega) (by omega) (by first | rfl | omega))) ?_
      refine Run.q (v := .int .i64 (ix ps (k))) rfl (OpQ.y (OpY.load1 Tone_3 rfl (Cells.arg (k := k) hp rfl (by omega) (pre1 (by omega))))) ?_
      refine Run.q (v := .int .i64 (((k : Nat) : Int))) rfl (OpQ.y (OpY.pure rfl)) ?_
      refine Run.q (v := .int .i64 (ix ps (k))) rfl (OpQ.y (OpY.pure rfl)) ?_
      refine Run.done ?_
      refine Run.seq ?_
      refine Run.region ?_
      refine Run.q (v := .int .i64 (ix ps (k))) rfl (OpQ.y (OpY.pure rfl)) ?_
      refine Run.done ?_
      refine Run.block ?_
      refine Run.seq ?_
      refine Run.region ?_
      refine Run.q (v := .int .i64 a) rfl (OpQ.y (OpY.pure rfl)) ?_
      refine Run.q (v := .bool ((ix ps (k)) == a)) rfl (OpQ.y (OpY.pure rfl)) ?_
      refine Run.q (v := .bool ((ix ps (k)) == a)) rfl (OpQ.y (OpY.pure rfl)) ?_
      refine Run.done ?_
      refine Run.cond (b := (ix ps (k)) == a) rfl (fun h20 => ?_) (fun h20 => ?_)
      · have p20 := h20; try simp only [bs] at p20
        refine Run.region ?_
        refine Run.q (v := .slice (some ⟨go, 0, none⟩) pn co) rfl (OpQ.y (OpY.pure rfl)) ?_
        refine Run.q (v := .int .i64 (((k : Nat) : Int))) rfl (OpQ.y (OpY.pure rfl)) ?_
        refine Run.q (v := .int .i64 b) rfl (OpQ.y (OpY.pure rfl)) ?_
        refine Run.q (v := .pointer (some ⟨go, k, none⟩)) rfl (OpQ.y (OpY.index (kk := k) Tsl_28 rfl rfl (by omega) (by omega) (by first | rfl | omega))) ?_
        refine Run.step rfl (OpStep.storeOwnInt (o := k) (a := b) Tsize_3 rfl rfl (.here _) (by first | omega | (simp only [prt_length]; omega)) ?_)
        refine Run.done ?_
        refine Run.blockEnd ?_
        refine Run.blockEnd ?_
        refine Run.region ?_
        refine Run.q (v := .int .i64 ((((k : Nat) : Int)) + 1)) rfl (OpQ.y (OpY.add rfl rfl rfl (by omega) (by omega))) ?_
        refine Run.q (v := .int .i64 ((((k : Nat) : Int)) + 1)) rfl (OpQ.y (OpY.pure rfl)) ?_
        refine Run.done ?_
        have hX : prt a b (k + 1) ps = ((prt a b k ps).set k b) := prt_set hkl (by unfold swI; first | (rw [if_pos (by omega)]; done) | (rw [if_neg (by omega), if_pos (by omega)]))
        refine Run.goal ⟨(by repeat (first | exact Same.refl _ _ | refine Same.put rfl ?_ | refine Same.over rfl rfl ?_)), k + 1, ?_, ?_, ?_, ?_⟩
        · omega
        · omega
        · exact ⟨(by first | rfl | (congr 1; omega) | simp), trivial⟩
        · exact (Some'.weak (.takeEq (by first | rw [hX] | rfl) (.nil _)))
      · have p20 := h20; try simp only [bs] at p20
        refine Run.seq ?_
        refine Run.region ?_
        refine Run.q (v := .int .i64 b) rfl (OpQ.y (OpY.pure rfl)) ?_
        refine Run.q (v := .bool ((ix ps (k)) == b)) rfl (OpQ.y (OpY.pure rfl)) ?_
        refine Run.q (v := .bool ((ix ps (k)) == b)) rfl (OpQ.y (OpY.pure rfl)) ?_
        refine Run.done ?_
        refine Run.cond (b := (ix ps (k)) == b) rfl (fun h27 => ?_) (fun h27 => ?_)
        · have p27 := h27; try simp only [bs] at p27
          refine Run.region ?_
          refine Run.q (v := .slice (some ⟨go, 0, none⟩) pn co) rfl (OpQ.y (OpY.pure rfl)) ?_
          refine Run.q (v := .int .i64 (((k : Nat) : Int))) rfl (OpQ.y (OpY.pure rfl)) ?_
          refine Run.q (v := .int .i64 a) rfl (OpQ.y (OpY.pure rfl)) ?_
          refine Run.q (v := .pointer (some ⟨go, k, none⟩)) rfl (OpQ.y (OpY.index (kk := k) Tsl_28 rfl rfl (by omega) (by omega) (by first | rfl | omega))) ?_
          refine Run.step rfl (OpStep.storeOwnInt (o := k) (a := a) Tsize_3 rfl rfl (.here _) (by first | omega | (simp only [prt_length]; omega)) ?_)
          refine Run.done ?_
          refine Run.blockEnd ?_
          refine Run.blockEnd ?_
          refine Run.region ?_
          refine Run.q (v := .int .i64 ((((k : Nat) : Int)) + 1)) rfl (OpQ.y (OpY.add rfl rfl rfl (by omega) (by omega))) ?_
          refine Run.q (v := .int .i64 ((((k : Nat) : Int)) + 1)) rfl (OpQ.y (OpY.pure rfl)) ?_
          refine Run.done ?_
          have hX : prt a b (k + 1) ps = ((prt a b k ps).set k a) := prt_set hkl (by unfold swI; first | (rw [if_pos (by omega)]; done) | (rw [if_neg (by omega), if_pos (by omega)]))
          refine Run.goal ⟨(by repeat (first | exact Same.refl _ _ | refine Same.put rfl ?_ | refine Same.over rfl rfl ?_)), k + 1, ?_, ?_, ?_, ?_⟩
          · omega
          · omega
          · exact ⟨(by first | rfl | (congr 1; omega) | simp), trivial⟩
          · exact (Some'.weak (.takeEq (by first | rw [hX] | rfl) (.nil _)))
        · have p27 := h27; try simp only [bs] at p27
          refine Run.skip ?_
          refine Run.blockEnd ?_
          refine Run.blockEnd ?_
          refine Run.region ?_
          refine Run.q (v := .int .i64 ((((k : Nat) : Int)) + 1)) rfl (OpQ.y (OpY.add rfl rfl rfl (by omega) (by omega))) ?_
          refine Run.q (v := .int .i64 ((((k : Nat) : Int)) + 1)) rfl (OpQ.y (OpY.pure rfl)) ?_
          refine Run.done ?_
          have hX : prt a b (k + 1) ps = (prt a b k ps) := prt_keep hkl (by unfold swI; rw [if_neg (by omega), if_neg (by omega)])
          refine Run.goal ⟨(by repeat (first | exact Same.refl _ _ | refine Same.put rfl ?_ | refine Same.over rfl rfl ?_)), k + 1, ?_, ?_, ?_, ?_⟩
          · omega
          · omega
          · exact ⟨(by first | rfl | (congr 1; omega) | simp), trivial⟩
          · exact (Some'.weak (.takeEq (by first | rw [hX] | rfl) (.nil _)))
    · have p15 := h15; try simp only [bs] at p15
      have hkn : k = pn := by omega
      have hall := prt_all (a := a) (b := b) (k := k) (ps := ps) (by omega)
      refine Run.exit rfl ?_
      refine Run.seq ?_
      refine Run.region ?_
      refine Run.q (v := .slice (some ⟨go, 0, none⟩) pn co) rfl (OpQ.y (OpY.pure rfl)) ?_
      refine Run.q (v := .slice (some ⟨go, 0, none⟩) pn co) rfl (OpQ.y (OpY.pure rfl)) ?_
      refine Run.done ?_
      refine Run.ret ?_
      refine ⟨.slice (some ⟨go, 0, none⟩) pn co, [.own (.slice (some ⟨go, 0, none⟩) pn co) 3 1 pn (ints (swL a b ps))], Out.one rfl rfl, (Some'.weak (.takeEq (by rw [hall]) (.nil _))), ?_⟩
      rfl

set_option maxHeartbeats 1000000 in
set_option maxRecDepth 20000 in
theorem newRouting_spec {N Q : Int} {vg vc vp : Value} {m n pn : Nat} {es xs ps : List Int} {w : World} (hn : n ≤ 400) (h0 : 0 < pn) (h5 : pn ≤ 1000) (hg : Sl w vg 2 m (ints es)) (hc : Sl w vc 3 n (ints xs)) (hp : Sl w vp 1 pn (ints ps)) : Calls Try.prog 50 #[.agg #[.int .i64 N, vg], .agg #[.int .i64 Q, vc], vp] w (Post No w fun v H => ∃ u d, v = .agg #[.int .i64 N, vg, .int .i64 Q, vc, u, d] ∧ H = [.own u 3 1 pn (ints ps), .own d 4 1 n (List.replicate n [.bool false]).flatten]) := by
  obtain ⟨A, c, rfl, _, _⟩ := hc.form0
  obtain ⟨Ag, cg, rfl, _, _⟩ := hg.form0
  refine enter (n := 16) (args := [.agg #[.int .i64 N, .slice Ag m cg], .agg #[.int .i64 Q, .slice A n c], vp]) Try.func50 rfl rfl (St.empty _ _) ?_
  refine Run.seq ?_
  refine Run.region ?_
  refine Run.step rfl (OpStep.box (us := [.int .i64 N, .slice Ag m cg]) rfl fun b1 => ?_)
  refine Run.step rfl (OpStep.box (us := [.int .i64 Q, .slice A n c]) rfl fun b2 => ?_)
  refine Run.step rfl (OpStep.alloc (zs := [.int .i64 0, .slice none 0 0, .int .i64 0, .slice none 0 0, .slice none 0 0, .slice none 0 0]) Tzero_87 fun b3 => ?_)
  refine Run.done ?_
  refine Run.seq ?_
  refine Run.heldB (base := [.blk b2 39 [.int .i64 Q, .slice A n c], .blk b1 35 [.int .i64 N, .slice Ag m cg]]) (by kernel_rfl) ?_
  refine DW.take (i := 0) (v := .agg #[.int .i64 N, .slice Ag m cg]) rfl (by kernel_rfl) (by kernel_rfl) (by kernel_rfl) (fun _ _ _ h => h) (Some'.weak (.skip (.take (.take (.nil _))))) rfl (OpY.loadN (cs := [.int .i64 N, .slice Ag m cg]) Tagg_35 rfl (Cells.blk (.tail _ (List.Mem.head _)) ⟨rfl, rfl, trivial⟩)) ?_
  refine DW.take (i := 1) (v := .agg #[.int .i64 Q, .slice A n c]) rfl (by kernel_rfl) (by kernel_rfl) (by kernel_rfl) (fun _ _ _ h => h) (Some'.weak (.skip (.take (.take (.nil _))))) rfl (OpY.loadN (cs := [.int .i64 Q, .slice A n c]) Tagg_39 rfl (Cells.blk (.head _) ⟨rfl, rfl, trivial⟩)) ?_
  refine DW.take (i := 2) (v := vp) rfl (by kernel_rfl) (by kernel_rfl) (by kernel_rfl) (fun _ _ _ h => h) (Some'.weak (.skip (.take (.take (.nil _))))) rfl (OpY.pure rfl) ?_
  refine DW.take (i := 4) (v := .pointer (some ⟨b2, 1, none⟩)) rfl (by kernel_rfl) (by kernel_rfl) (by kernel_rfl) (fun _ _ _ h => h) (Some'.weak (.skip (.take (.take (.nil _))))) rfl (OpY.fieldAddr Tfo_39_1 rfl rfl) ?_
  refine DW.take (i := 5) (v := .slice A n c) rfl (by kernel_rfl) (by kernel_rfl) (by kernel_rfl) (fun _ _ _ h => h) (Some'.weak (.skip (.take (.take (.nil _))))) rfl (OpY.load1 Tone_37 rfl (Cells.blk (.head _) ⟨rfl, trivial⟩)) ?_
  refine DW.take (i := 6) (v := .int .i64 (((n : Nat) : Int))) rfl (by kernel_rfl) (by kernel_rfl) (by kernel_rfl) (fun _ _ _ h => h) (Some'.weak (.skip (.take (.take (.nil _))))) rfl (OpY.len Tsl_37 rfl) ?_
  refine DW.two (i := 3) (j := 7) (by kernel_rfl) rfl rfl rfl rfl ?_ ?_
  · refine OpStep.call (vs := [vp]) (caps := []) Tcall_54 rfl rfl (fun w hs => CloneInt_spec (by omega) h0 (hs.sl hp)) ?_
    rintro uo _ rfl
    refine ⟨(Some'.weak (.skip (.skip (.take (.take (.nil _)))))), ?_⟩
    refine DW.step (i := 7) (by kernel_rfl) rfl rfl (OpStep.makeSlice (n := n) Tsl_85 rfl (by decide) (by first | rfl | omega) (by first | rfl | omega) (by omega) (by simp only [maxLen]; omega) fun b4 => ?_)
    refine ⟨(Some'.weak (.skip (.skip (.skip (.take (.take (.nil _))))))), ?_⟩
    refine DW.formOwn (.tail _ (List.Mem.head _)) (fun A_uo1 c_uo1 hv hcapc_uo1 hmaxc_uo1 => ?_)
    subst hv
    refine DW.take (i := 8) (v := .agg #[.int .i64 N, .slice Ag m cg, .int .i64 Q, .slice A n c, .slice A_uo1 pn c_uo1, .slice (some ⟨b4, 0, none⟩) n n]) rfl (by kernel_rfl) (by kernel_rfl) (by kernel_rfl) (fun _ _ _ h => h) (Some'.weak (.skip (.skip (.skip (.take (.take (.nil _))))))) rfl (OpY.build (cs := [.int .i64 N, .slice Ag m cg, .int .i64 Q, .slice A n c, .slice A_uo1 pn c_uo1, .slice (some ⟨b4, 0, none⟩) n n]) (by kernel_rfl)) ?_
    refine DW.step (i := 9) (by kernel_rfl) rfl rfl (OpStep.storeAll (us := [.int .i64 N, .slice Ag m cg, .int .i64 Q, .slice A n c, .slice A_uo1 pn c_uo1, .slice (some ⟨b4, 0, none⟩) n n]) Tsize_87 rfl rfl rfl (.there _ (.there _ (.here _))) rfl ?_)
    refine ⟨(Some'.weak (.skip (.skip (.skip (.take (.take (.nil _))))))), ?_⟩
    refine DW.done (by kernel_rfl) ?_
    refine Run.ret ?_
    refine ⟨.agg #[.int .i64 N, .slice Ag m cg, .int .i64 Q, .slice A n c, .slice A_uo1 pn c_uo1, .slice (some ⟨b4, 0, none⟩) n n], [.own (.slice A_uo1 pn c_uo1) 3 1 pn (ints ps), .own (.slice (some ⟨b4, 0, none⟩) n n) 4 1 n ((List.replicate n ([.bool false] : List Value)).flatten)], Out.cell1 (cs := [.int .i64 N, .slice Ag m cg, .int .i64 Q, .slice A n c, .slice A_uo1 pn c_uo1, .slice (some ⟨b4, 0, none⟩) n n]) rfl Tagg_87 rfl (Cells.blk (.tail _ (.tail _ (List.Mem.head _))) ⟨rfl, rfl, rfl, rfl, rfl, rfl, trivial⟩), ((Weak.selF [1, 0]).trans (Some'.weak (.take (.take (.nil _))))), ?_⟩
    exact ⟨_, _, rfl, rfl⟩
  · refine OpStep.makeSlice (n := n) Tsl_85 rfl (by decide) (by first | rfl | omega) (by first | rfl | omega) (by omega) (by simp only [maxLen]; omega) fun b5 => ?_
    refine ⟨(Some'.weak (.skip (.skip (.take (.take (.nil _)))))), ?_⟩
    refine DW.step (i := 3) (by kernel_rfl) rfl rfl (OpStep.call (vs := [vp]) (caps := []) Tcall_54 rfl rfl (fun w hs => CloneInt_spec (by omega) h0 (hs.sl hp)) ?_)
    rintro uo _ rfl
    refine ⟨(Some'.weak (.skip (.skip (.skip (.take (.take (.nil _))))))), ?_⟩
    refine DW.formOwn (.head _) (fun A_uo2 c_uo2 hv hcapc_uo2 hmaxc_uo2 => ?_)
    subst hv
    refine DW.take (i := 8) (v := .agg #[.int .i64 N, .slice Ag m cg, .int .i64 Q, .slice A n c, .slice A_uo2 pn c_uo2, .slice (some ⟨b5, 0, none⟩) n n]) rfl (by kernel_rfl) (by kernel_rfl) (by kernel_rfl) (fun _ _ _ h => h) (Some'.weak (.skip (.skip (.skip (.take (.take (.nil _))))))) rfl (OpY.build (cs := [.int .i64 N, .slice Ag m cg, .int .i64 Q, .slice A n c, .slice A_uo2 pn c_uo2, .slice (some ⟨b5, 0, none⟩) n n]) (by kernel_rfl)) ?_
    refine DW.step (i := 9) (by kernel_rfl) rfl rfl (OpStep.storeAll (us := [.int .i64 N, .slice Ag m cg, .int .i64 Q, .slice A n c, .slice A_uo2 pn c_uo2, .slice (some ⟨b5, 0, none⟩) n n]) Tsize_87 rfl rfl rfl (.there _ (.there _ (.here _))) rfl ?_)
    refine ⟨(Some'.weak (.skip (.skip (.skip (.take (.take (.nil _))))))), ?_⟩
    refine DW.done (by kernel_rfl) ?_
    refine Run.ret ?_
    refine ⟨.agg #[.int .i64 N, .slice Ag m cg, .int .i64 Q, .slice A n c, .slice A_uo2 pn c_uo2, .slice (some ⟨b5, 0, none⟩) n n], [.own (.slice A_uo2 pn c_uo2) 3 1 pn (ints ps), .own (.slice (some ⟨b5, 0, none⟩) n n) 4 1 n ((List.replicate n ([.bool false] : List Value)).flatten)], Out.cell1 (cs := [.int .i64 N, .slice Ag m cg, .int .i64 Q, .slice A n c, .slice A_uo2 pn c_uo2, .slice (some ⟨b5, 0, none⟩) n n]) rfl Tagg_87 rfl (Cells.blk (.tail _ (.tail _ (List.Mem.head _))) ⟨rfl, rfl, rfl, rfl, rfl, rfl, trivial⟩), (Some'.weak (.take (.take (.nil _)))), ?_⟩
    exact ⟨_, _, rfl, rfl⟩

set_option maxHeartbeats 1000000 in
set_option maxRecDepth 20000 in
theorem fits_spec {N Q : Int} {vg vc vp vd : Value} {m n pn k : Nat} {es xs ps : List Int} {w : World} (hk : k < n) (he : edgesOk N es m = true) (hin : isTwoI (ix xs (k * 3)) = true → (0 ≤ ix xs (k * 3 + 1) ∧ (ix xs (k * 3 + 1)).toNat < pn) ∧ (0 ≤ ix xs (k * 3 + 2) ∧ (ix xs (k * 3 + 2)).toNat < pn) ∧ ix ps (ix xs (k * 3 + 1)).toNat ≠ ix ps (ix xs (k * 3 + 2)).toNat) (hg : Sl w vg 2 m (ints es)) (hc : Sl w vc 3 n (ints xs)) (hp : Sl w vp 1 pn (ints ps)) : Calls Try.prog 75 #[.agg #[.int .i64 N, vg, .int .i64 Q, vc, vp, vd], .int .i64 (k : Int)] w (Post No w fun v _ => v = .bool (nearG es m xs ps k)) := by
  have hcl := hc.len
  have hpl := hp.len
  obtain ⟨Ac, cc, rfl, _, _⟩ := hc.form0
  obtain ⟨bc, oc, rfl⟩ := hc.opn (by omega)
  obtain ⟨A, c, rfl, _, _⟩ := hp.form0
  refine enter (n := 33) (args := [.agg #[.int .i64 N, vg, .int .i64 Q, .slice (some ⟨bc, oc, none⟩) n cc, .slice A pn c, vd], .int .i64 (((k : Nat) : Int))]) Try.func75 rfl rfl (St.empty _ _) ?_
  refine Run.seq ?_
  refine Run.region ?_
  refine Run.step rfl (OpStep.box (us := [.int .i64 N, vg, .int .i64 Q, .slice (some ⟨bc, oc, none⟩) n cc, .slice A pn c, vd]) rfl fun b1 => ?_)
  refine Run.q (v := .bool false) rfl (OpQ.y (OpY.pure rfl)) ?_
  refine Run.done ?_
  refine Run.seq ?_
  refine Run.region ?_
  refine Run.q (v := .pointer (some ⟨b1, 2, none⟩)) rfl (OpQ.y (OpY.fieldAddr Tfo_87_1 rfl rfl)) ?_
  refine Run.q (v := .pointer (some ⟨b1, 3, none⟩)) rfl (OpQ.y (OpY.fieldAddr Tfo_39_1 rfl rfl)) ?_
  refine Run.q (v := .slice (some ⟨bc, oc, none⟩) n cc) rfl (OpQ.y (OpY.load1 Tone_37 rfl (Cells.blk (.head _) ⟨rfl, trivial⟩))) ?_
  refine Run.q (v := .int .i64 (((k : Nat) : Int))) rfl (OpQ.y (OpY.pure rfl)) ?_
  refine Run.q (v := .pointer (some ⟨bc, oc + k * 3, none⟩)) rfl (OpQ.y (OpY.index (kk := k) Tsl_37 rfl rfl (by omega) (by omega) (by first | rfl | omega))) ?_
  refine Run.q (v := .agg #[.int .i64 (ix xs (k * 3)), .int .i64 (ix xs (k * 3 + 1)), .int .i64 (ix xs (k * 3 + 2))]) rfl (OpQ.y (OpY.loadN (cs := [.int .i64 (ix xs (k * 3)), .int .i64 (ix xs (k * 3 + 1)), .int .i64 (ix xs (k * 3 + 2))]) Tagg_81 rfl (Cells.arg (k := k * 3) hc rfl (by omega) (pre3 (by omega))))) ?_
  refine Run.step rfl (OpStep.alloc (zs := [.int .i64 0, .int .i64 0, .int .i64 0]) Tzero_81 fun b2 => ?_)
  refine Run.step rfl (OpStep.storeAll (us := [.int .i64 (ix xs (k * 3)), .int .i64 (ix xs (k * 3 + 1)), .int .i64 (ix xs (k * 3 + 2))]) Tsize_81 rfl rfl rfl (.here _) rfl ?_)
  refine Run.done ?_
  refine Run.seq ?_
  refine Run.draws (by kernel_rfl) (by kernel_rfl) ?_
  refine Lex.q (v := .pointer (some ⟨b2, 0, none⟩)) rfl (OpQ.y (OpY.fieldAddr Tfo_81_0 rfl rfl)) ?_
  refine Lex.q (v := .int .i64 (ix xs (k * 3))) rfl (OpQ.y (OpY.load1 Tone_3 rfl (Cells.blk (.head _) ⟨rfl, trivial⟩))) ?_
  refine Lex.q (v := .bool (decide (9 ≤ ix xs (k * 3) ∧ ix xs (k * 3) ≤ 11))) rfl (OpQ.call (vs := [.int .i64 (ix xs (k * 3))]) (caps := []) Tcall_85 rfl rfl (fun w hs => isTwo_spec _ w)) ?_
  refine Lex.q (v := .bool (!(decide (9 ≤ ix xs (k * 3) ∧ ix xs (k * 3) ≤ 11)))) rfl (OpQ.y (OpY.pure rfl)) ?_
  rcases Bool.eq_false_or_eq_true (!(decide (9 ≤ ix xs (k * 3) ∧ ix xs (k * 3) ≤ 11))) with h16 | h16
  · refine Lex.q (v := .bool true) rfl (OpQ.y (OpY.moveB rfl h16)) ?_
    have p16 := h16; try simp only [bs] at p16
    refine Lex.pass rfl ?_
    refine Lex.pass rfl ?_
    refine Lex.pass rfl ?_
    refine Lex.pass rfl ?_
    refine Lex.pass rfl ?_
    refine Lex.pass rfl ?_
    refine Lex.pass rfl ?_
    refine Lex.pass rfl ?_
    refine Lex.pass rfl ?_
    refine Lex.pass rfl ?_
    refine Lex.pass rfl ?_
    refine Lex.pass rfl ?_
    refine Lex.pass rfl ?_
    refine Lex.pass rfl ?_
    refine Lex.pass rfl ?_
    refine Lex.q (v := .bool true) rfl (OpQ.y (OpY.pure rfl)) ?_
    refine Lex.q (v := .bool true) rfl (OpQ.y (OpY.pure rfl)) ?_
    refine Lex.done ?_
    refine Run.ret ?_
    refine ⟨.bool true, [], Out.one rfl rfl, (Some'.weak (.nil _)), ?_⟩
    show _ = _; unfold nearG isTwoI; rw [h16]; rfl
  · refine Lex.q (v := .bool false) rfl (OpQ.y (OpY.moveB rfl h16)) ?_
    have p16 := h16; try simp only [bs] at p16
    have h2 : isTwoI (ix xs (k * 3)) = true := by simp_all [isTwoI]
    have hh := hin h2
    obtain ⟨bp, op, rfl⟩ := hp.opn (by omega)
    refine Lex.q (v := .pointer (some ⟨b1, 0, none⟩)) rfl (OpQ.y (OpY.fieldAddr Tfo_87_0 rfl rfl)) ?_
    refine Lex.q (v := .agg #[.int .i64 N, vg]) rfl (OpQ.y (OpY.loadN (cs := [.int .i64 N, vg]) Tagg_35 rfl (Cells.blk (.tail _ (List.Mem.head _)) ⟨rfl, rfl, trivial⟩))) ?_
    refine Lex.q (v := .pointer (some ⟨b1, 4, none⟩)) rfl (OpQ.y (OpY.fieldAddr Tfo_87_2 rfl rfl)) ?_
    refine Lex.q (v := .slice (some ⟨bp, op, none⟩) pn c) rfl (OpQ.y (OpY.load1 Tone_28 rfl (Cells.blk (.tail _ (List.Mem.head _)) ⟨rfl, trivial⟩))) ?_
    refine Lex.q (v := .pointer (some ⟨b2, 1, none⟩)) rfl (OpQ.y (OpY.fieldAddr Tfo_81_1 rfl rfl)) ?_
    refine Lex.q (v := .int .i64 (ix xs (k * 3 + 1))) rfl (OpQ.y (OpY.load1 Tone_3 rfl (Cells.blk (.head _) ⟨rfl, trivial⟩))) ?_
    refine Lex.q (v := .pointer (some ⟨bp, op + (ix xs (k * 3 + 1)).toNat, none⟩)) rfl (OpQ.y (OpY.index (kk := (ix xs (k * 3 + 1)).toNat) Tsl_28 rfl rfl (by omega) (by omega) (by first | rfl | omega))) ?_
    refine Lex.q (v := .int .i64 (ix ps ((ix xs (k * 3 + 1)).toNat))) rfl (OpQ.y (OpY.load1 Tone_3 rfl (Cells.arg (k := (ix xs (k * 3 + 1)).toNat) hp rfl (by omega) (pre1 (by omega))))) ?_
    refine Lex.q (v := .pointer (some ⟨b1, 4, none⟩)) rfl (OpQ.y (OpY.fieldAddr Tfo_87_2 rfl rfl)) ?_
    refine Lex.q (v := .slice (some ⟨bp, op, none⟩) pn c) rfl (OpQ.y (OpY.load1 Tone_28 rfl (Cells.blk (.tail _ (List.Mem.head _)) ⟨rfl, trivial⟩))) ?_
    refine Lex.q (v := .pointer (some ⟨b2, 2, none⟩)) rfl (OpQ.y (OpY.fieldAddr Tfo_81_2 rfl rfl)) ?_
    refine Lex.q (v := .int .i64 (ix xs (k * 3 + 2))) rfl (OpQ.y (OpY.load1 Tone_3 rfl (Cells.blk (.head _) ⟨rfl, trivial⟩))) ?_
    refine Lex.q (v := .pointer (some ⟨bp, op + (ix xs (k * 3 + 2)).toNat, none⟩)) rfl (OpQ.y (OpY.index (kk := (ix xs (k * 3 + 2)).toNat) Tsl_28 rfl rfl (by omega) (by omega) (by first | rfl | omega))) ?_
    refine Lex.q (v := .int .i64 (ix ps ((ix xs (k * 3 + 2)).toNat))) rfl (OpQ.y (OpY.load1 Tone_3 rfl (Cells.arg (k := (ix xs (k * 3 + 2)).toNat) hp rfl (by omega) (pre1 (by omega))))) ?_
    refine Lex.q (v := .bool (adj es m (ix ps (ix xs (k * 3 + 1)).toNat) (ix ps (ix xs (k * 3 + 2)).toNat))) rfl (OpQ.call (vs := [.agg #[.int .i64 N, vg], .int .i64 (ix ps ((ix xs (k * 3 + 1)).toNat)), .int .i64 (ix ps ((ix xs (k * 3 + 2)).toNat))]) (caps := []) Tcall_90 rfl rfl (fun w hs => (by have h := joins_spec (N := N) (a := ix ps (ix xs (k * 3 + 1)).toNat) (b := ix ps (ix xs (k * 3 + 2)).toNat) (hs.sl hg); rw [adj_join he hh.2.2] at h; exact h))) ?_
    refine Lex.q (v := .bool (adj es m (ix ps (ix xs (k * 3 + 1)).toNat) (ix ps (ix xs (k * 3 + 2)).toNat))) rfl (OpQ.y (OpY.pure rfl)) ?_
    refine Lex.q (v := .bool (adj es m (ix ps (ix xs (k * 3 + 1)).toNat) (ix ps (ix xs (k * 3 + 2)).toNat))) rfl (OpQ.y (OpY.pure rfl)) ?_
    refine Lex.done ?_
    refine Run.ret ?_
    refine ⟨.bool (adj es m (ix ps (ix xs (k * 3 + 1)).toNat) (ix ps (ix xs (k * 3 + 2)).toNat)), [], Out.one rfl rfl, (Some'.weak (.nil _)), ?_⟩
    show _ = _; unfold nearG isTwoI; rw [h16]; rfl

end Go.Proofs.Ytekikmdjldincaa
/- Walks: gates that meet, gates that are ready. -/
set_option linter.unusedSimpArgs false
set_option linter.unusedVariables false
namespace Go.Proofs.Ytekikmdjldincaa
open Go Go.RowKit
namespace LsaT
theorem Tagg_81 : aggOf Try.prog 81 = some 3 := by kernel_rfl
theorem Tcall_100 : callable Try.prog 100 = true := by kernel_rfl
theorem Tcall_103 : callable Try.prog 103 = true := by kernel_rfl
theorem Tcall_61 : callable Try.prog 61 = true := by kernel_rfl
theorem Tcall_62 : callable Try.prog 62 = true := by kernel_rfl
theorem Tcall_72 : callable Try.prog 72 = true := by kernel_rfl
theorem Tcall_73 : callable Try.prog 73 = true := by kernel_rfl
theorem Tcall_89 : callable Try.prog 89 = true := by kernel_rfl
theorem Tcall_92 : callable Try.prog 92 = true := by kernel_rfl
theorem Tcall_98 : callable Try.prog 98 = true := by kernel_rfl
theorem Tcall_99 : callable Try.prog 99 = true := by kernel_rfl
theorem Tfo_39_1 : fieldOff Try.prog 39 1 = some 1 := by kernel_rfl
theorem Tfo_87_1 : fieldOff Try.prog 87 1 = some 2 := by kernel_rfl
theorem Tfo_87_3 : fieldOff Try.prog 87 3 = some 5 := by kernel_rfl
theorem Tone_3 : oneOf Try.prog 3 = true := by kernel_rfl
theorem Tone_37 : oneOf Try.prog 37 = true := by kernel_rfl
theorem Tone_4 : oneOf Try.prog 4 = true := by kernel_rfl
theorem Tone_85 : oneOf Try.prog 85 = true := by kernel_rfl
theorem Tsize_81 : (Try.prog.info? 81).map (·.size) = some 3 := by kernel_rfl
theorem Tsl_28 : sliceOf Try.prog 28 = some (3, 1, 8, [.int .i64 0]) := by kernel_rfl
theorem Tsl_37 : sliceOf Try.prog 37 = some (81, 3, 24, [.int .i64 0, .int .i64 0, .int .i64 0]) := by kernel_rfl
theorem Tsl_85 : sliceOf Try.prog 85 = some (4, 1, 1, [.bool false]) := by kernel_rfl
theorem Tzero_81 : zeroOf Try.prog 81 = some [.int .i64 0, .int .i64 0, .int .i64 0] := by kernel_rfl
end LsaT
open LsaT
theorem common_any (Q R : List Int) : anyI (fun i => R.contains (ix Q i)) Q.length = common Q R := by
  cases hb : anyI (fun i => R.contains (ix Q i)) Q.length with
  | true =>
    obtain ⟨i, hi, h⟩ := anyI_iff.1 hb
    exact (common_true hi h).symm
  | false =>
    refine (common_false fun i hi => ?_).symm
    cases hc : R.contains (ix Q i) with
    | false => rfl
    | true => rw [anyI_true hi hc] at hb; cases hb
/-- Gate i is not done, and no gate before it that is not done meets it. -/
def rdy (xs : List Int) (ds : List Bool) (i : Nat) : Bool := !bx ds i && !anyI (fun j => !bx ds j && common (gq xs j) (gq xs i)) i
theorem rdy_done {xs : List Int} {ds : List Bool} {i : Nat} (h : bx ds i = true) : rdy xs ds i = false := by rw [rdy, h]; rfl
theorem rdy_bad {xs : List Int} {ds : List Bool} {i j : Nat} (hj : j < i) (h : (!bx ds j && common (gq xs j) (gq xs i)) = true) : rdy xs ds i = false := by rw [rdy, anyI_true hj h]; simp
theorem rdy_good {xs : List Int} {ds : List Bool} {i : Nat} (h0 : bx ds i = false) (h : ∀ j, j < i → (!bx ds j && common (gq xs j) (gq xs i)) = false) : rdy xs ds i = true := by rw [rdy, h0, anyI_false h]; rfl

set_option maxHeartbeats 1000000 in
set_option maxRecDepth 20000 in
theorem meetClo_spec {kd ka kb x : Int} {p : Nat} {w : World} (hc : Sl w (.slice (some ⟨p, 0, none⟩) 1 1) 3 1 [.int .i64 kd, .int .i64 ka, .int .i64 kb]) : Calls Try.prog 100 #[.int .i64 x, .pointer (some ⟨p, 0, none⟩)] w (Post No w fun v _ => v = .bool ((qs kd ka kb).contains x)) := by
  refine enter (n := 8) (args := [.int .i64 x, .pointer (some ⟨p, 0, none⟩)]) Try.func100 rfl rfl (St.empty _ _) ?_
  refine Run.seq ?_
  refine Run.region ?_
  refine Run.q (v := .bool false) rfl (OpQ.y (OpY.pure rfl)) ?_
  refine Run.done ?_
  refine Run.seq ?_
  refine Run.region ?_
  refine Run.q (v := .agg #[.int .i64 kd, .int .i64 ka, .int .i64 kb]) rfl (OpQ.y (OpY.loadN (cs := [.int .i64 kd, .int .i64 ka, .int .i64 kb]) Tagg_81 rfl (Cells.env (k := 0) hc rfl (by decide) ⟨rfl, rfl, rfl, trivial⟩))) ?_
  refine Run.step rfl (OpStep.call (vs := [.agg #[.int .i64 kd, .int .i64 ka, .int .i64 kb]]) (caps := []) Tcall_99 rfl rfl (fun w hs => qubitsOf_spec _ _ _ w) ?_)
  rintro u1 _ rfl
  show Run _ _ (putF _ _ _ u1) [.own u1 3 1 ((qs kd ka kb).length) (ints (qs kd ka kb))]
  refine Run.q (v := .int .i64 x) rfl (OpQ.y (OpY.pure rfl)) ?_
  refine Run.q (v := .bool ((qs kd ka kb).contains x)) rfl (OpQ.call (vs := [u1, .int .i64 x]) (caps := []) Tcall_72 rfl rfl (fun w hs => (by have h := ContainsInt_spec (x := x) (hs.slOwn (.head _)); rw [hasI_contains] at h; exact h))) ?_
  refine Run.q (v := .bool ((qs kd ka kb).contains x)) rfl (OpQ.y (OpY.pure rfl)) ?_
  refine Run.done ?_
  refine Run.ret ?_
  refine ⟨.bool ((qs kd ka kb).contains x), [], Out.one rfl rfl, (Some'.weak (.nil _)), ?_⟩
  rfl

set_option maxHeartbeats 1000000 in
set_option maxRecDepth 20000 in
theorem IndexFuncMeet_spec {kd ka kb : Int} {p : Nat} {va : Value} {n : Nat} {xs : List Int} {w : World} (ha : Sl w va 1 n (ints xs)) (hc : Sl w (.slice (some ⟨p, 0, none⟩) 1 1) 3 1 [.int .i64 kd, .int .i64 ka, .int .i64 kb]) : Calls Try.prog 103 #[va, .func (.func 100) #[] #[.pointer (some ⟨p, 0, none⟩)]] w (Post No w fun v _ => v = .int .i64 (findI (fun i => (qs kd ka kb).contains (ix xs i)) n)) := by
  have hxl := ha.len
  have hn := ha.le
  obtain ⟨A, c, rfl, _, _⟩ := ha.form0
  refine enter (n := 19) (args := [.slice A n c, .func (.func 100) #[] #[.pointer (some ⟨p, 0, none⟩)]]) Try.func103 rfl rfl (St.empty _ _) ?_
  refine Run.seq ?_
  refine Run.region ?_
  refine Run.q (v := .int .i64 0) rfl (OpQ.y (OpY.pure rfl)) ?_
  refine Run.done ?_
  refine Run.seq ?_
  refine Run.seq ?_
  refine Run.region ?_
  refine Run.q (v := .slice A n c) rfl (OpQ.y (OpY.pure rfl)) ?_
  refine Run.q (v := .int .i64 (((n : Nat) : Int))) rfl (OpQ.y (OpY.len Tsl_28 rfl)) ?_
  refine Run.q (v := .int .i64 0) rfl (OpQ.y (OpY.pure rfl)) ?_
  refine Run.done ?_
  refine Run.block ?_
  refine Run.loop (ι := Nat) [4, 5, 8, 9, 10, 11, 12, 13, 14, 15, 16, 17, 18] (fun k => [(8, .int .i64 (((k : Nat) : Int)))]) (fun k => []) (fun k => k ≤ n ∧ (∀ i, i < k → ((qs kd ka kb).contains (ix xs i)) = false)) (fun k => n - k) 0 ?_ ?_ ?_ ?_
  · exact ⟨Nat.zero_le _, by first | trivial | (intro i hi; omega)⟩
  · exact ⟨rfl, trivial⟩
  · exact (Some'.weak (.nil _))
  · rintro k fr hinv
    show Run _ _ (over _ _ [(8, .int .i64 (((k : Nat) : Int)))] fr) []
    try dsimp only at hinv
    refine Run.seq ?_
    refine Run.region ?_
    refine Run.q (v := .bool (decide ((((k : Nat) : Int)) < (((n : Nat) : Int))))) rfl (OpQ.y (OpY.pure rfl)) ?_
    refine Run.done ?_
    refine Run.seq ?_
    refine Run.cond (b := decide ((((k : Nat) : Int)) < (((n : Nat) : Int)))) rfl (fun h9 => ?_) (fun h9 => ?_)
    · have p9 := h9; try simp only [bs] at p9
      have hltk : k < n := by omega
      obtain ⟨b, o, rfl⟩ := ha.opn (by omega)
      refine Run.skip ?_
      refine Run.seq ?_
      refine Run.block ?_
      refine Run.seq ?_
      refine Run.region ?_
      refine Run.q (v := .int .i64 (((k : Nat) : Int))) rfl (OpQ.y (OpY.pure rfl)) ?_
      refine Run.q (v := .int .i64 (((k : Nat) : Int))) rfl (OpQ.y (OpY.pure rfl)) ?_
      refine Run.done ?_
      refine Run.seq ?_
      refine Run.region ?_
      refine Run.q (v := .func (.func 100) #[] #[.pointer (some ⟨p, 0, none⟩)]) rfl (OpQ.y (OpY.pure rfl)) ?_
      refine Run.q (v := .slice (some ⟨b, o, none⟩) n c) rfl (OpQ.y (OpY.pure rfl)) ?_
      refine Run.q (v := .int .i64 (((k : Nat) : Int))) rfl (OpQ.y (OpY.pure rfl)) ?_
      refine Run.q (v := .pointer (some ⟨b, o + k, none⟩)) rfl (OpQ.y (OpY.index (kk := k) Tsl_28 rfl rfl (by omega) (by omega) (by first | rfl | omega))) ?_
      refine Run.q (v := .int .i64 (ix xs (k))) rfl (OpQ.y (OpY.load1 Tone_3 rfl (Cells.arg (k := k) ha rfl (by omega) (pre1 (by omega))))) ?_
      refine Run.q (v := .bool ((qs kd ka kb).contains (ix xs (k)))) rfl (OpQ.call (vs := [.int .i64 (ix xs (k)), .pointer (some ⟨p, 0, none⟩)]) (caps := [.pointer (some ⟨p, 0, none⟩)]) Tcall_100 rfl rfl (fun w hs => meetClo_spec (hs.sl hc))) ?_
      refine Run.done ?_
      refine Run.cond (b := (qs kd ka kb).contains (ix xs (k))) rfl (fun h16 => ?_) (fun h16 => ?_)
      · have p16 := h16; try simp only [bs] at p16
        refine Run.seq ?_
        have hres : findI (fun i => (qs kd ka kb).contains (ix xs i)) n = k := findI_hit hinv.2 h16 hltk
        refine Run.region ?_
        refine Run.q (v := .int .i64 (((k : Nat) : Int))) rfl (OpQ.y (OpY.pure rfl)) ?_
        refine Run.q (v := .int .i64 (((k : Nat) : Int))) rfl (OpQ.y (OpY.pure rfl)) ?_
        refine Run.done ?_
        refine Run.ret ?_
        refine ⟨.int .i64 (((k : Nat) : Int)), [], Out.one rfl rfl, (Some'.weak (.nil _)), ?_⟩
        show _ = _; rw [hres]
      · have p16 := h16; try simp only [bs] at p16
        refine Run.skip ?_
        refine Run.blockEnd ?_
        have hgood : ((qs kd ka kb).contains (ix xs k)) = false := h16
        refine Run.region ?_
        refine Run.q (v := .int .i64 ((((k : Nat) : Int)) + 1)) rfl (OpQ.y (OpY.add rfl rfl rfl (by omega) (by omega))) ?_
        refine Run.q (v := .int .i64 ((((k : Nat) : Int)) + 1)) rfl (OpQ.y (OpY.pure rfl)) ?_
        refine Run.done ?_
        refine Run.goal ⟨(by repeat (first | exact Same.refl _ _ | refine Same.put rfl ?_ | refine Same.over rfl rfl ?_)), k + 1, ?_, ?_, ?_, ?_⟩
        · refine ⟨by omega, ?_⟩
          intro i hi
          rcases Nat.lt_succ_iff_lt_or_eq.1 hi with h | h
          · exact hinv.2 i h
          · rw [h]; exact hgood
        · omega
        · exact ⟨(by first | rfl | (congr 1; omega) | simp), trivial⟩
        · exact (Some'.weak (.nil _))
    · have p9 := h9; try simp only [bs] at p9
      have hknk : k = n := by omega
      have hres : findI (fun i => (qs kd ka kb).contains (ix xs i)) n = -1 := by rw [← hknk]; exact findI_none hinv.2
      refine Run.exit rfl ?_
      refine Run.seq ?_
      refine Run.region ?_
      refine Run.q (v := .int .i64 (-1)) rfl (OpQ.y (OpY.pure rfl)) ?_
      refine Run.done ?_
      refine Run.ret ?_
      refine ⟨.int .i64 (-1), [], Out.one rfl rfl, (Some'.weak (.nil _)), ?_⟩
      show _ = _; rw [hres]

set_option maxHeartbeats 1000000 in
set_option maxRecDepth 20000 in
theorem ContainsFuncMeet_spec {kd ka kb : Int} {p : Nat} {va : Value} {n : Nat} {xs : List Int} {w : World} (ha : Sl w va 1 n (ints xs)) (hc : Sl w (.slice (some ⟨p, 0, none⟩) 1 1) 3 1 [.int .i64 kd, .int .i64 ka, .int .i64 kb]) : Calls Try.prog 98 #[va, .func (.func 100) #[] #[.pointer (some ⟨p, 0, none⟩)]] w (Post No w fun v _ => v = .bool (anyI (fun i => (qs kd ka kb).contains (ix xs i)) n)) := by
  refine enter (n := 9) (args := [va, .func (.func 100) #[] #[.pointer (some ⟨p, 0, none⟩)]]) Try.func98 rfl rfl (St.empty _ _) ?_
  refine Run.seq ?_
  refine Run.region ?_
  refine Run.q (v := .bool false) rfl (OpQ.y (OpY.pure rfl)) ?_
  refine Run.done ?_
  refine Run.seq ?_
  refine Run.region ?_
  refine Run.q (v := va) rfl (OpQ.y (OpY.pure rfl)) ?_
  refine Run.q (v := .func (.func 100) #[] #[.pointer (some ⟨p, 0, none⟩)]) rfl (OpQ.y (OpY.pure rfl)) ?_
  refine Run.q (v := .int .i64 (findI (fun i => (qs kd ka kb).contains (ix xs i)) n)) rfl (OpQ.call (vs := [va, .func (.func 100) #[] #[.pointer (some ⟨p, 0, none⟩)]]) (caps := []) Tcall_103 rfl rfl (fun w hs => IndexFuncMeet_spec (hs.sl ha) (hs.sl hc))) ?_
  refine Run.q (v := .bool (decide ((findI (fun i => (qs kd ka kb).contains (ix xs i)) n) ≥ 0))) rfl (OpQ.y (OpY.pure rfl)) ?_
  refine Run.q (v := .bool (decide ((findI (fun i => (qs kd ka kb).contains (ix xs i)) n) ≥ 0))) rfl (OpQ.y (OpY.pure rfl)) ?_
  refine Run.done ?_
  refine Run.ret ?_
  refine ⟨.bool (decide ((findI (fun i => (qs kd ka kb).contains (ix xs i)) n) ≥ 0)), [], Out.one rfl rfl, (Some'.weak (.nil _)), ?_⟩
  show _ = _; rw [findI_ge]

set_option maxHeartbeats 1000000 in
set_option maxRecDepth 20000 in
theorem meet_spec (k a b k' a' b' : Int) (w : World) : Calls Try.prog 89 #[.agg #[.int .i64 k, .int .i64 a, .int .i64 b], .agg #[.int .i64 k', .int .i64 a', .int .i64 b']] w (Post No w fun v _ => v = .bool (common (qs k a b) (qs k' a' b'))) := by
  refine enter (n := 9) (args := [.agg #[.int .i64 k, .int .i64 a, .int .i64 b], .agg #[.int .i64 (k'), .int .i64 (a'), .int .i64 (b')]]) Try.func89 rfl rfl (St.empty _ _) ?_
  refine Run.seq ?_
  refine Run.region ?_
  refine Run.step rfl (OpStep.box (us := [.int .i64 k, .int .i64 a, .int .i64 b]) rfl fun b1 => ?_)
  refine Run.step rfl (OpStep.box (us := [.int .i64 (k'), .int .i64 (a'), .int .i64 (b')]) rfl fun b2 => ?_)
  refine Run.q (v := .bool false) rfl (OpQ.y (OpY.pure rfl)) ?_
  refine Run.done ?_
  refine Run.seq ?_
  refine Run.region ?_
  refine Run.q (v := .agg #[.int .i64 k, .int .i64 a, .int .i64 b]) rfl (OpQ.y (OpY.loadN (cs := [.int .i64 k, .int .i64 a, .int .i64 b]) Tagg_81 rfl (Cells.blk (.tail _ (List.Mem.head _)) ⟨rfl, rfl, rfl, trivial⟩))) ?_
  refine Run.step rfl (OpStep.call (vs := [.agg #[.int .i64 k, .int .i64 a, .int .i64 b]]) (caps := []) Tcall_99 rfl rfl (fun w hs => qubitsOf_spec _ _ _ w) ?_)
  rintro u1 _ rfl
  show Run _ _ (putF _ _ _ u1) [.own u1 3 1 ((qs k a b).length) (ints (qs k a b)), .blk b2 81 [.int .i64 (k'), .int .i64 (a'), .int .i64 (b')], .blk b1 81 [.int .i64 k, .int .i64 a, .int .i64 b]]
  refine Run.q (v := .func (.func 100) #[] #[.pointer (some ⟨b2, 0, none⟩)]) rfl (OpQ.y (OpY.makeFunc (caps := [.pointer (some ⟨b2, 0, none⟩)]) rfl)) ?_
  refine Run.q (v := .bool (common (qs k a b) (qs k' a' b'))) rfl (OpQ.call (vs := [u1, .func (.func 100) #[] #[.pointer (some ⟨b2, 0, none⟩)]]) (caps := []) Tcall_98 rfl rfl (fun w hs => (by have h := ContainsFuncMeet_spec (hs.slOwn (.head _)) (hs.slBlk (.tail _ (List.Mem.head _))); rw [common_any] at h; exact h))) ?_
  refine Run.q (v := .bool (common (qs k a b) (qs k' a' b'))) rfl (OpQ.y (OpY.pure rfl)) ?_
  refine Run.done ?_
  refine Run.ret ?_
  refine ⟨.bool (common (qs k a b) (qs k' a' b')), [], Out.one rfl rfl, (Some'.weak (.nil _)), ?_⟩
  rfl

set_option maxHeartbeats 1000000 in
set_option maxRecDepth 20000 in
theorem isReady_spec {N Q : Int} {vg vc vp vd : Value} {n i : Nat} {xs : List Int} {ds : List Bool} {w : World} (hi : i < n) (hc : Sl w vc 3 n (ints xs)) (hd : Sl w vd 1 n (bls ds)) : Calls Try.prog 74 #[.agg #[.int .i64 N, vg, .int .i64 Q, vc, vp, vd], .int .i64 (i : Nat)] w (Post No w fun v _ => v = .bool (rdy xs ds i)) := by
  have hcl := hc.len
  have hdl := hd.blen
  have hn := hc.le
  obtain ⟨Ac, cc, rfl, _, _⟩ := hc.form0
  obtain ⟨bc, oc, rfl⟩ := hc.opn (by omega)
  obtain ⟨Ad, cd, rfl, _, _⟩ := hd.form0
  obtain ⟨bd, od, rfl⟩ := hd.opn (by omega)
  have hw : within ((i : Nat) : Int) 0 (((n : Nat) : Int) - 1) = true := within_iff.2 (by omega)
  refine enter (n := 50) (args := [.agg #[.int .i64 N, vg, .int .i64 Q, .slice (some ⟨bc, oc, none⟩) n cc, vp, .slice (some ⟨bd, od, none⟩) n cd], .int .i64 (((i : Nat) : Int))]) Try.func74 rfl rfl (St.empty _ _) ?_
  refine Run.seq ?_
  refine Run.region ?_
  refine Run.step rfl (OpStep.box (us := [.int .i64 N, vg, .int .i64 Q, .slice (some ⟨bc, oc, none⟩) n cc, vp, .slice (some ⟨bd, od, none⟩) n cd]) rfl fun b1 => ?_)
  refine Run.q (v := .bool false) rfl (OpQ.y (OpY.pure rfl)) ?_
  refine Run.done ?_
  refine Run.seq ?_
  refine Run.seq ?_
  refine Run.region ?_
  refine Run.q (v := .int .i64 (((i : Nat) : Int))) rfl (OpQ.y (OpY.pure rfl)) ?_
  refine Run.q (v := .pointer (some ⟨b1, 2, none⟩)) rfl (OpQ.y (OpY.fieldAddr Tfo_87_1 rfl rfl)) ?_
  refine Run.q (v := .pointer (some ⟨b1, 3, none⟩)) rfl (OpQ.y (OpY.fieldAddr Tfo_39_1 rfl rfl)) ?_
  refine Run.q (v := .slice (some ⟨bc, oc, none⟩) n cc) rfl (OpQ.y (OpY.load1 Tone_37 rfl (Cells.blk (.head _) ⟨rfl, trivial⟩))) ?_
  refine Run.q (v := .int .i64 (((n : Nat) : Int))) rfl (OpQ.y (OpY.len Tsl_37 rfl)) ?_
  refine Run.q (v := .int .i64 (((n : Nat) : Int) - 1)) rfl (OpQ.y (OpY.sub rfl rfl (by omega) (by omega) (by omega))) ?_
  refine Run.q (v := .bool true) rfl (OpQ.call (vs := [.int .i64 (((i : Nat) : Int)), .int .i64 0, .int .i64 (((n : Nat) : Int) - 1)]) (caps := []) Tcall_73 rfl rfl (fun w hs => (by have h := within_spec ((i : Nat) : Int) 0 (((n : Nat) : Int) - 1) w; rw [hw] at h; exact h))) ?_
  refine Run.q (v := .bool false) rfl (OpQ.y (OpY.pure rfl)) ?_
  refine Run.q (v := .bool false) rfl (OpQ.y (OpY.pure rfl)) ?_
  refine Run.q (v := .pointer (some ⟨b1, 5, none⟩)) rfl (OpQ.y (OpY.fieldAddr Tfo_87_3 rfl rfl)) ?_
  refine Run.q (v := .slice (some ⟨bd, od, none⟩) n cd) rfl (OpQ.y (OpY.load1 Tone_85 rfl (Cells.blk (.head _) ⟨rfl, trivial⟩))) ?_
  refine Run.q (v := .int .i64 (((i : Nat) : Int))) rfl (OpQ.y (OpY.pure rfl)) ?_
  refine Run.q (v := .pointer (some ⟨bd, od + i, none⟩)) rfl (OpQ.y (OpY.index (kk := i) Tsl_85 rfl rfl (by omega) (by omega) (by first | rfl | omega))) ?_
  refine Run.q (v := .bool (bx ds (i))) rfl (OpQ.y (OpY.load1 Tone_4 rfl (Cells.arg (k := i) hd rfl (by omega) (preBl (by omega))))) ?_
  refine Run.q (v := .bool (bx ds (i))) rfl (OpQ.y (OpY.pure rfl)) ?_
  refine Run.done ?_
  refine Run.cond (b := bx ds (i)) rfl (fun h21 => ?_) (fun h21 => ?_)
  · have p21 := h21; try simp only [bs] at p21
    have hres : rdy xs ds i = false := rdy_done (by simpa using h21)
    refine Run.seq ?_
    refine Run.region ?_
    refine Run.q (v := .bool false) rfl (OpQ.y (OpY.pure rfl)) ?_
    refine Run.done ?_
    refine Run.ret ?_
    refine ⟨.bool false, [], Out.one rfl rfl, (Some'.weak (.nil _)), ?_⟩
    show _ = _; rw [hres]
  · have p21 := h21; try simp only [bs] at p21
    have h0 : bx ds i = false := by simpa using h21
    refine Run.skip ?_
    refine Run.seq ?_
    refine Run.seq ?_
    refine Run.region ?_
    refine Run.q (v := .pointer (some ⟨b1, 2, none⟩)) rfl (OpQ.y (OpY.fieldAddr Tfo_87_1 rfl rfl)) ?_
    refine Run.q (v := .pointer (some ⟨b1, 3, none⟩)) rfl (OpQ.y (OpY.fieldAddr Tfo_39_1 rfl rfl)) ?_
    refine Run.q (v := .slice (some ⟨bc, oc, none⟩) n cc) rfl (OpQ.y (OpY.load1 Tone_37 rfl (Cells.blk (.head _) ⟨rfl, trivial⟩))) ?_
    refine Run.q (v := .int .i64 (((i : Nat) : Int))) rfl (OpQ.y (OpY.pure rfl)) ?_
    refine Run.q (v := .slice (some ⟨bc, oc, none⟩) i cc) rfl (OpQ.y (OpY.sliceHN (h := i) Tsl_37 rfl rfl rfl (by omega))) ?_
    refine Run.q (v := .int .i64 (((i : Nat) : Int))) rfl (OpQ.y (OpY.len Tsl_37 rfl)) ?_
    refine Run.q (v := .int .i64 0) rfl (OpQ.y (OpY.pure rfl)) ?_
    refine Run.done ?_
    refine Run.block ?_
    refine Run.loop (ι := Nat) [4, 5, 6, 28, 29, 30, 31, 32, 33, 34, 35, 36, 37, 38, 39, 40, 41, 42, 43, 44, 45, 46, 47, 48, 49] (fun j => [(28, .int .i64 (((j : Nat) : Int)))]) (fun j => [.blk b1 87 [.int .i64 N, vg, .int .i64 Q, .slice (some ⟨bc, oc, none⟩) n cc, vp, .slice (some ⟨bd, od, none⟩) n cd]]) (fun j => j ≤ i ∧ ∀ q, q < j → (!bx ds q && common (gq xs q) (gq xs i)) = false) (fun j => i - j) 0 ?_ ?_ ?_ ?_
    · exact ⟨Nat.zero_le _, fun q hq => by omega⟩
    · exact ⟨rfl, trivial⟩
    · exact (Some'.weak (.take (.nil _)))
    · rintro j fr hinv
      show Run _ _ (over _ _ [(28, .int .i64 (((j : Nat) : Int)))] fr) [.blk b1 87 [.int .i64 N, vg, .int .i64 Q, .slice (some ⟨bc, oc, none⟩) n cc, vp, .slice (some ⟨bd, od, none⟩) n cd]]
      try dsimp only at hinv
      refine Run.seq ?_
      refine Run.region ?_
      refine Run.q (v := .bool (decide ((((j : Nat) : Int)) < (((i : Nat) : Int))))) rfl (OpQ.y (OpY.pure rfl)) ?_
      refine Run.done ?_
      refine Run.seq ?_
      refine Run.cond (b := decide ((((j : Nat) : Int)) < (((i : Nat) : Int)))) rfl (fun h29 => ?_) (fun h29 => ?_)
      · have p29 := h29; try simp only [bs] at p29
        have hji : j < i := by omega
        refine Run.skip ?_
        refine Run.seq ?_
        refine Run.block ?_
        refine Run.seq ?_
        refine Run.region ?_
        refine Run.q (v := .int .i64 (((j : Nat) : Int))) rfl (OpQ.y (OpY.pure rfl)) ?_
        refine Run.q (v := .pointer (some ⟨bc, oc + j * 3, none⟩)) rfl (OpQ.y (OpY.index (kk := j) Tsl_37 rfl rfl (by omega) (by omega) (by first | rfl | omega))) ?_
        refine Run.q (v := .agg #[.int .i64 (ix xs (j * 3)), .int .i64 (ix xs (j * 3 + 1)), .int .i64 (ix xs (j * 3 + 2))]) rfl (OpQ.y (OpY.loadN (cs := [.int .i64 (ix xs (j * 3)), .int .i64 (ix xs (j * 3 + 1)), .int .i64 (ix xs (j * 3 + 2))]) Tagg_81 rfl (Cells.arg (k := j * 3) hc rfl (by omega) (pre3 (by omega))))) ?_
        refine Run.step rfl (OpStep.alloc (zs := [.int .i64 0, .int .i64 0, .int .i64 0]) Tzero_81 fun b2 => ?_)
        refine Run.q (v := .int .i64 (((j : Nat) : Int))) rfl (OpQ.y (OpY.pure rfl)) ?_
        refine Run.step rfl (OpStep.storeAll (us := [.int .i64 (ix xs (j * 3)), .int .i64 (ix xs (j * 3 + 1)), .int .i64 (ix xs (j * 3 + 2))]) Tsize_81 rfl rfl rfl (.here _) rfl ?_)
        refine Run.done ?_
        refine Run.seq ?_
        refine Run.draws (by kernel_rfl) (by kernel_rfl) ?_
        refine Lex.q (v := .pointer (some ⟨b1, 5, none⟩)) rfl (OpQ.y (OpY.fieldAddr Tfo_87_3 rfl rfl)) ?_
        refine Lex.q (v := .slice (some ⟨bd, od, none⟩) n cd) rfl (OpQ.y (OpY.load1 Tone_85 rfl (Cells.blk (.tail _ (List.Mem.head _)) ⟨rfl, trivial⟩))) ?_
        refine Lex.q (v := .int .i64 (((j : Nat) : Int))) rfl (OpQ.y (OpY.pure rfl)) ?_
        refine Lex.q (v := .pointer (some ⟨bd, od + j, none⟩)) rfl (OpQ.y (OpY.index (kk := j) Tsl_85 rfl rfl (by omega) (by omega) (by first | rfl | omega))) ?_
        refine Lex.q (v := .bool (bx ds (j))) rfl (OpQ.y (OpY.load1 Tone_4 rfl (Cells.arg (k := j) hd rfl (by omega) (preBl (by omega))))) ?_
        refine Lex.q (v := .bool (!(bx ds (j)))) rfl (OpQ.y (OpY.pure rfl)) ?_
        rcases Bool.eq_false_or_eq_true (!(bx ds (j))) with h39 | h39
        · refine Lex.q (v := .bool true) rfl (OpQ.y (OpY.moveB rfl h39)) ?_
          have p39 := h39; try simp only [bs] at p39
          refine Lex.q (v := .agg #[.int .i64 (ix xs (j * 3)), .int .i64 (ix xs (j * 3 + 1)), .int .i64 (ix xs (j * 3 + 2))]) rfl (OpQ.y (OpY.loadN (cs := [.int .i64 (ix xs (j * 3)), .int .i64 (ix xs (j * 3 + 1)), .int .i64 (ix xs (j * 3 + 2))]) Tagg_81 rfl (Cells.blk (.head _) ⟨rfl, rfl, rfl, trivial⟩))) ?_
          refine Lex.q (v := .pointer (some ⟨b1, 2, none⟩)) rfl (OpQ.y (OpY.fieldAddr Tfo_87_1 rfl rfl)) ?_
          refine Lex.q (v := .pointer (some ⟨b1, 3, none⟩)) rfl (OpQ.y (OpY.fieldAddr Tfo_39_1 rfl rfl)) ?_
          refine Lex.q (v := .slice (some ⟨bc, oc, none⟩) n cc) rfl (OpQ.y (OpY.load1 Tone_37 rfl (Cells.blk (.tail _ (List.Mem.head _)) ⟨rfl, trivial⟩))) ?_
          refine Lex.q (v := .int .i64 (((i : Nat) : Int))) rfl (OpQ.y (OpY.pure rfl)) ?_
          refine Lex.q (v := .pointer (some ⟨bc, oc + i * 3, none⟩)) rfl (OpQ.y (OpY.index (kk := i) Tsl_37 rfl rfl (by omega) (by omega) (by first | rfl | omega))) ?_
          refine Lex.q (v := .agg #[.int .i64 (ix xs (i * 3)), .int .i64 (ix xs (i * 3 + 1)), .int .i64 (ix xs (i * 3 + 2))]) rfl (OpQ.y (OpY.loadN (cs := [.int .i64 (ix xs (i * 3)), .int .i64 (ix xs (i * 3 + 1)), .int .i64 (ix xs (i * 3 + 2))]) Tagg_81 rfl (Cells.arg (k := i * 3) hc rfl (by omega) (pre3 (by omega))))) ?_
          refine Lex.q (v := .bool (common (gq xs j) (gq xs i))) rfl (OpQ.call (vs := [.agg #[.int .i64 (ix xs (j * 3)), .int .i64 (ix xs (j * 3 + 1)), .int .i64 (ix xs (j * 3 + 2))], .agg #[.int .i64 (ix xs (i * 3)), .int .i64 (ix xs (i * 3 + 1)), .int .i64 (ix xs (i * 3 + 2))]]) (caps := []) Tcall_89 rfl rfl (fun w hs => meet_spec _ _ _ _ _ _ w)) ?_
          refine Lex.q (v := .bool (common (gq xs j) (gq xs i))) rfl (OpQ.y (OpY.pure rfl)) ?_
          refine Lex.done ?_
          refine Run.cond (b := common (gq xs j) (gq xs i)) rfl (fun h48 => ?_) (fun h48 => ?_)
          · have p48 := h48; try simp only [bs] at p48
            refine Run.seq ?_
            have hres : rdy xs ds i = false := rdy_bad (j := j) hji (by simp_all)
            refine Run.region ?_
            refine Run.q (v := .bool false) rfl (OpQ.y (OpY.pure rfl)) ?_
            refine Run.done ?_
            refine Run.ret ?_
            refine ⟨.bool false, [], Out.one rfl rfl, (Some'.weak (.nil _)), ?_⟩
            show _ = _; rw [hres]
          · have p48 := h48; try simp only [bs] at p48
            refine Run.skip ?_
            refine Run.blockEnd ?_
            have hgood : (!bx ds j && common (gq xs j) (gq xs i)) = false := by simp_all
            refine Run.region ?_
            refine Run.q (v := .int .i64 ((((j : Nat) : Int)) + 1)) rfl (OpQ.y (OpY.add rfl rfl rfl (by omega) (by omega))) ?_
            refine Run.q (v := .int .i64 ((((j : Nat) : Int)) + 1)) rfl (OpQ.y (OpY.pure rfl)) ?_
            refine Run.done ?_
            refine Run.goal ⟨(by repeat (first | exact Same.refl _ _ | refine Same.put rfl ?_ | refine Same.over rfl rfl ?_)), j + 1, ?_, ?_, ?_, ?_⟩
            · refine ⟨by omega, fun q hq => ?_⟩
              rcases Nat.lt_succ_iff_lt_or_eq.1 hq with h | h
              · exact hinv.2 q h
              · rw [h]; exact hgood
            · omega
            · exact ⟨(by first | rfl | (congr 1; omega) | simp), trivial⟩
            · exact (Some'.weak (.skip (.take (.nil _))))
        · refine Lex.q (v := .bool false) rfl (OpQ.y (OpY.moveB rfl h39)) ?_
          have p39 := h39; try simp only [bs] at p39
          refine Lex.pass rfl ?_
          refine Lex.pass rfl ?_
          refine Lex.pass rfl ?_
          refine Lex.pass rfl ?_
          refine Lex.pass rfl ?_
          refine Lex.pass rfl ?_
          refine Lex.pass rfl ?_
          refine Lex.pass rfl ?_
          refine Lex.q (v := .bool false) rfl (OpQ.y (OpY.pure rfl)) ?_
          refine Lex.done ?_
          refine Run.cond (b := false) rfl (fun h => nomatch h) (fun _ => ?_)
          refine Run.skip ?_
          refine Run.blockEnd ?_
          have hgood : (!bx ds j && common (gq xs j) (gq xs i)) = false := by simp_all
          refine Run.region ?_
          refine Run.q (v := .int .i64 ((((j : Nat) : Int)) + 1)) rfl (OpQ.y (OpY.add rfl rfl rfl (by omega) (by omega))) ?_
          refine Run.q (v := .int .i64 ((((j : Nat) : Int)) + 1)) rfl (OpQ.y (OpY.pure rfl)) ?_
          refine Run.done ?_
          refine Run.goal ⟨(by repeat (first | exact Same.refl _ _ | refine Same.put rfl ?_ | refine Same.over rfl rfl ?_)), j + 1, ?_, ?_, ?_, ?_⟩
          · refine ⟨by omega, fun q hq => ?_⟩
            rcases Nat.lt_succ_iff_lt_or_eq.1 hq with h | h
            · exact hinv.2 q h
            · rw [h]; exact hgood
          · omega
          · exact ⟨(by first | rfl | (congr 1; omega) | simp), trivial⟩
          · exact (Some'.weak (.skip (.take (.nil _))))
      · have p29 := h29; try simp only [bs] at p29
        have hres : rdy xs ds i = true := rdy_good h0 fun q hq => hinv.2 q (by omega)
        refine Run.exit rfl ?_
        refine Run.seq ?_
        refine Run.region ?_
        refine Run.q (v := .bool true) rfl (OpQ.y (OpY.pure rfl)) ?_
        refine Run.done ?_
        refine Run.ret ?_
        refine ⟨.bool true, [], Out.one rfl rfl, (Some'.weak (.nil _)), ?_⟩
        show _ = _; rw [hres]

set_option maxHeartbeats 1000000 in
set_option maxRecDepth 20000 in
theorem l23Ready_spec {Q : Int} {vc vd : Value} {n i : Nat} {xs : List Int} {ds : List Bool} {w : World} (hi : i < n) (hc : Sl w vc 3 n (ints xs)) (hd : Sl w vd 1 n (bls ds)) : Calls Try.prog 82 #[.agg #[.int .i64 Q, vc], vd, .int .i64 (i : Nat)] w (Post No w fun v _ => v = .bool (rdy xs ds i)) := by
  have hcl := hc.len
  have hdl := hd.blen
  have hn := hc.le
  obtain ⟨Ac, cc, rfl, _, _⟩ := hc.form0
  obtain ⟨bc, oc, rfl⟩ := hc.opn (by omega)
  obtain ⟨Ad, cd, rfl, _, _⟩ := hd.form0
  obtain ⟨bd, od, rfl⟩ := hd.opn (by omega)
  have hw : within ((i : Nat) : Int) 0 (((n : Nat) : Int) - 1) = true := within_iff.2 (by omega)
  refine enter (n := 57) (args := [.agg #[.int .i64 Q, .slice (some ⟨bc, oc, none⟩) n cc], .slice (some ⟨bd, od, none⟩) n cd, .int .i64 (((i : Nat) : Int))]) Try.func82 rfl rfl (St.empty _ _) ?_
  refine Run.seq ?_
  refine Run.region ?_
  refine Run.step rfl (OpStep.box (us := [.int .i64 Q, .slice (some ⟨bc, oc, none⟩) n cc]) rfl fun b1 => ?_)
  refine Run.q (v := .bool false) rfl (OpQ.y (OpY.pure rfl)) ?_
  refine Run.done ?_
  refine Run.seq ?_
  refine Run.seq ?_
  refine Run.region ?_
  refine Run.q (v := .int .i64 (((i : Nat) : Int))) rfl (OpQ.y (OpY.pure rfl)) ?_
  refine Run.q (v := .pointer (some ⟨b1, 1, none⟩)) rfl (OpQ.y (OpY.fieldAddr Tfo_39_1 rfl rfl)) ?_
  refine Run.q (v := .slice (some ⟨bc, oc, none⟩) n cc) rfl (OpQ.y (OpY.load1 Tone_37 rfl (Cells.blk (.head _) ⟨rfl, trivial⟩))) ?_
  refine Run.q (v := .int .i64 (((n : Nat) : Int))) rfl (OpQ.y (OpY.len Tsl_37 rfl)) ?_
  refine Run.q (v := .int .i64 (((n : Nat) : Int) - 1)) rfl (OpQ.y (OpY.sub rfl rfl (by omega) (by omega) (by omega))) ?_
  refine Run.q (v := .bool true) rfl (OpQ.call (vs := [.int .i64 (((i : Nat) : Int)), .int .i64 0, .int .i64 (((n : Nat) : Int) - 1)]) (caps := []) Tcall_61 rfl rfl (fun w hs => (by have h := l1In_spec ((i : Nat) : Int) 0 (((n : Nat) : Int) - 1) w; rw [hw] at h; exact h))) ?_
  refine Run.q (v := .bool false) rfl (OpQ.y (OpY.pure rfl)) ?_
  refine Run.q (v := .bool false) rfl (OpQ.y (OpY.pure rfl)) ?_
  refine Run.q (v := .slice (some ⟨bd, od, none⟩) n cd) rfl (OpQ.y (OpY.pure rfl)) ?_
  refine Run.q (v := .int .i64 (((i : Nat) : Int))) rfl (OpQ.y (OpY.pure rfl)) ?_
  refine Run.q (v := .pointer (some ⟨bd, od + i, none⟩)) rfl (OpQ.y (OpY.index (kk := i) Tsl_85 rfl rfl (by omega) (by omega) (by first | rfl | omega))) ?_
  refine Run.q (v := .bool (bx ds (i))) rfl (OpQ.y (OpY.load1 Tone_4 rfl (Cells.arg (k := i) hd rfl (by omega) (preBl (by omega))))) ?_
  refine Run.q (v := .bool (bx ds (i))) rfl (OpQ.y (OpY.pure rfl)) ?_
  refine Run.done ?_
  refine Run.cond (b := bx ds (i)) rfl (fun h23 => ?_) (fun h23 => ?_)
  · have p23 := h23; try simp only [bs] at p23
    have hres : rdy xs ds i = false := rdy_done (by simpa using h23)
    refine Run.seq ?_
    refine Run.region ?_
    refine Run.q (v := .bool false) rfl (OpQ.y (OpY.pure rfl)) ?_
    refine Run.done ?_
    refine Run.ret ?_
    refine ⟨.bool false, [], Out.one rfl rfl, (Some'.weak (.nil _)), ?_⟩
    show _ = _; rw [hres]
  · have p23 := h23; try simp only [bs] at p23
    have h0 : bx ds i = false := by simpa using h23
    have hqi : (gq xs i).length ≤ 2 := qs_le _ _ _
    refine Run.skip ?_
    refine Run.seq ?_
    refine Run.region ?_
    refine Run.q (v := .pointer (some ⟨b1, 1, none⟩)) rfl (OpQ.y (OpY.fieldAddr Tfo_39_1 rfl rfl)) ?_
    refine Run.q (v := .slice (some ⟨bc, oc, none⟩) n cc) rfl (OpQ.y (OpY.load1 Tone_37 rfl (Cells.blk (.head _) ⟨rfl, trivial⟩))) ?_
    refine Run.q (v := .int .i64 (((i : Nat) : Int))) rfl (OpQ.y (OpY.pure rfl)) ?_
    refine Run.q (v := .pointer (some ⟨bc, oc + i * 3, none⟩)) rfl (OpQ.y (OpY.index (kk := i) Tsl_37 rfl rfl (by omega) (by omega) (by first | rfl | omega))) ?_
    refine Run.q (v := .agg #[.int .i64 (ix xs (i * 3)), .int .i64 (ix xs (i * 3 + 1)), .int .i64 (ix xs (i * 3 + 2))]) rfl (OpQ.y (OpY.loadN (cs := [.int .i64 (ix xs (i * 3)), .int .i64 (ix xs (i * 3 + 1)), .int .i64 (ix xs (i * 3 + 2))]) Tagg_81 rfl (Cells.arg (k := i * 3) hc rfl (by omega) (pre3 (by omega))))) ?_
    refine Run.step rfl (OpStep.call (vs := [.agg #[.int .i64 (ix xs (i * 3)), .int .i64 (ix xs (i * 3 + 1)), .int .i64 (ix xs (i * 3 + 2))]]) (caps := []) Tcall_92 rfl rfl (fun w hs => l23Qubits_spec _ _ _ w) ?_)
    rintro u1 _ rfl
    show Run _ _ (putF _ _ _ u1) [.own u1 3 1 ((gq xs i).length) (ints (gq xs i)), .blk b1 39 [.int .i64 Q, .slice (some ⟨bc, oc, none⟩) n cc]]
    refine Run.q (v := u1) rfl (OpQ.y (OpY.pure rfl)) ?_
    refine Run.done ?_
    refine Run.seq ?_
    refine Run.seq ?_
    refine Run.region ?_
    refine Run.q (v := .int .i64 0) rfl (OpQ.y (OpY.pure rfl)) ?_
    refine Run.done ?_
    refine Run.block ?_
    refine Run.loop (ι := Nat) [6, 8, 10, 30, 31, 32, 33, 34, 35, 36, 37, 38, 39, 40, 41, 42, 43, 44, 45, 46, 47, 48, 49, 50, 51, 52, 53, 54, 55, 56] (fun j => [(8, .int .i64 (((j : Nat) : Int)))]) (fun j => [.own u1 3 1 ((gq xs i).length) (ints (gq xs i)), .blk b1 39 [.int .i64 Q, .slice (some ⟨bc, oc, none⟩) n cc]]) (fun j => j ≤ i ∧ ∀ q, q < j → (!bx ds q && common (gq xs q) (gq xs i)) = false) (fun j => i - j) 0 ?_ ?_ ?_ ?_
    · exact ⟨Nat.zero_le _, fun q hq => by omega⟩
    · exact ⟨rfl, trivial⟩
    · exact (Some'.weak (.take (.take (.nil _))))
    · rintro j fr hinv
      show Run _ _ (over _ _ [(8, .int .i64 (((j : Nat) : Int)))] fr) [.own u1 3 1 ((gq xs i).length) (ints (gq xs i)), .blk b1 39 [.int .i64 Q, .slice (some ⟨bc, oc, none⟩) n cc]]
      try dsimp only at hinv
      refine Run.seq ?_
      refine Run.seq ?_
      refine Run.region ?_
      refine Run.q (v := .int .i64 (((j : Nat) : Int))) rfl (OpQ.y (OpY.pure rfl)) ?_
      refine Run.q (v := .int .i64 (((i : Nat) : Int))) rfl (OpQ.y (OpY.pure rfl)) ?_
      refine Run.q (v := .bool (decide ((((j : Nat) : Int)) < (((i : Nat) : Int))))) rfl (OpQ.y (OpY.pure rfl)) ?_
      refine Run.done ?_
      refine Run.cond (b := decide ((((j : Nat) : Int)) < (((i : Nat) : Int)))) rfl (fun h32 => ?_) (fun h32 => ?_)
      · have p32 := h32; try simp only [bs] at p32
        have hji : j < i := by omega
        have hinvA := hinv
        have hqj : (gq xs j).length ≤ 2 := qs_le _ _ _
        refine Run.skip ?_
        refine Run.seq ?_
        refine Run.block ?_
        refine Run.seq ?_
        refine Run.region ?_
        refine Run.q (v := .pointer (some ⟨b1, 1, none⟩)) rfl (OpQ.y (OpY.fieldAddr Tfo_39_1 rfl rfl)) ?_
        refine Run.q (v := .slice (some ⟨bc, oc, none⟩) n cc) rfl (OpQ.y (OpY.load1 Tone_37 rfl (Cells.blk (.tail _ (List.Mem.head _)) ⟨rfl, trivial⟩))) ?_
        refine Run.q (v := .int .i64 (((j : Nat) : Int))) rfl (OpQ.y (OpY.pure rfl)) ?_
        refine Run.q (v := .pointer (some ⟨bc, oc + j * 3, none⟩)) rfl (OpQ.y (OpY.index (kk := j) Tsl_37 rfl rfl (by omega) (by omega) (by first | rfl | omega))) ?_
        refine Run.q (v := .agg #[.int .i64 (ix xs (j * 3)), .int .i64 (ix xs (j * 3 + 1)), .int .i64 (ix xs (j * 3 + 2))]) rfl (OpQ.y (OpY.loadN (cs := [.int .i64 (ix xs (j * 3)), .int .i64 (ix xs (j * 3 + 1)), .int .i64 (ix xs (j * 3 + 2))]) Tagg_81 rfl (Cells.arg (k := j * 3) hc rfl (by omega) (pre3 (by omega))))) ?_
        refine Run.step rfl (OpStep.call (vs := [.agg #[.int .i64 (ix xs (j * 3)), .int .i64 (ix xs (j * 3 + 1)), .int .i64 (ix xs (j * 3 + 2))]]) (caps := []) Tcall_92 rfl rfl (fun w hs => l23Qubits_spec _ _ _ w) ?_)
        rintro u2 _ rfl
        show Run _ _ (putF _ _ _ u2) [.own u2 3 1 ((gq xs j).length) (ints (gq xs j)), .own u1 3 1 ((gq xs i).length) (ints (gq xs i)), .blk b1 39 [.int .i64 Q, .slice (some ⟨bc, oc, none⟩) n cc]]
        refine Run.formOwn (.head _) (fun A_u21 c_u21 hv hcapc_u21 hmaxc_u21 => ?_) (fun _ _ _ => ⟨nofun, nofun, nofun⟩)
        subst hv
        refine Run.q (v := .int .i64 ((((gq xs j).length : Nat) : Int))) rfl (OpQ.y (OpY.len Tsl_28 rfl)) ?_
        refine Run.q (v := .int .i64 0) rfl (OpQ.y (OpY.pure rfl)) ?_
        refine Run.done ?_
        refine Run.block ?_
        refine Run.loop (ι := Nat) [6, 10, 42, 43, 44, 45, 46, 47, 48, 49, 50, 51, 52, 53, 54, 55, 56] (fun m => [(42, .int .i64 (((m : Nat) : Int)))]) (fun m => [.own (.slice A_u21 ((gq xs j).length) c_u21) 3 1 ((gq xs j).length) (ints (gq xs j)), .own u1 3 1 ((gq xs i).length) (ints (gq xs i)), .blk b1 39 [.int .i64 Q, .slice (some ⟨bc, oc, none⟩) n cc]]) (fun m => m ≤ (gq xs j).length ∧ (∀ q, q < m → (!bx ds j && (gq xs i).contains (ix (gq xs j) q)) = false)) (fun m => (gq xs j).length - m) 0 ?_ ?_ ?_ ?_
        · exact ⟨Nat.zero_le _, by first | trivial | (intro i hi; omega)⟩
        · exact ⟨rfl, trivial⟩
        · exact (Some'.weak (.take (.take (.take (.nil _)))))
        · rintro m fr hinv
          show Run _ _ (over _ _ [(42, .int .i64 (((m : Nat) : Int)))] fr) [.own (.slice A_u21 ((gq xs j).length) c_u21) 3 1 ((gq xs j).length) (ints (gq xs j)), .own u1 3 1 ((gq xs i).length) (ints (gq xs i)), .blk b1 39 [.int .i64 Q, .slice (some ⟨bc, oc, none⟩) n cc]]
          try dsimp only at hinv
          refine Run.seq ?_
          refine Run.region ?_
          refine Run.q (v := .bool (decide ((((m : Nat) : Int)) < ((((gq xs j).length : Nat) : Int))))) rfl (OpQ.y (OpY.pure rfl)) ?_
          refine Run.done ?_
          refine Run.seq ?_
          refine Run.cond (b := decide ((((m : Nat) : Int)) < ((((gq xs j).length : Nat) : Int)))) rfl (fun h43 => ?_) (fun h43 => ?_)
          · have p43 := h43; try simp only [bs] at p43
            have hltm : m < (gq xs j).length := by omega
            refine Run.openOwn (.head _) (by omega) (fun g2 cg2 hvg2 hcapg2 _ => ?_) (fun _ _ _ => ⟨nofun, nofun, nofun⟩)
            injection hvg2 with hAg2 _ hcg2; subst hAg2; subst hcg2
            refine Run.skip ?_
            refine Run.seq ?_
            refine Run.block ?_
            refine Run.seq ?_
            refine Run.region ?_
            refine Run.q (v := .pointer (some ⟨g2, m, none⟩)) rfl (OpQ.y (OpY.index (kk := m) Tsl_28 rfl rfl (by omega) (by omega) (by first | rfl | omega))) ?_
            refine Run.q (v := .int .i64 (ix (gq xs j) (m))) rfl (OpQ.y (OpY.load1 Tone_3 rfl (Cells.own0 (.head _) (pre1 (by omega))))) ?_
            refine Run.q (v := .int .i64 (ix (gq xs j) (m))) rfl (OpQ.y (OpY.pure rfl)) ?_
            refine Run.done ?_
            refine Run.seq ?_
            refine Run.region ?_
            refine Run.q (v := .slice (some ⟨bd, od, none⟩) n cd) rfl (OpQ.y (OpY.pure rfl)) ?_
            refine Run.q (v := .int .i64 (((j : Nat) : Int))) rfl (OpQ.y (OpY.pure rfl)) ?_
            refine Run.q (v := .pointer (some ⟨bd, od + j, none⟩)) rfl (OpQ.y (OpY.index (kk := j) Tsl_85 rfl rfl (by omega) (by omega) (by first | rfl | omega))) ?_
            refine Run.q (v := .bool (bx ds (j))) rfl (OpQ.y (OpY.load1 Tone_4 rfl (Cells.arg (k := j) hd rfl (by omega) (preBl (by omega))))) ?_
            refine Run.q (v := .bool (!(bx ds (j)))) rfl (OpQ.y (OpY.pure rfl)) ?_
            rcases Bool.eq_false_or_eq_true (!(bx ds (j))) with h51 | h51
            · refine Run.q (v := .bool true) rfl (OpQ.y (OpY.moveB rfl h51)) ?_
              have p51 := h51; try simp only [bs] at p51
              refine Run.q (v := u1) rfl (OpQ.y (OpY.pure rfl)) ?_
              refine Run.q (v := .int .i64 (ix (gq xs j) (m))) rfl (OpQ.y (OpY.pure rfl)) ?_
              refine Run.q (v := .bool ((gq xs i).contains (ix (gq xs j) m))) rfl (OpQ.call (vs := [u1, .int .i64 (ix (gq xs j) (m))]) (caps := []) Tcall_62 rfl rfl (fun w hs => (by have h := l1Has_spec (x := ix (gq xs j) m) (hs.slOwn (.tail _ (List.Mem.head _))); rw [hasI_contains] at h; exact h))) ?_
              refine Run.q (v := .bool ((gq xs i).contains (ix (gq xs j) m))) rfl (OpQ.y (OpY.pure rfl)) ?_
              refine Run.done ?_
              refine Run.cond (b := (gq xs i).contains (ix (gq xs j) m)) rfl (fun h55 => ?_) (fun h55 => ?_)
              · have p55 := h55; try simp only [bs] at p55
                refine Run.seq ?_
                have hres : rdy xs ds i = false := rdy_bad (j := j) hji (by
                  have hcm : common (gq xs j) (gq xs i) = true := common_true hltm (by simp_all)
                  rw [hcm]; simp_all)
                refine Run.region ?_
                refine Run.q (v := .bool false) rfl (OpQ.y (OpY.pure rfl)) ?_
                refine Run.done ?_
                refine Run.ret ?_
                refine ⟨.bool false, [], Out.one rfl rfl, (Some'.weak (.nil _)), ?_⟩
                show _ = _; rw [hres]
              · have p55 := h55; try simp only [bs] at p55
                refine Run.skip ?_
                refine Run.blockEnd ?_
                have hgood : (!bx ds j && (gq xs i).contains (ix (gq xs j) m)) = false := by simp_all
                refine Run.region ?_
                refine Run.q (v := .int .i64 ((((m : Nat) : Int)) + 1)) rfl (OpQ.y (OpY.add rfl rfl rfl (by omega) (by omega))) ?_
                refine Run.q (v := .int .i64 ((((m : Nat) : Int)) + 1)) rfl (OpQ.y (OpY.pure rfl)) ?_
                refine Run.done ?_
                refine Run.goal ⟨(by repeat (first | exact Same.refl _ _ | refine Same.put rfl ?_ | refine Same.over rfl rfl ?_)), m + 1, ?_, ?_, ?_, ?_⟩
                · refine ⟨by omega, ?_⟩
                  intro i hi
                  rcases Nat.lt_succ_iff_lt_or_eq.1 hi with h | h
                  · exact hinv.2 i h
                  · rw [h]; exact hgood
                · omega
                · exact ⟨(by first | rfl | (congr 1; omega) | simp), trivial⟩
                · exact (Some'.weak (.takeEq (by first | rfl | simp) (.takeEq (by first | rfl | simp) (.take (.nil _)))))
            · refine Run.q (v := .bool false) rfl (OpQ.y (OpY.moveB rfl h51)) ?_
              have p51 := h51; try simp only [bs] at p51
              refine Run.pass rfl ?_
              refine Run.pass rfl ?_
              refine Run.pass rfl ?_
              refine Run.q (v := .bool false) rfl (OpQ.y (OpY.pure rfl)) ?_
              refine Run.done ?_
              refine Run.cond (b := false) rfl (fun h => nomatch h) (fun _ => ?_)
              refine Run.skip ?_
              refine Run.blockEnd ?_
              have hgood : (!bx ds j && (gq xs i).contains (ix (gq xs j) m)) = false := by simp_all
              refine Run.region ?_
              refine Run.q (v := .int .i64 ((((m : Nat) : Int)) + 1)) rfl (OpQ.y (OpY.add rfl rfl rfl (by omega) (by omega))) ?_
              refine Run.q (v := .int .i64 ((((m : Nat) : Int)) + 1)) rfl (OpQ.y (OpY.pure rfl)) ?_
              refine Run.done ?_
              refine Run.goal ⟨(by repeat (first | exact Same.refl _ _ | refine Same.put rfl ?_ | refine Same.over rfl rfl ?_)), m + 1, ?_, ?_, ?_, ?_⟩
              · refine ⟨by omega, ?_⟩
                intro i hi
                rcases Nat.lt_succ_iff_lt_or_eq.1 hi with h | h
                · exact hinv.2 i h
                · rw [h]; exact hgood
              · omega
              · exact ⟨(by first | rfl | (congr 1; omega) | simp), trivial⟩
              · exact (Some'.weak (.takeEq (by first | rfl | simp) (.takeEq (by first | rfl | simp) (.take (.nil _)))))
          · have p43 := h43; try simp only [bs] at p43
            have hknm : m = (gq xs j).length := by omega
            have hgoodJ : (!bx ds j && common (gq xs j) (gq xs i)) = false := by
              cases hb : bx ds j with
              | true => rfl
              | false =>
                rw [common_false fun q hq => by have h := hinv.2 q (by omega); rw [hb] at h; simpa using h]; rfl
            refine Run.exit rfl ?_
            refine Run.blockEnd ?_
            refine Run.region ?_
            refine Run.q (v := .int .i64 (((j : Nat) : Int))) rfl (OpQ.y (OpY.pure rfl)) ?_
            refine Run.q (v := .int .i64 ((((j : Nat) : Int)) + 1)) rfl (OpQ.y (OpY.add rfl rfl rfl (by omega) (by omega))) ?_
            refine Run.q (v := .int .i64 ((((j : Nat) : Int)) + 1)) rfl (OpQ.y (OpY.pure rfl)) ?_
            refine Run.done ?_
            refine Run.goal ⟨(by repeat (first | exact Same.refl _ _ | refine Same.put rfl ?_ | refine Same.over rfl rfl ?_)), j + 1, ?_, ?_, ?_, ?_⟩
            · refine ⟨by omega, fun q hq => ?_⟩
              rcases Nat.lt_succ_iff_lt_or_eq.1 hq with h | h
              · exact hinvA.2 q h
              · rw [h]; exact hgoodJ
            · omega
            · exact ⟨(by first | rfl | (congr 1; omega) | simp), trivial⟩
            · exact (Some'.weak (.skip (.takeEq (by first | rfl | simp) (.take (.nil _)))))
      · have p32 := h32; try simp only [bs] at p32
        have hres : rdy xs ds i = true := rdy_good h0 fun q hq => hinv.2 q (by omega)
        refine Run.exit rfl ?_
        refine Run.seq ?_
        refine Run.region ?_
        refine Run.q (v := .bool true) rfl (OpQ.y (OpY.pure rfl)) ?_
        refine Run.done ?_
        refine Run.ret ?_
        refine ⟨.bool true, [], Out.one rfl rfl, (Some'.weak (.nil _)), ?_⟩
        show _ = _; rw [hres]

end Go.Proofs.Ytekikmdjldincaa
/- Walks: a routing does what can be done. -/
set_option linter.unusedSimpArgs false
set_option linter.unusedVariables false
namespace Go.Proofs.Ytekikmdjldincaa
open Go Go.RowKit
namespace LsbT
theorem Tagg_87 : aggOf Try.prog 87 = some 6 := by kernel_rfl
theorem Tcall_74 : callable Try.prog 74 = true := by kernel_rfl
theorem Tcall_75 : callable Try.prog 75 = true := by kernel_rfl
theorem Tfo_39_1 : fieldOff Try.prog 39 1 = some 1 := by kernel_rfl
theorem Tfo_87_1 : fieldOff Try.prog 87 1 = some 2 := by kernel_rfl
theorem Tfo_87_3 : fieldOff Try.prog 87 3 = some 5 := by kernel_rfl
theorem Tfo_90_0 : fieldOff Try.prog 90 0 = some 0 := by kernel_rfl
theorem Tfo_90_1 : fieldOff Try.prog 90 1 = some 6 := by kernel_rfl
theorem Tone_37 : oneOf Try.prog 37 = true := by kernel_rfl
theorem Tone_46 : oneOf Try.prog 46 = true := by kernel_rfl
theorem Tone_85 : oneOf Try.prog 85 = true := by kernel_rfl
theorem Tsize_4 : (Try.prog.info? 4).map (·.size) = some 1 := by kernel_rfl
theorem Tsize_46 : (Try.prog.info? 46).map (·.size) = some 1 := by kernel_rfl
theorem Tsl_37 : sliceOf Try.prog 37 = some (81, 3, 24, [.int .i64 0, .int .i64 0, .int .i64 0]) := by kernel_rfl
theorem Tsl_46 : sliceOf Try.prog 46 = some (101, 3, 24, [.int .i64 0, .int .i64 0, .int .i64 0]) := by kernel_rfl
theorem Tsl_85 : sliceOf Try.prog 85 = some (4, 1, 1, [.bool false]) := by kernel_rfl
end LsbT
open LsbT
/-- A slice that lies apart from the blocks that may turn. -/
structure Ap (H0 : List Res) (w : World) (v : Value) (size n : Nat) (xs : List Value) : Prop where
  sl : Sl w v size n xs
  off : 0 < n → ∀ k, v.ownBlock = some k → ¬ Of H0 k
theorem Ap.go {H0 H : List Res} {w0 w : World} {v : Value} {size n : Nat} {xs : List Value} (h : Ap H0 w0 v size n xs) (hs : St (Of H0) w0 w H) : Sl w v size n xs := hs.slOff h.sl h.off
theorem Sl.lt {w : World} {v : Value} {size n : Nat} {xs : List Value} (h : Sl w v size n xs) (h0 : 0 < n) {k : Nat} (hk : v.ownBlock = some k) : k < w.heap.size := by
  obtain ⟨_, A, c, rfl, _, _, h4⟩ := h
  obtain ⟨b, o, rfl, hb, _⟩ := h4 h0
  simp only [Value.ownBlock, Option.some.injEq] at hk; subst hk; exact hb
theorem Ap.arg {H0 R : List Res} {w0 w : World} {v : Value} {size n : Nat} {xs : List Value} (h : Sl w0 v size n xs) (hs : St No w0 w (H0 ++ R)) : Ap H0 w v size n xs :=
  ⟨hs.sl h, fun h0 k hk ⟨r, hr, hrk⟩ => hs.fresh r (List.mem_append_left _ hr) k hrk (h.lt h0 hk)⟩
theorem Ap.own {M : Nat → Prop} {H0 R : List Res} {w0 w : World} {v : Value} {e : TypeId} {size n : Nat} {xs : List Value} (hm : Res.own v e size n xs ∈ R) (hs : St M w0 w (H0 ++ R)) : Ap H0 w v size n xs :=
  ⟨hs.slOwn (List.mem_append_right _ hm), fun _ k hk ⟨r, hr, hrk⟩ => (List.pairwise_append.1 hs.disj).2.2 r hr _ hm k hrk hk⟩
theorem Cells.ap {E : Env} {H H0 : List Res} {b o n c size : Nat} {xs ys : List Value} {k : Nat} (h : Ap H0 E.w0 (.slice (some ⟨b, o, none⟩) n c) size n xs) (hM : E.M = Of H0) (hn : 0 < n) (hp : Pre xs k ys) : Cells E H b (o + k) ys := by
  intro w hs
  have hs' : St (Of H0) E.w0 w H := by rw [← hM]; exact hs
  obtain ⟨_, A, c', he, _, _, h4⟩ := h.go hs'
  injection he with e1 _ _
  obtain ⟨b', o', hA, _, hr⟩ := h4 hn
  rw [hA] at e1
  injection e1 with e1
  injection e1 with e2 e3
  subst e2; subst e3
  intro j v hv
  have := hr (k + j) v (hp.get j v hv)
  rw [← Nat.add_assoc] at this; exact this
abbrev T3 := Int × Int × Int
def fl3 : List T3 → List Int
  | [] => []
  | t :: l => t.1 :: t.2.1 :: t.2.2 :: fl3 l
theorem fl3_append : ∀ l r : List T3, fl3 (l ++ r) = fl3 l ++ fl3 r
  | [], r => rfl
  | t :: l, r => by simp [fl3, fl3_append l r]
@[simp] theorem fl3_length : ∀ l : List T3, (fl3 l).length = l.length * 3
  | [] => rfl
  | t :: l => by simp [fl3, fl3_length l]; omega
theorem ints_fl3 (l : List T3) (a b c : Int) : ints (fl3 (l ++ [(a, b, c)])) = ints (fl3 l) ++ [.int .i64 a, .int .i64 b, .int .i64 c] := by rw [fl3_append, ints_append]; rfl
abbrev st3 (i : Nat) : T3 := ((i : Int), 0, 0)
/-- What can be done is done, the first first. -/
def adv (g : List Bool → Nat → Bool) (n : Nat) : Nat → List Bool → List T3 → List Bool × List T3
  | 0, ds, L => (ds, L)
  | f + 1, ds, L => if findI (g ds) n < 0 then (ds, L) else adv g n f (ds.set (findI (g ds) n).toNat true) (L ++ [(findI (g ds) n, 0, 0)])
def und (ds : List Bool) : Nat := ds.count false
def advS (g : List Bool → Nat → Bool) (n : Nat) (ds : List Bool) (L : List T3) : List Bool × List T3 := adv g n (und ds) ds L
theorem und_set {ds : List Bool} {i : Nat} (hi : i < ds.length) (h : bx ds i = false) : und ds = und (ds.set i true) + 1 := by
  have h1 : ds[i] = false := by simpa [bx, List.getD, hi] using h
  unfold und
  rw [List.count_set hi, h1]
  have h2 : 0 < ds.count false := List.count_pos_iff.2 (h1 ▸ List.getElem_mem hi)
  simp; omega
theorem advS_step {g : List Bool → Nat → Bool} {n i : Nat} {ds : List Bool} {L : List T3} (hl : ds.length = n) (hi : i < n) (hg : g ds i = true) (hb : bx ds i = false) (hlow : ∀ j, j < i → g ds j = false) : advS g n ds L = advS g n (ds.set i true) (L ++ [st3 i]) := by
  have hf : findI (g ds) n = i := findI_hit hlow hg hi
  rw [advS, und_set (by omega) hb, adv, hf, if_neg (by omega), Int.toNat_natCast, advS]
theorem advS_stop {g : List Bool → Nat → Bool} {n : Nat} {ds : List Bool} {L : List T3} (h : ∀ j, j < n → g ds j = false) : advS g n ds L = (ds, L) := by
  have hf : findI (g ds) n = -1 := findI_none h
  unfold advS
  cases und ds with
  | zero => rfl
  | succ f => rw [adv, hf, if_pos (by omega)]
def goB (es : List Int) (m : Nat) (xs ps : List Int) (ds : List Bool) (i : Nat) : Bool := rdy xs ds i && nearG es m xs ps i
theorem goB_open {es xs ps : List Int} {m i : Nat} {ds : List Bool} (h : goB es m xs ps ds i = true) : bx ds i = false := by
  unfold goB rdy at h
  simp only [Bool.and_eq_true, Bool.not_eq_true'] at h
  exact h.1.1
def HIN (n pn : Nat) (xs ps : List Int) : Prop := ∀ k, k < n → isTwoI (ix xs (k * 3)) = true → (0 ≤ ix xs (k * 3 + 1) ∧ (ix xs (k * 3 + 1)).toNat < pn) ∧ (0 ≤ ix xs (k * 3 + 2) ∧ (ix xs (k * 3 + 2)).toNat < pn) ∧ ix ps (ix xs (k * 3 + 1)).toNat ≠ ix ps (ix xs (k * 3 + 2)).toNat

set_option maxHeartbeats 1000000 in
set_option maxRecDepth 20000 in
theorem advance_spec {N Q : Int} {vg vc vp vd vs : Value} {bn m n pn : Nat} {es xs ps : List Int} {ds0 : List Bool} {L0 : List T3} {w : World} (hn4 : n ≤ 400) (hdl : ds0.length = n) (he : edgesOk N es m = true) (hin : HIN n pn xs ps) (hL : L0.length ≤ 20000000) (hg : Ap [.blk bn 90 [.int .i64 N, vg, .int .i64 Q, vc, vp, vd, vs], .own vd 4 1 n (bls ds0), .own vs 101 3 (L0.length) (ints (fl3 L0))] w vg 2 m (ints es)) (hc : Ap [.blk bn 90 [.int .i64 N, vg, .int .i64 Q, vc, vp, vd, vs], .own vd 4 1 n (bls ds0), .own vs 101 3 (L0.length) (ints (fl3 L0))] w vc 3 n (ints xs)) (hp : Ap [.blk bn 90 [.int .i64 N, vg, .int .i64 Q, vc, vp, vd, vs], .own vd 4 1 n (bls ds0), .own vs 101 3 (L0.length) (ints (fl3 L0))] w vp 1 pn (ints ps)) (h : St (Of [.blk bn 90 [.int .i64 N, vg, .int .i64 Q, vc, vp, vd, vs], .own vd 4 1 n (bls ds0), .own vs 101 3 (L0.length) (ints (fl3 L0))]) w w [.blk bn 90 [.int .i64 N, vg, .int .i64 Q, vc, vp, vd, vs], .own vd 4 1 n (bls ds0), .own vs 101 3 (L0.length) (ints (fl3 L0))]) : Calls Try.prog 51 #[.pointer (some ⟨bn, 0, none⟩)] w (Post (Of [.blk bn 90 [.int .i64 N, vg, .int .i64 Q, vc, vp, vd, vs], .own vd 4 1 n (bls ds0), .own vs 101 3 (L0.length) (ints (fl3 L0))]) w fun v H => ∃ vd2 vs2, v = .tuple #[] ∧ H = [.blk bn 90 [.int .i64 N, vg, .int .i64 Q, vc, vp, vd2, vs2], .own vd2 4 1 n (bls ((advS (goB es m xs ps) n ds0 L0).1)), .own vs2 101 3 (((advS (goB es m xs ps) n ds0 L0).2).length) (ints (fl3 ((advS (goB es m xs ps) n ds0 L0).2)))]) := by
  obtain ⟨Ac, cc, rfl, _, _⟩ := hc.sl.form0
  have hund : und ds0 ≤ ds0.length := List.count_le_length
  refine enter (n := 46) (args := [.pointer (some ⟨bn, 0, none⟩)]) Try.func51 rfl rfl (h) ?_
  refine Run.seq ?_
  refine Run.region ?_
  refine Run.q (v := .int .i64 0) rfl (OpQ.y (OpY.pure rfl)) ?_
  refine Run.done ?_
  refine Run.block ?_
  refine Run.loop (ι := Nat × List Bool × List T3 × Value × Value) [2, 3, 4, 5, 6, 7, 8, 9, 10, 11, 12, 13, 14, 15, 16, 17, 18, 19, 20, 21, 22, 23, 24, 25, 26, 27, 28, 29, 30, 31, 32, 33, 34, 35, 36, 37, 38, 39, 40, 41, 42, 43, 44, 45] (fun ⟨i, ds, L, wd, ws⟩ => [(2, .int .i64 (((i : Nat) : Int)))]) (fun ⟨i, ds, L, wd, ws⟩ => [.blk bn 90 [.int .i64 N, vg, .int .i64 Q, .slice Ac n cc, vp, wd, ws], .own wd 4 1 n (bls ds), .own ws 101 3 (L.length) (ints (fl3 L))]) (fun ⟨i, ds, L, wd, ws⟩ => i ≤ n ∧ ds.length = n ∧ (∀ j, j < i → goB es m xs ps ds j = false) ∧ advS (goB es m xs ps) n ds L = advS (goB es m xs ps) n ds0 L0 ∧ L.length + und ds ≤ L0.length + und ds0) (fun ⟨i, ds, L, wd, ws⟩ => und ds * (n + 1) + (n - i)) (0, ds0, L0, vd, vs) ?_ ?_ ?_ ?_
  · exact ⟨Nat.zero_le _, hdl, fun j hj => by omega, rfl, Nat.le_refl _⟩
  · exact ⟨rfl, trivial⟩
  · exact ((Weak.refl _).trans (Some'.weak (.takeEq (by first | rfl | simp) (.takeEq (by first | rfl | simp) (.takeEq (by first | rfl | simp) (.nil _))))))
  · rintro ⟨i, ds, L, wd, ws⟩ fr hinv
    show Run _ _ (over _ _ [(2, .int .i64 (((i : Nat) : Int)))] fr) [.blk bn 90 [.int .i64 N, vg, .int .i64 Q, .slice Ac n cc, vp, wd, ws], .own wd 4 1 n (bls ds), .own ws 101 3 (L.length) (ints (fl3 L))]
    try dsimp only at hinv
    refine Run.seq ?_
    refine Run.seq ?_
    refine Run.region ?_
    refine Run.q (v := .int .i64 (((i : Nat) : Int))) rfl (OpQ.y (OpY.pure rfl)) ?_
    refine Run.q (v := .pointer (some ⟨bn, 0, none⟩)) rfl (OpQ.y (OpY.pure rfl)) ?_
    refine Run.q (v := .pointer (some ⟨bn, 0, none⟩)) rfl (OpQ.y (OpY.nilCheck rfl)) ?_
    refine Run.q (v := .pointer (some ⟨bn, 0, none⟩)) rfl (OpQ.y (OpY.fieldAddr Tfo_90_0 rfl rfl)) ?_
    refine Run.q (v := .pointer (some ⟨bn, 2, none⟩)) rfl (OpQ.y (OpY.fieldAddr Tfo_87_1 rfl rfl)) ?_
    refine Run.q (v := .pointer (some ⟨bn, 3, none⟩)) rfl (OpQ.y (OpY.fieldAddr Tfo_39_1 rfl rfl)) ?_
    refine Run.q (v := .slice Ac n cc) rfl (OpQ.y (OpY.load1 Tone_37 rfl (Cells.blk (.head _) ⟨rfl, trivial⟩))) ?_
    refine Run.q (v := .int .i64 (((n : Nat) : Int))) rfl (OpQ.y (OpY.len Tsl_37 rfl)) ?_
    refine Run.q (v := .bool (decide ((((i : Nat) : Int)) < (((n : Nat) : Int))))) rfl (OpQ.y (OpY.pure rfl)) ?_
    refine Run.done ?_
    refine Run.cond (b := decide ((((i : Nat) : Int)) < (((n : Nat) : Int)))) rfl (fun h11 => ?_) (fun h11 => ?_)
    · have p11 := h11; try simp only [bs] at p11
      have hin1 : i < n := by omega
      obtain ⟨hiN, hdl2, hlow, hsame, hLl⟩ := hinv
      refine Run.openOwn (.tail _ (List.Mem.head _)) (by omega) (fun gd cd hvgd hcapgd _ => ?_) (fun _ _ _ => ⟨nofun, nofun, nofun⟩)
      subst hvgd
      refine Run.skip ?_
      refine Run.seq ?_
      refine Run.block ?_
      refine Run.seq ?_
      refine Run.region ?_
      refine Run.q (v := .pointer (some ⟨bn, 0, none⟩)) rfl (OpQ.y (OpY.pure rfl)) ?_
      refine Run.q (v := .pointer (some ⟨bn, 0, none⟩)) rfl (OpQ.y (OpY.nilCheck rfl)) ?_
      refine Run.q (v := .pointer (some ⟨bn, 0, none⟩)) rfl (OpQ.y (OpY.fieldAddr Tfo_90_0 rfl rfl)) ?_
      refine Run.q (v := .agg #[.int .i64 N, vg, .int .i64 Q, .slice Ac n cc, vp, .slice (some ⟨gd, 0, none⟩) n cd]) rfl (OpQ.y (OpY.loadN (cs := [.int .i64 N, vg, .int .i64 Q, .slice Ac n cc, vp, .slice (some ⟨gd, 0, none⟩) n cd]) Tagg_87 rfl (Cells.blk (.head _) ⟨rfl, rfl, rfl, rfl, rfl, rfl, trivial⟩))) ?_
      refine Run.q (v := .int .i64 (((i : Nat) : Int))) rfl (OpQ.y (OpY.pure rfl)) ?_
      refine Run.q (v := .bool (rdy xs ds i)) rfl (OpQ.call (vs := [.agg #[.int .i64 N, vg, .int .i64 Q, .slice Ac n cc, vp, .slice (some ⟨gd, 0, none⟩) n cd], .int .i64 (((i : Nat) : Int))]) (caps := []) Tcall_74 rfl rfl (fun w hs => isReady_spec hin1 (hc.go hs) (hs.slOwn (.tail _ (List.Mem.head _))))) ?_
      rcases Bool.eq_false_or_eq_true (rdy xs ds i) with h20 | h20
      · refine Run.q (v := .bool true) rfl (OpQ.y (OpY.moveB rfl h20)) ?_
        have p20 := h20; try simp only [bs] at p20
        refine Run.q (v := .pointer (some ⟨bn, 0, none⟩)) rfl (OpQ.y (OpY.pure rfl)) ?_
        refine Run.q (v := .pointer (some ⟨bn, 0, none⟩)) rfl (OpQ.y (OpY.nilCheck rfl)) ?_
        refine Run.q (v := .pointer (some ⟨bn, 0, none⟩)) rfl (OpQ.y (OpY.fieldAddr Tfo_90_0 rfl rfl)) ?_
        refine Run.q (v := .agg #[.int .i64 N, vg, .int .i64 Q, .slice Ac n cc, vp, .slice (some ⟨gd, 0, none⟩) n cd]) rfl (OpQ.y (OpY.loadN (cs := [.int .i64 N, vg, .int .i64 Q, .slice Ac n cc, vp, .slice (some ⟨gd, 0, none⟩) n cd]) Tagg_87 rfl (Cells.blk (.head _) ⟨rfl, rfl, rfl, rfl, rfl, rfl, trivial⟩))) ?_
        refine Run.q (v := .int .i64 (((i : Nat) : Int))) rfl (OpQ.y (OpY.pure rfl)) ?_
        refine Run.q (v := .bool (nearG es m xs ps i)) rfl (OpQ.call (vs := [.agg #[.int .i64 N, vg, .int .i64 Q, .slice Ac n cc, vp, .slice (some ⟨gd, 0, none⟩) n cd], .int .i64 (((i : Nat) : Int))]) (caps := []) Tcall_75 rfl rfl (fun w hs => fits_spec hin1 he (hin i hin1) (hg.go hs) (hc.go hs) (hp.go hs))) ?_
        refine Run.q (v := .bool (nearG es m xs ps i)) rfl (OpQ.y (OpY.pure rfl)) ?_
        refine Run.done ?_
        refine Run.cond (b := nearG es m xs ps i) rfl (fun h27 => ?_) (fun h27 => ?_)
        · have p27 := h27; try simp only [bs] at p27
          have hgo : goB es m xs ps ds i = true := by unfold goB; simp_all
          have hopen := goB_open hgo
          have hu := und_set (ds := ds) (i := i) (by omega) hopen
          have hst := advS_step (L := L) hdl2 hin1 hgo hopen hlow
          have hmu : und (ds.set i true) * (n + 1) + (n + 1) = und ds * (n + 1) := by rw [hu, Nat.add_mul, Nat.one_mul]
          refine Run.seq ?_
          refine Run.region ?_
          refine Run.q (v := .pointer (some ⟨bn, 0, none⟩)) rfl (OpQ.y (OpY.pure rfl)) ?_
          refine Run.q (v := .pointer (some ⟨bn, 0, none⟩)) rfl (OpQ.y (OpY.nilCheck rfl)) ?_
          refine Run.q (v := .pointer (some ⟨bn, 0, none⟩)) rfl (OpQ.y (OpY.fieldAddr Tfo_90_0 rfl rfl)) ?_
          refine Run.q (v := .pointer (some ⟨bn, 5, none⟩)) rfl (OpQ.y (OpY.fieldAddr Tfo_87_3 rfl rfl)) ?_
          refine Run.q (v := .slice (some ⟨gd, 0, none⟩) n cd) rfl (OpQ.y (OpY.load1 Tone_85 rfl (Cells.blk (.head _) ⟨rfl, trivial⟩))) ?_
          refine Run.q (v := .int .i64 (((i : Nat) : Int))) rfl (OpQ.y (OpY.pure rfl)) ?_
          refine Run.q (v := .pointer (some ⟨gd, i, none⟩)) rfl (OpQ.y (OpY.index (kk := i) Tsl_85 rfl rfl (by omega) (by omega) (by first | rfl | omega))) ?_
          refine Run.step rfl (OpStep.storeOwn (us := [.bool true]) Tsize_4 rfl rfl rfl rfl (by rw [bls_set]; exact (.there _ (.here _))) (by simp only [List.length_cons, List.length_nil]; omega) ?_)
          refine Run.done ?_
          refine Run.seq ?_
          refine Run.region ?_
          refine Run.q (v := .pointer (some ⟨bn, 0, none⟩)) rfl (OpQ.y (OpY.pure rfl)) ?_
          refine Run.q (v := .pointer (some ⟨bn, 0, none⟩)) rfl (OpQ.y (OpY.pure rfl)) ?_
          refine Run.q (v := .pointer (some ⟨bn, 0, none⟩)) rfl (OpQ.y (OpY.nilCheck rfl)) ?_
          refine Run.q (v := .pointer (some ⟨bn, 6, none⟩)) rfl (OpQ.y (OpY.fieldAddr Tfo_90_1 rfl rfl)) ?_
          refine Run.q (v := ws) rfl (OpQ.y (OpY.load1 Tone_46 rfl (Cells.blk (.head _) ⟨rfl, trivial⟩))) ?_
          refine Run.q (v := .int .i64 (((i : Nat) : Int))) rfl (OpQ.y (OpY.pure rfl)) ?_
          refine Run.q (v := .agg #[.int .i64 (((i : Nat) : Int)), .int .i64 0, .int .i64 0]) rfl (OpQ.y (OpY.build (cs := [.int .i64 (((i : Nat) : Int)), .int .i64 0, .int .i64 0]) (by kernel_rfl))) ?_
          refine Run.step rfl (OpStep.buildSlice (us := [.int .i64 (((i : Nat) : Int)), .int .i64 0, .int .i64 0]) Tsl_46 (by decide) (by decide) ⟨rfl, [.int .i64 (((i : Nat) : Int)), .int .i64 0, .int .i64 0], _, rfl, rfl, rfl, rfl⟩ rfl fun b1 => ?_)
          refine Run.step rfl (OpStep.append (H1 := [.own (.slice (some ⟨b1, 0, none⟩) 1 1) 101 3 1 ([.int .i64 (((i : Nat) : Int)), .int .i64 0, .int .i64 0]), .blk bn 90 [.int .i64 N, vg, .int .i64 Q, .slice Ac n cc, vp, .slice (some ⟨gd, 0, none⟩) n cd, ws], .own (.slice (some ⟨gd, 0, none⟩) n cd) 4 1 n (bls (ds.set i true))]) (H2 := []) (v := ws) (u := .slice (some ⟨b1, 0, none⟩) 1 1) (n := L.length) (m := 1) (xs := ints (fl3 L)) (ys := [.int .i64 (((i : Nat) : Int)), .int .i64 0, .int .i64 0]) Tsl_46 (by decide) rfl rfl rfl rfl (fun w hs => hs.slOwn (.head _)) (by simp [Value.oneCell']) (by omega) (by simp only [maxLen]; omega) fun av1 hnav1 => ?_)
          refine Run.weak (H' := [.own (.slice (some ⟨b1, 0, none⟩) 1 1) 101 3 1 ([.int .i64 (((i : Nat) : Int)), .int .i64 0, .int .i64 0]), .blk bn 90 [.int .i64 N, vg, .int .i64 Q, .slice Ac n cc, vp, .slice (some ⟨gd, 0, none⟩) n cd, ws], .own (.slice (some ⟨gd, 0, none⟩) n cd) 4 1 n (bls (ds.set i true)), .own av1 101 3 ((L ++ [st3 i]).length) (ints (fl3 (L ++ [st3 i])))]) (Some'.weak (.take (.take (.take (.takeEq (by rw [ints_fl3]; exact congrArg (fun k => Res.own _ _ _ k _) (by simp)) (.nil _)))))) ?_ ⟨_, _, rfl, fun _ => nofun, fun _ => nofun⟩
          refine Run.q (v := .pointer (some ⟨bn, 0, none⟩)) rfl (OpQ.y (OpY.nilCheck rfl)) ?_
          refine Run.q (v := .pointer (some ⟨bn, 6, none⟩)) rfl (OpQ.y (OpY.fieldAddr Tfo_90_1 rfl rfl)) ?_
          refine Run.formOwn (.tail _ (.tail _ (.tail _ (List.Mem.head _)))) (fun A_av11 c_av11 hv hcapc_av11 hmaxc_av11 => ?_) (fun _ _ _ => ⟨nofun, nofun, nofun⟩)
          subst hv
          refine Run.step rfl (OpStep.store (us := [.slice A_av11 ((L ++ [st3 i]).length) c_av11]) Tsize_46 rfl rfl rfl (.there _ (.here _)) (by simp only [List.length_cons, List.length_nil]; omega) ?_)
          show Run _ _ _ [.own (.slice (some ⟨b1, 0, none⟩) 1 1) 101 3 1 ([.int .i64 (((i : Nat) : Int)), .int .i64 0, .int .i64 0]), .blk bn 90 [.int .i64 N, vg, .int .i64 Q, .slice Ac n cc, vp, .slice (some ⟨gd, 0, none⟩) n cd, .slice A_av11 ((L ++ [st3 i]).length) c_av11], .own (.slice (some ⟨gd, 0, none⟩) n cd) 4 1 n (bls (ds.set i true)), .own (.slice A_av11 ((L ++ [st3 i]).length) c_av11) 101 3 ((L ++ [st3 i]).length) (ints (fl3 (L ++ [st3 i])))]
          refine Run.done ?_
          refine Run.region ?_
          refine Run.q (v := .int .i64 (-1)) rfl (OpQ.y (OpY.pure rfl)) ?_
          refine Run.done ?_
          refine Run.blockEnd ?_
          refine Run.region ?_
          refine Run.q (v := .int .i64 (-1)) rfl (OpQ.y (OpY.pure rfl)) ?_
          refine Run.q (v := .int .i64 ((-1) + 1)) rfl (OpQ.y (OpY.add rfl rfl rfl (by omega) (by omega))) ?_
          refine Run.q (v := .int .i64 ((-1) + 1)) rfl (OpQ.y (OpY.pure rfl)) ?_
          refine Run.done ?_
          refine Run.goal ⟨(by repeat (first | exact Same.refl _ _ | refine Same.put rfl ?_ | refine Same.over rfl rfl ?_)), (0, ds.set i true, L ++ [st3 i], .slice (some ⟨gd, 0, none⟩) n cd, .slice A_av11 ((L ++ [st3 i]).length) c_av11), ?_, ?_, ?_, ?_⟩
          · first | exact ⟨hin1, hdl2, hlow1, hsame, hLl⟩ | exact ⟨Nat.zero_le _, by rw [List.length_set]; exact hdl2, fun j hj => by omega, by rw [← hst]; exact hsame, by rw [List.length_append]; simp only [List.length_cons, List.length_nil]; omega⟩
          · dsimp only; omega
          · exact ⟨(by show Value.int _ _ = Value.int _ _; congr 1 <;> omega), trivial⟩
          · exact ((Weak.selF [1, 1, 1]).trans (Some'.weak (.takeEq (by first | rfl | simp) (.takeEq (by first | rfl | simp) (.takeEq (by first | rfl | simp) (.nil _))))))
        · have p27 := h27; try simp only [bs] at p27
          have hgo : goB es m xs ps ds i = false := by unfold goB; simp_all
          have hlow1 : ∀ j, j < i + 1 → goB es m xs ps ds j = false := by
            intro j hj
            rcases Nat.lt_succ_iff_lt_or_eq.1 hj with h | h
            · exact hlow j h
            · rw [h]; exact hgo
          refine Run.skip ?_
          refine Run.blockEnd ?_
          refine Run.region ?_
          refine Run.q (v := .int .i64 (((i : Nat) : Int))) rfl (OpQ.y (OpY.pure rfl)) ?_
          refine Run.q (v := .int .i64 ((((i : Nat) : Int)) + 1)) rfl (OpQ.y (OpY.add rfl rfl rfl (by omega) (by omega))) ?_
          refine Run.q (v := .int .i64 ((((i : Nat) : Int)) + 1)) rfl (OpQ.y (OpY.pure rfl)) ?_
          refine Run.done ?_
          refine Run.goal ⟨(by repeat (first | exact Same.refl _ _ | refine Same.put rfl ?_ | refine Same.over rfl rfl ?_)), (i + 1, ds, L, .slice (some ⟨gd, 0, none⟩) n cd, ws), ?_, ?_, ?_, ?_⟩
          · first | exact ⟨hin1, hdl2, hlow1, hsame, hLl⟩ | exact ⟨Nat.zero_le _, by rw [List.length_set]; exact hdl2, fun j hj => by omega, by rw [← hst]; exact hsame, by rw [List.length_append]; simp only [List.length_cons, List.length_nil]; omega⟩
          · dsimp only; omega
          · exact ⟨(by show Value.int _ _ = Value.int _ _; congr 1 <;> omega), trivial⟩
          · exact ((Weak.refl _).trans (Some'.weak (.takeEq (by first | rfl | simp) (.takeEq (by first | rfl | simp) (.takeEq (by first | rfl | simp) (.nil _))))))
      · refine Run.q (v := .bool false) rfl (OpQ.y (OpY.moveB rfl h20)) ?_
        have p20 := h20; try simp only [bs] at p20
        have hgo : goB es m xs ps ds i = false := by unfold goB; simp_all
        have hlow1 : ∀ j, j < i + 1 → goB es m xs ps ds j = false := by
          intro j hj
          rcases Nat.lt_succ_iff_lt_or_eq.1 hj with h | h
          · exact hlow j h
          · rw [h]; exact hgo
        refine Run.pass rfl ?_
        refine Run.pass rfl ?_
        refine Run.pass rfl ?_
        refine Run.pass rfl ?_
        refine Run.pass rfl ?_
        refine Run.pass rfl ?_
        refine Run.q (v := .bool false) rfl (OpQ.y (OpY.pure rfl)) ?_
        refine Run.done ?_
        refine Run.cond (b := false) rfl (fun h => nomatch h) (fun _ => ?_)
        refine Run.skip ?_
        refine Run.blockEnd ?_
        refine Run.region ?_
        refine Run.q (v := .int .i64 (((i : Nat) : Int))) rfl (OpQ.y (OpY.pure rfl)) ?_
        refine Run.q (v := .int .i64 ((((i : Nat) : Int)) + 1)) rfl (OpQ.y (OpY.add rfl rfl rfl (by omega) (by omega))) ?_
        refine Run.q (v := .int .i64 ((((i : Nat) : Int)) + 1)) rfl (OpQ.y (OpY.pure rfl)) ?_
        refine Run.done ?_
        refine Run.goal ⟨(by repeat (first | exact Same.refl _ _ | refine Same.put rfl ?_ | refine Same.over rfl rfl ?_)), (i + 1, ds, L, .slice (some ⟨gd, 0, none⟩) n cd, ws), ?_, ?_, ?_, ?_⟩
        · first | exact ⟨hin1, hdl2, hlow1, hsame, hLl⟩ | exact ⟨Nat.zero_le _, by rw [List.length_set]; exact hdl2, fun j hj => by omega, by rw [← hst]; exact hsame, by rw [List.length_append]; simp only [List.length_cons, List.length_nil]; omega⟩
        · dsimp only; omega
        · exact ⟨(by show Value.int _ _ = Value.int _ _; congr 1 <;> omega), trivial⟩
        · exact ((Weak.refl _).trans (Some'.weak (.takeEq (by first | rfl | simp) (.takeEq (by first | rfl | simp) (.takeEq (by first | rfl | simp) (.nil _))))))
    · have p11 := h11; try simp only [bs] at p11
      have hfin : advS (goB es m xs ps) n ds0 L0 = (ds, L) := by rw [← hinv.2.2.2.1]; exact advS_stop fun j hj => hinv.2.2.1 j (by omega)
      refine Run.exit rfl ?_
      refine Run.fin ?_
      refine ⟨.tuple #[], [.blk bn 90 [.int .i64 N, vg, .int .i64 Q, .slice Ac n cc, vp, wd, ws], .own wd 4 1 n (bls ((advS (goB es m xs ps) n ds0 L0).1)), .own ws 101 3 (((advS (goB es m xs ps) n ds0 L0).2).length) (ints (fl3 ((advS (goB es m xs ps) n ds0 L0).2)))], Out.none rfl, (Some'.weak (.take (.takeEq (by rw [hfin]) (.takeEq (by rw [hfin]) (.nil _))))), ?_⟩
      exact ⟨_, _, rfl, rfl⟩

end Go.Proofs.Ytekikmdjldincaa
