/- Walks: routings: placements that are swapped, gates that fit. -/
import Derived.Test.YtekikmdjldincaaSb
import Derived.Test.YtekikmdjldincaaSp
import Derived.Test.YtekikmdjldincaaEl
import Derived.Test.YtekikmdjldincaaProg
set_option linter.unusedSimpArgs false
set_option linter.unusedVariables false
namespace Go.Proofs.Ytekikmdjldincaa
open Go Go.RowKit
namespace GqT
theorem Tagg_35 : aggOf Try.prog 35 = some 2 := by kernel_rfl
theorem Tagg_39 : aggOf Try.prog 39 = some 2 := by kernel_rfl
theorem Tagg_81 : aggOf Try.prog 81 = some 3 := by kernel_rfl
theorem Tagg_87 : aggOf Try.prog 87 = some 6 := by kernel_rfl
theorem Tcall_54 : callable Try.prog 54 = true := by kernel_rfl
theorem Tcall_59 : callable Try.prog 59 = true := by kernel_rfl
theorem Tcall_64 : callable Try.prog 64 = true := by kernel_rfl
theorem Tcall_85 : callable Try.prog 85 = true := by kernel_rfl
theorem Tcall_90 : callable Try.prog 90 = true := by kernel_rfl
theorem Tcall_93 : callable Try.prog 93 = true := by kernel_rfl
theorem Tfo_39_1 : fieldOff Try.prog 39 1 = some 1 := by kernel_rfl
theorem Tfo_81_0 : fieldOff Try.prog 81 0 = some 0 := by kernel_rfl
theorem Tfo_81_1 : fieldOff Try.prog 81 1 = some 1 := by kernel_rfl
theorem Tfo_81_2 : fieldOff Try.prog 81 2 = some 2 := by kernel_rfl
theorem Tfo_87_0 : fieldOff Try.prog 87 0 = some 0 := by kernel_rfl
theorem Tfo_87_1 : fieldOff Try.prog 87 1 = some 2 := by kernel_rfl
theorem Tfo_87_2 : fieldOff Try.prog 87 2 = some 4 := by kernel_rfl
theorem Tone_28 : oneOf Try.prog 28 = true := by kernel_rfl
theorem Tone_3 : oneOf Try.prog 3 = true := by kernel_rfl
theorem Tone_37 : oneOf Try.prog 37 = true := by kernel_rfl
theorem Tsize_3 : (Try.prog.info? 3).map (·.size) = some 1 := by kernel_rfl
theorem Tsize_81 : (Try.prog.info? 81).map (·.size) = some 3 := by kernel_rfl
theorem Tsize_87 : (Try.prog.info? 87).map (·.size) = some 6 := by kernel_rfl
theorem Tsl_28 : sliceOf Try.prog 28 = some (3, 1, 8, [.int .i64 0]) := by kernel_rfl
theorem Tsl_37 : sliceOf Try.prog 37 = some (81, 3, 24, [.int .i64 0, .int .i64 0, .int .i64 0]) := by kernel_rfl
theorem Tsl_85 : sliceOf Try.prog 85 = some (4, 1, 1, [.bool false]) := by kernel_rfl
theorem Tzero_81 : zeroOf Try.prog 81 = some [.int .i64 0, .int .i64 0, .int .i64 0] := by kernel_rfl
theorem Tzero_87 : zeroOf Try.prog 87 = some [.int .i64 0, .slice none 0 0, .int .i64 0, .slice none 0 0, .slice none 0 0, .slice none 0 0] := by kernel_rfl
end GqT
open GqT

/-- The contents of nodes a and b are swapped. -/
def swI (a b x : Int) : Int := if x = a then b else if x = b then a else x
def swL (a b : Int) (ps : List Int) : List Int := ps.map (swI a b)
@[simp] theorem swL_length (a b : Int) (ps : List Int) : (swL a b ps).length = ps.length := by simp [swL]
theorem ix_swL {a b : Int} {ps : List Int} {i : Nat} (h : i < ps.length) : ix (swL a b ps) i = swI a b (ix ps i) := by simp [ix, swL, List.getD, h]
/-- .. as far as number k. -/
def prt (a b : Int) (k : Nat) (ps : List Int) : List Int := (List.range ps.length).map fun j : Nat => if j < k then swI a b (ix ps j) else ix ps j
@[simp] theorem prt_length (a b : Int) (k : Nat) (ps : List Int) : (prt a b k ps).length = ps.length := by simp [prt]
theorem ix_prt {a b : Int} {k j : Nat} {ps : List Int} (h : j < ps.length) : ix (prt a b k ps) j = if j < k then swI a b (ix ps j) else ix ps j := by simp [ix, prt, List.getD, h]
theorem prt_zero (a b : Int) (ps : List Int) : prt a b 0 ps = ps := list_ext_ix (by simp) fun j h => by
  rw [ix_prt (by simpa using h)]; simp
theorem prt_all {a b : Int} {k : Nat} {ps : List Int} (h : ps.length ≤ k) : prt a b k ps = swL a b ps := list_ext_ix (by simp) fun j hj => by
  simp only [prt_length] at hj
  rw [ix_prt hj, if_pos (by omega), ix_swL hj]
theorem prt_at {a b : Int} {k : Nat} {ps : List Int} (h : k < ps.length) : ix (prt a b k ps) k = ix ps k := by rw [ix_prt h]; simp
theorem prt_set {a b : Int} {k : Nat} {ps : List Int} {y : Int} (h : k < ps.length) (hy : swI a b (ix ps k) = y) : prt a b (k + 1) ps = (prt a b k ps).set k y := list_ext_ix (by simp) fun j hj => by
  simp only [prt_length] at hj
  rw [ix_prt hj, ix_set (by simpa using hj), ix_prt hj]
  by_cases e : k = j
  · subst e; simp [hy]
  · rw [if_neg e]
    by_cases h2 : j < k
    · rw [if_pos (by omega), if_pos h2]
    · rw [if_neg (by omega), if_neg h2]
theorem prt_keep {a b : Int} {k : Nat} {ps : List Int} (h : k < ps.length) (hy : swI a b (ix ps k) = ix ps k) : prt a b (k + 1) ps = prt a b k ps := list_ext_ix (by simp) fun j hj => by
  simp only [prt_length] at hj
  rw [ix_prt hj, ix_prt hj]
  by_cases e : k = j
  · subst e; simp [hy]
  · by_cases h2 : j < k
    · rw [if_pos (by omega), if_pos h2]
    · rw [if_neg (by omega), if_neg h2]
theorem swI_in {N a b x : Int} (ha : 0 ≤ a ∧ a < N) (hb : 0 ≤ b ∧ b < N) (hx : 0 ≤ x ∧ x < N) : 0 ≤ swI a b x ∧ swI a b x < N := by
  unfold swI; split
  · exact hb
  · split
    · exact ha
    · exact hx
theorem swI_inj {a b x y : Int} (h : swI a b x = swI a b y) : x = y := by
  unfold swI at h
  split at h <;> split at h <;> (try split at h) <;> (try split at h) <;> omega
/-- A placement, number by number. -/
theorem placeOk_iff {N : Int} {ps : List Int} {n : Nat} : placeOk N ps n = true ↔ (∀ i, i < n → 0 ≤ ix ps i ∧ ix ps i < N) ∧ ∀ i j, i < j → j < n → ix ps i ≠ ix ps j := by
  unfold placeOk
  rw [allI_iff]
  constructor
  · intro h
    refine ⟨fun i hi => ?_, fun i j hij hj e => ?_⟩
    · have := h i hi
      rw [Bool.and_eq_true] at this
      have := within_iff.1 this.1
      omega
    · have := h j hj
      rw [Bool.and_eq_true] at this
      have h2 : hasI ps (ix ps j) j = true := by unfold hasI; exact anyI_true hij (decide_eq_true e)
      rw [h2] at this; exact absurd this.2 (by decide)
  · rintro ⟨h1, h2⟩ i hi
    rw [Bool.and_eq_true]
    refine ⟨within_iff.2 (by have := h1 i hi; omega), ?_⟩
    cases hb : hasI ps (ix ps i) i with
    | false => rfl
    | true =>
      unfold hasI at hb
      obtain ⟨j, hj, e⟩ := anyI_iff.1 hb
      exact absurd (of_decide_eq_true e) (h2 j i hj hi)
theorem placeOk_swL {N a b : Int} {ps : List Int} {n : Nat} (hl : ps.length = n) (ha : 0 ≤ a ∧ a < N) (hb : 0 ≤ b ∧ b < N) (h : placeOk N ps n = true) : placeOk N (swL a b ps) n = true := by
  have h1 := placeOk_iff.1 h
  refine placeOk_iff.2 ⟨fun i hi => ?_, fun i j hij hj e => ?_⟩
  · rw [ix_swL (by omega)]; exact swI_in ha hb (h1.1 i hi)
  · rw [ix_swL (by omega), ix_swL (by omega)] at e
    exact h1.2 i j hij hj (swI_inj e)
/-- A gate can be executed. -/
def nearG (es : List Int) (m : Nat) (xs ps : List Int) (k : Nat) : Bool := !isTwoI (ix xs (k * 3)) || adj es m (ix ps (ix xs (k * 3 + 1)).toNat) (ix ps (ix xs (k * 3 + 2)).toNat)

set_option maxHeartbeats 1000000 in
set_option maxRecDepth 20000 in
theorem l23Near_spec {N k a b : Int} {vg vp : Value} {m pn : Nat} {es ps : List Int} {w : World} (hin : isTwoI k = true → 0 ≤ a ∧ a.toNat < pn ∧ 0 ≤ b ∧ b.toNat < pn) (hg : Sl w vg 2 m (ints es)) (hp : Sl w vp 1 pn (ints ps)) : Calls Try.prog 83 #[.agg #[.int .i64 N, vg], vp, .agg #[.int .i64 k, .int .i64 a, .int .i64 b]] w (Post No w fun v _ => v = .bool (!isTwoI k || adj es m (ix ps a.toNat) (ix ps b.toNat))) := by
  have hpl := hp.len
  obtain ⟨A, c, rfl, _, _⟩ := hp.form0
  refine enter (n := 24) (args := [.agg #[.int .i64 N, vg], .slice A pn c, .agg #[.int .i64 k, .int .i64 a, .int .i64 b]]) Try.func83 rfl rfl (St.empty _ _) ?_
  refine Run.seq ?_
  refine Run.region ?_
  refine Run.step rfl (OpStep.box (us := [.int .i64 N, vg]) rfl fun b1 => ?_)
  refine Run.step rfl (OpStep.box (us := [.int .i64 k, .int .i64 a, .int .i64 b]) rfl fun b2 => ?_)
  refine Run.q (v := .bool false) rfl (OpQ.y (OpY.pure rfl)) ?_
  refine Run.done ?_
  refine Run.seq ?_
  refine Run.draws (by kernel_rfl) (by kernel_rfl) ?_
  refine Lex.q (v := .agg #[.int .i64 k, .int .i64 a, .int .i64 b]) rfl (OpQ.y (OpY.loadN (cs := [.int .i64 k, .int .i64 a, .int .i64 b]) Tagg_81 rfl (Cells.blk (.head _) ⟨rfl, rfl, rfl, trivial⟩))) ?_
  refine Lex.q (v := .bool (decide (9 ≤ k ∧ k ≤ 11))) rfl (OpQ.call (vs := [.agg #[.int .i64 k, .int .i64 a, .int .i64 b]]) (caps := []) Tcall_59 rfl rfl (fun w hs => l22Two_spec _ _ _ w)) ?_
  refine Lex.q (v := .bool (!(decide (9 ≤ k ∧ k ≤ 11)))) rfl (OpQ.y (OpY.pure rfl)) ?_
  rcases Bool.eq_false_or_eq_true (!(decide (9 ≤ k ∧ k ≤ 11))) with h10 | h10
  · refine Lex.q (v := .bool true) rfl (OpQ.y (OpY.moveB rfl h10)) ?_
    have p10 := h10; try simp only [bs] at p10
    refine Lex.pass rfl ?_
    refine Lex.pass rfl ?_
    refine Lex.pass rfl ?_
    refine Lex.pass rfl ?_
    refine Lex.pass rfl ?_
    refine Lex.pass rfl ?_
    refine Lex.pass rfl ?_
    refine Lex.pass rfl ?_
    refine Lex.pass rfl ?_
    refine Lex.pass rfl ?_
    refine Lex.pass rfl ?_
    refine Lex.pass rfl ?_
    refine Lex.q (v := .bool true) rfl (OpQ.y (OpY.pure rfl)) ?_
    refine Lex.q (v := .bool true) rfl (OpQ.y (OpY.pure rfl)) ?_
    refine Lex.done ?_
    refine Run.ret ?_
    refine ⟨.bool true, [], Out.one rfl rfl, (Some'.weak (.nil _)), ?_⟩
    show _ = _; unfold isTwoI; rw [h10]; rfl
  · refine Lex.q (v := .bool false) rfl (OpQ.y (OpY.moveB rfl h10)) ?_
    have p10 := h10; try simp only [bs] at p10
    have h2 : isTwoI k = true := by simp_all [isTwoI]
    have hh := hin h2
    obtain ⟨bp, op, rfl⟩ := hp.opn (by omega)
    refine Lex.q (v := .agg #[.int .i64 N, vg]) rfl (OpQ.y (OpY.loadN (cs := [.int .i64 N, vg]) Tagg_35 rfl (Cells.blk (.tail _ (List.Mem.head _)) ⟨rfl, rfl, trivial⟩))) ?_
    refine Lex.q (v := .slice (some ⟨bp, op, none⟩) pn c) rfl (OpQ.y (OpY.pure rfl)) ?_
    refine Lex.q (v := .pointer (some ⟨b2, 1, none⟩)) rfl (OpQ.y (OpY.fieldAddr Tfo_81_1 rfl rfl)) ?_
    refine Lex.q (v := .int .i64 a) rfl (OpQ.y (OpY.load1 Tone_3 rfl (Cells.blk (.head _) ⟨rfl, trivial⟩))) ?_
    refine Lex.q (v := .pointer (some ⟨bp, op + a.toNat, none⟩)) rfl (OpQ.y (OpY.index (kk := a.toNat) Tsl_28 rfl rfl (by omega) (by omega) (by first | rfl | omega))) ?_
    refine Lex.q (v := .int .i64 (ix ps (a.toNat))) rfl (OpQ.y (OpY.load1 Tone_3 rfl (Cells.arg (k := a.toNat) hp rfl (by omega) (pre1 (by omega))))) ?_
    refine Lex.q (v := .slice (some ⟨bp, op, none⟩) pn c) rfl (OpQ.y (OpY.pure rfl)) ?_
    refine Lex.q (v := .pointer (some ⟨b2, 2, none⟩)) rfl (OpQ.y (OpY.fieldAddr Tfo_81_2 rfl rfl)) ?_
    refine Lex.q (v := .int .i64 b) rfl (OpQ.y (OpY.load1 Tone_3 rfl (Cells.blk (.head _) ⟨rfl, trivial⟩))) ?_
    refine Lex.q (v := .pointer (some ⟨bp, op + b.toNat, none⟩)) rfl (OpQ.y (OpY.index (kk := b.toNat) Tsl_28 rfl rfl (by omega) (by omega) (by first | rfl | omega))) ?_
    refine Lex.q (v := .int .i64 (ix ps (b.toNat))) rfl (OpQ.y (OpY.load1 Tone_3 rfl (Cells.arg (k := b.toNat) hp rfl (by omega) (pre1 (by omega))))) ?_
    refine Lex.q (v := .bool (adj es m (ix ps a.toNat) (ix ps b.toNat))) rfl (OpQ.call (vs := [.agg #[.int .i64 N, vg], .int .i64 (ix ps (a.toNat)), .int .i64 (ix ps (b.toNat))]) (caps := []) Tcall_93 rfl rfl (fun w hs => l22Edge_spec (hs.sl hg))) ?_
    refine Lex.q (v := .bool (adj es m (ix ps a.toNat) (ix ps b.toNat))) rfl (OpQ.y (OpY.pure rfl)) ?_
    refine Lex.q (v := .bool (adj es m (ix ps a.toNat) (ix ps b.toNat))) rfl (OpQ.y (OpY.pure rfl)) ?_
    refine Lex.done ?_
    refine Run.ret ?_
    refine ⟨.bool (adj es m (ix ps a.toNat) (ix ps b.toNat)), [], Out.one rfl rfl, (Some'.weak (.nil _)), ?_⟩
    show _ = _; unfold isTwoI; rw [h10]; rfl

set_option maxHeartbeats 1000000 in
set_option maxRecDepth 20000 in
theorem rswap_spec {N Q a b : Int} {vg vc vd : Value} {g pn cp : Nat} {ps : List Int} {w : World} (hpl : ps.length = pn) (h : (Res.own (.slice (some ⟨g, 0, none⟩) pn cp) 3 1 pn (ints ps)).holds w) : Calls Try.prog 78 #[.agg #[.int .i64 N, vg, .int .i64 Q, vc, .slice (some ⟨g, 0, none⟩) pn cp, vd], .int .i64 a, .int .i64 b] w (Post (Of [.own (.slice (some ⟨g, 0, none⟩) pn cp) 3 1 pn (ints ps)]) w fun v H => v = .tuple #[] ∧ H = [.own (.slice (some ⟨g, 0, none⟩) pn cp) 3 1 pn (ints (swL a b ps))]) := by
  have hnn : pn ≤ 9223372036854775807 := by
    have := (St.start1 h).slOwn (.head _)
    exact this.le
  refine enter (n := 34) (args := [.agg #[.int .i64 N, vg, .int .i64 Q, vc, .slice (some ⟨g, 0, none⟩) pn cp, vd], .int .i64 a, .int .i64 b]) Try.func78 rfl rfl (St.start1 h) ?_
  refine Run.seq ?_
  refine Run.region ?_
  refine Run.step rfl (OpStep.box (us := [.int .i64 N, vg, .int .i64 Q, vc, .slice (some ⟨g, 0, none⟩) pn cp, vd]) rfl fun b1 => ?_)
  refine Run.done ?_
  refine Run.seq ?_
  refine Run.region ?_
  refine Run.q (v := .pointer (some ⟨b1, 4, none⟩)) rfl (OpQ.y (OpY.fieldAddr Tfo_87_2 rfl rfl)) ?_
  refine Run.q (v := .slice (some ⟨g, 0, none⟩) pn cp) rfl (OpQ.y (OpY.load1 Tone_28 rfl (Cells.blk (.head _) ⟨rfl, trivial⟩))) ?_
  refine Run.q (v := .int .i64 (((pn : Nat) : Int))) rfl (OpQ.y (OpY.len Tsl_28 rfl)) ?_
  refine Run.q (v := .int .i64 0) rfl (OpQ.y (OpY.pure rfl)) ?_
  refine Run.done ?_
  refine Run.block ?_
  refine Run.loop (ι := Nat) [6, 7, 11, 12, 13, 14, 15, 16, 17, 18, 19, 20, 21, 22, 23, 24, 25, 26, 27, 28, 29, 30, 31, 32, 33] (fun k => [(11, .int .i64 (((k : Nat) : Int)))]) (fun k => [.blk b1 87 [.int .i64 N, vg, .int .i64 Q, vc, .slice (some ⟨g, 0, none⟩) pn cp, vd], .own (.slice (some ⟨g, 0, none⟩) pn cp) 3 1 pn (ints (prt a b k ps))]) (fun k => k ≤ pn) (fun k => pn - k) 0 ?_ ?_ ?_ ?_
  · exact Nat.zero_le _
  · exact ⟨rfl, trivial⟩
  · exact (Some'.weak (.take (.takeEq (by rw [prt_zero]) (.nil _))))
  · rintro k fr hinv
    show Run _ _ (over _ _ [(11, .int .i64 (((k : Nat) : Int)))] fr) [.blk b1 87 [.int .i64 N, vg, .int .i64 Q, vc, .slice (some ⟨g, 0, none⟩) pn cp, vd], .own (.slice (some ⟨g, 0, none⟩) pn cp) 3 1 pn (ints (prt a b k ps))]
    try dsimp only at hinv
    refine Run.seq ?_
    refine Run.region ?_
    refine Run.q (v := .bool (decide ((((k : Nat) : Int)) < (((pn : Nat) : Int))))) rfl (OpQ.y (OpY.pure rfl)) ?_
    refine Run.done ?_
    refine Run.seq ?_
    refine Run.cond (b := decide ((((k : Nat) : Int)) < (((pn : Nat) : Int)))) rfl (fun h12 => ?_) (fun h12 => ?_)
    · have p12 := h12; try simp only [bs] at p12
      have hkn : k < pn := by omega
      have hkl : k < ps.length := by omega
      have hpa := prt_at (a := a) (b := b) hkl
      refine Run.skip ?_
      refine Run.seq ?_
      refine Run.block ?_
      refine Run.seq ?_
      refine Run.region ?_
      refine Run.q (v := .int .i64 (((k : Nat) : Int))) rfl (OpQ.y (OpY.pure rfl)) ?_
      refine Run.q (v := .pointer (some ⟨g, k, none⟩)) rfl (OpQ.y (OpY.index (kk := k) Tsl_28 rfl rfl (by omega) (by omega) (by first | rfl | omega))) ?_
      refine Run.q (v := .int .i64 (ix (prt a b k ps) (k))) rfl (OpQ.y (OpY.load1 Tone_3 rfl (Cells.own0 (.tail _ (List.Mem.head _)) (pre1 (by first | omega | (simp only [prt_length]; omega)))))) ?_
      refine Run.q (v := .int .i64 (((k : Nat) : Int))) rfl (OpQ.y (OpY.pure rfl)) ?_
      refine Run.q (v := .int .i64 (ix (prt a b k ps) (k))) rfl (OpQ.y (OpY.pure rfl)) ?_
      refine Run.done ?_
      refine Run.seq ?_
      refine Run.region ?_
      refine Run.q (v := .int .i64 (ix (prt a b k ps) (k))) rfl (OpQ.y (OpY.pure rfl)) ?_
      refine Run.done ?_
      refine Run.block ?_
      refine Run.seq ?_
      refine Run.region ?_
      refine Run.q (v := .int .i64 a) rfl (OpQ.y (OpY.pure rfl)) ?_
      refine Run.q (v := .bool ((ix (prt a b k ps) (k)) == a)) rfl (OpQ.y (OpY.pure rfl)) ?_
      refine Run.q (v := .bool ((ix (prt a b k ps) (k)) == a)) rfl (OpQ.y (OpY.pure rfl)) ?_
      refine Run.done ?_
      refine Run.cond (b := (ix (prt a b k ps) (k)) == a) rfl (fun h17 => ?_) (fun h17 => ?_)
      · have p17 := h17; try simp only [bs] at p17
        refine Run.region ?_
        refine Run.q (v := .pointer (some ⟨b1, 4, none⟩)) rfl (OpQ.y (OpY.fieldAddr Tfo_87_2 rfl rfl)) ?_
        refine Run.q (v := .slice (some ⟨g, 0, none⟩) pn cp) rfl (OpQ.y (OpY.load1 Tone_28 rfl (Cells.blk (.head _) ⟨rfl, trivial⟩))) ?_
        refine Run.q (v := .int .i64 (((k : Nat) : Int))) rfl (OpQ.y (OpY.pure rfl)) ?_
        refine Run.q (v := .int .i64 b) rfl (OpQ.y (OpY.pure rfl)) ?_
        refine Run.q (v := .pointer (some ⟨g, k, none⟩)) rfl (OpQ.y (OpY.index (kk := k) Tsl_28 rfl rfl (by omega) (by omega) (by first | rfl | omega))) ?_
        refine Run.step rfl (OpStep.storeOwnInt (o := k) (a := b) Tsize_3 rfl rfl (.there _ (.here _)) (by first | omega | (simp only [prt_length]; omega)) ?_)
        refine Run.done ?_
        refine Run.blockEnd ?_
        refine Run.blockEnd ?_
        refine Run.region ?_
        refine Run.q (v := .int .i64 ((((k : Nat) : Int)) + 1)) rfl (OpQ.y (OpY.add rfl rfl rfl (by omega) (by omega))) ?_
        refine Run.q (v := .int .i64 ((((k : Nat) : Int)) + 1)) rfl (OpQ.y (OpY.pure rfl)) ?_
        refine Run.done ?_
        have hX : prt a b (k + 1) ps = ((prt a b k ps).set k b) := prt_set hkl (by unfold swI; first | (rw [if_pos (by omega)]; done) | (rw [if_neg (by omega), if_pos (by omega)]))
        refine Run.goal ⟨(by repeat (first | exact Same.refl _ _ | refine Same.put rfl ?_ | refine Same.over rfl rfl ?_)), k + 1, ?_, ?_, ?_, ?_⟩
        · omega
        · omega
        · exact ⟨(by first | rfl | (congr 1; omega) | simp), trivial⟩
        · exact (Some'.weak (.take (.takeEq (by first | rw [hX] | rfl) (.nil _))))
      · have p17 := h17; try simp only [bs] at p17
        refine Run.seq ?_
        refine Run.region ?_
        refine Run.q (v := .int .i64 b) rfl (OpQ.y (OpY.pure rfl)) ?_
        refine Run.q (v := .bool ((ix (prt a b k ps) (k)) == b)) rfl (OpQ.y (OpY.pure rfl)) ?_
        refine Run.q (v := .bool ((ix (prt a b k ps) (k)) == b)) rfl (OpQ.y (OpY.pure rfl)) ?_
        refine Run.done ?_
        refine Run.cond (b := (ix (prt a b k ps) (k)) == b) rfl (fun h25 => ?_) (fun h25 => ?_)
        · have p25 := h25; try simp only [bs] at p25
          refine Run.region ?_
          refine Run.q (v := .pointer (some ⟨b1, 4, none⟩)) rfl (OpQ.y (OpY.fieldAddr Tfo_87_2 rfl rfl)) ?_
          refine Run.q (v := .slice (some ⟨g, 0, none⟩) pn cp) rfl (OpQ.y (OpY.load1 Tone_28 rfl (Cells.blk (.head _) ⟨rfl, trivial⟩))) ?_
          refine Run.q (v := .int .i64 (((k : Nat) : Int))) rfl (OpQ.y (OpY.pure rfl)) ?_
          refine Run.q (v := .int .i64 a) rfl (OpQ.y (OpY.pure rfl)) ?_
          refine Run.q (v := .pointer (some ⟨g, k, none⟩)) rfl (OpQ.y (OpY.index (kk := k) Tsl_28 rfl rfl (by omega) (by omega) (by first | rfl | omega))) ?_
          refine Run.step rfl (OpStep.storeOwnInt (o := k) (a := a) Tsize_3 rfl rfl (.there _ (.here _)) (by first | omega | (simp only [prt_length]; omega)) ?_)
          refine Run.done ?_
          refine Run.blockEnd ?_
          refine Run.blockEnd ?_
          refine Run.region ?_
          refine Run.q (v := .int .i64 ((((k : Nat) : Int)) + 1)) rfl (OpQ.y (OpY.add rfl rfl rfl (by omega) (by omega))) ?_
          refine Run.q (v := .int .i64 ((((k : Nat) : Int)) + 1)) rfl (OpQ.y (OpY.pure rfl)) ?_
          refine Run.done ?_
          have hX : prt a b (k + 1) ps = ((prt a b k ps).set k a) := prt_set hkl (by unfold swI; first | (rw [if_pos (by omega)]; done) | (rw [if_neg (by omega), if_pos (by omega)]))
          refine Run.goal ⟨(by repeat (first | exact Same.refl _ _ | refine Same.put rfl ?_ | refine Same.over rfl rfl ?_)), k + 1, ?_, ?_, ?_, ?_⟩
          · omega
          · omega
          · exact ⟨(by first | rfl | (congr 1; omega) | simp), trivial⟩
          · exact (Some'.weak (.take (.takeEq (by first | rw [hX] | rfl) (.nil _))))
        · have p25 := h25; try simp only [bs] at p25
          refine Run.skip ?_
          refine Run.blockEnd ?_
          refine Run.blockEnd ?_
          refine Run.region ?_
          refine Run.q (v := .int .i64 ((((k : Nat) : Int)) + 1)) rfl (OpQ.y (OpY.add rfl rfl rfl (by omega) (by omega))) ?_
          refine Run.q (v := .int .i64 ((((k : Nat) : Int)) + 1)) rfl (OpQ.y (OpY.pure rfl)) ?_
          refine Run.done ?_
          have hX : prt a b (k + 1) ps = (prt a b k ps) := prt_keep hkl (by unfold swI; rw [if_neg (by omega), if_neg (by omega)])
          refine Run.goal ⟨(by repeat (first | exact Same.refl _ _ | refine Same.put rfl ?_ | refine Same.over rfl rfl ?_)), k + 1, ?_, ?_, ?_, ?_⟩
          · omega
          · omega
          · exact ⟨(by first | rfl | (congr 1; omega) | simp), trivial⟩
          · exact (Some'.weak (.take (.takeEq (by first | rw [hX] | rfl) (.nil _))))
    · have p12 := h12; try simp only [bs] at p12
      have hkn : k = pn := by omega
      have hall := prt_all (a := a) (b := b) (k := k) (ps := ps) (by omega)
      refine Run.exit rfl ?_
      refine Run.fin ?_
      refine ⟨.tuple #[], [.own (.slice (some ⟨g, 0, none⟩) pn cp) 3 1 pn (ints (swL a b ps))], Out.none rfl, (Some'.weak (.skip (.takeEq (by rw [hall]) (.nil _)))), ?_⟩
      exact ⟨rfl, rfl⟩

set_option maxHeartbeats 1000000 in
set_option maxRecDepth 20000 in
theorem l23Swap_spec {a b : Int} {vp : Value} {pn : Nat} {ps : List Int} {w : World} (hb5 : pn ≤ 1048576) (h0 : 0 < pn) (hp : Sl w vp 1 pn (ints ps)) : Calls Try.prog 67 #[vp, .int .i64 a, .int .i64 b] w (Post No w fun v H => H = [.own v 3 1 pn (ints (swL a b ps))]) := by
  have hpl : ps.length = pn := by have := hp.len; omega
  obtain ⟨A, c, rfl, _, _⟩ := hp.form0
  obtain ⟨bp, op, rfl⟩ := hp.opn h0
  refine enter (n := 36) (args := [.slice (some ⟨bp, op, none⟩) pn c, .int .i64 a, .int .i64 b]) Try.func67 rfl rfl (St.empty _ _) ?_
  refine Run.seq ?_
  refine Run.region ?_
  refine Run.q (v := .slice none 0 0) rfl (OpQ.y (OpY.pure rfl)) ?_
  refine Run.done ?_
  refine Run.seq ?_
  refine Run.region ?_
  refine Run.q (v := .slice (some ⟨bp, op, none⟩) pn c) rfl (OpQ.y (OpY.pure rfl)) ?_
  refine Run.step rfl (OpStep.call (vs := [.slice (some ⟨bp, op, none⟩) pn c]) (caps := []) Tcall_64 rfl rfl (fun w hs => l1Own_spec hb5 (hs.sl hp)) ?_)
  rintro uo _ rfl
  show Run _ _ (putF _ _ _ uo) [.own uo 3 1 pn (ints ps)]
  refine Run.q (v := uo) rfl (OpQ.y (OpY.pure rfl)) ?_
  refine Run.done ?_
  refine Run.seq ?_
  refine Run.seq ?_
  refine Run.openOwn (.head _) (by omega) (fun go co hvgo hcapgo _ => ?_) (fun _ _ _ => ⟨nofun, nofun, nofun⟩)
  subst hvgo
  refine Run.region ?_
  refine Run.q (v := .slice (some ⟨bp, op, none⟩) pn c) rfl (OpQ.y (OpY.pure rfl)) ?_
  refine Run.q (v := .int .i64 (((pn : Nat) : Int))) rfl (OpQ.y (OpY.len Tsl_28 rfl)) ?_
  refine Run.q (v := .int .i64 0) rfl (OpQ.y (OpY.pure rfl)) ?_
  refine Run.done ?_
  refine Run.block ?_
  refine Run.loop (ι := Nat) [8, 9, 14, 15, 16, 17, 18, 19, 20, 21, 22, 23, 24, 25, 26, 27, 28, 29, 30, 31, 32, 33, 34] (fun k => [(14, .int .i64 (((k : Nat) : Int)))]) (fun k => [.own (.slice (some ⟨go, 0, none⟩) pn co) 3 1 pn (ints (prt a b k ps))]) (fun k => k ≤ pn) (fun k => pn - k) 0 ?_ ?_ ?_ ?_
  · exact Nat.zero_le _
  · exact ⟨rfl, trivial⟩
  · exact (Some'.weak (.takeEq (by rw [prt_zero]) (.nil _)))
  · rintro k fr hinv
    show Run _ _ (over _ _ [(14, .int .i64 (((k : Nat) : Int)))] fr) [.own (.slice (some ⟨go, 0, none⟩) pn co) 3 1 pn (ints (prt a b k ps))]
    try dsimp only at hinv
    refine Run.seq ?_
    refine Run.region ?_
    refine Run.q (v := .bool (decide ((((k : Nat) : Int)) < (((pn : Nat) : Int))))) rfl (OpQ.y (OpY.pure rfl)) ?_
    refine Run.done ?_
    refine Run.seq ?_
    refine Run.cond (b := decide ((((k : Nat) : Int)) < (((pn : Nat) : Int)))) rfl (fun h15 => ?_) (fun h15 => ?_)
    · have p15 := h15; try simp only [bs] at p15
      have hkn : k < pn := by omega
      have hkl : k < ps.length := by omega
      have hpa := prt_at (a := a) (b := b) hkl
      refine Run.skip ?_
      refine Run.seq ?_
      refine Run.block ?_
      refine Run.seq ?_
      refine Run.region ?_
      refine Run.q (v := .int .i64 (((k : Nat) : Int))) rfl (OpQ.y (OpY.pure rfl)) ?_
      refine Run.q (v := .pointer (some ⟨bp, op + k, none⟩)) rfl (OpQ.y (OpY.index (kk := k) Tsl_28 rfl rfl (by omega) (by omega) (by first | rfl | omega))) ?_
      refine Run.q (v := .int .i64 (ix ps (k))) rfl (OpQ.y (OpY.load1 Tone_3 rfl (Cells.arg (k := k) hp rfl (by omega) (pre1 (by omega))))) ?_
      refine Run.q (v := .int .i64 (((k : Nat) : Int))) rfl (OpQ.y (OpY.pure rfl)) ?_
      refine Run.q (v := .int .i64 (ix ps (k))) rfl (OpQ.y (OpY.pure rfl)) ?_
      refine Run.done ?_
      refine Run.seq ?_
      refine Run.region ?_
      refine Run.q (v := .int .i64 (ix ps (k))) rfl (OpQ.y (OpY.pure rfl)) ?_
      refine Run.done ?_
      refine Run.block ?_
      refine Run.seq ?_
      refine Run.region ?_
      refine Run.q (v := .int .i64 a) rfl (OpQ.y (OpY.pure rfl)) ?_
      refine Run.q (v := .bool ((ix ps (k)) == a)) rfl (OpQ.y (OpY.pure rfl)) ?_
      refine Run.q (v := .bool ((ix ps (k)) == a)) rfl (OpQ.y (OpY.pure rfl)) ?_
      refine Run.done ?_
      refine Run.cond (b := (ix ps (k)) == a) rfl (fun h20 => ?_) (fun h20 => ?_)
      · have p20 := h20; try simp only [bs] at p20
        refine Run.region ?_
        refine Run.q (v := .slice (some ⟨go, 0, none⟩) pn co) rfl (OpQ.y (OpY.pure rfl)) ?_
        refine Run.q (v := .int .i64 (((k : Nat) : Int))) rfl (OpQ.y (OpY.pure rfl)) ?_
        refine Run.q (v := .int .i64 b) rfl (OpQ.y (OpY.pure rfl)) ?_
        refine Run.q (v := .pointer (some ⟨go, k, none⟩)) rfl (OpQ.y (OpY.index (kk := k) Tsl_28 rfl rfl (by omega) (by omega) (by first | rfl | omega))) ?_
        refine Run.step rfl (OpStep.storeOwnInt (o := k) (a := b) Tsize_3 rfl rfl (.here _) (by first | omega | (simp only [prt_length]; omega)) ?_)
        refine Run.done ?_
        refine Run.blockEnd ?_
        refine Run.blockEnd ?_
        refine Run.region ?_
        refine Run.q (v := .int .i64 ((((k : Nat) : Int)) + 1)) rfl (OpQ.y (OpY.add rfl rfl rfl (by omega) (by omega))) ?_
        refine Run.q (v := .int .i64 ((((k : Nat) : Int)) + 1)) rfl (OpQ.y (OpY.pure rfl)) ?_
        refine Run.done ?_
        have hX : prt a b (k + 1) ps = ((prt a b k ps).set k b) := prt_set hkl (by unfold swI; first | (rw [if_pos (by omega)]; done) | (rw [if_neg (by omega), if_pos (by omega)]))
        refine Run.goal ⟨(by repeat (first | exact Same.refl _ _ | refine Same.put rfl ?_ | refine Same.over rfl rfl ?_)), k + 1, ?_, ?_, ?_, ?_⟩
        · omega
        · omega
        · exact ⟨(by first | rfl | (congr 1; omega) | simp), trivial⟩
        · exact (Some'.weak (.takeEq (by first | rw [hX] | rfl) (.nil _)))
      · have p20 := h20; try simp only [bs] at p20
        refine Run.seq ?_
        refine Run.region ?_
        refine Run.q (v := .int .i64 b) rfl (OpQ.y (OpY.pure rfl)) ?_
        refine Run.q (v := .bool ((ix ps (k)) == b)) rfl (OpQ.y (OpY.pure rfl)) ?_
        refine Run.q (v := .bool ((ix ps (k)) == b)) rfl (OpQ.y (OpY.pure rfl)) ?_
        refine Run.done ?_
        refine Run.cond (b := (ix ps (k)) == b) rfl (fun h27 => ?_) (fun h27 => ?_)
        · have p27 := h27; try simp only [bs] at p27
          refine Run.region ?_
          refine Run.q (v := .slice (some ⟨go, 0, none⟩) pn co) rfl (OpQ.y (OpY.pure rfl)) ?_
          refine Run.q (v := .int .i64 (((k : Nat) : Int))) rfl (OpQ.y (OpY.pure rfl)) ?_
          refine Run.q (v := .int .i64 a) rfl (OpQ.y (OpY.pure rfl)) ?_
          refine Run.q (v := .pointer (some ⟨go, k, none⟩)) rfl (OpQ.y (OpY.index (kk := k) Tsl_28 rfl rfl (by omega) (by omega) (by first | rfl | omega))) ?_
          refine Run.step rfl (OpStep.storeOwnInt (o := k) (a := a) Tsize_3 rfl rfl (.here _) (by first | omega | (simp only [prt_length]; omega)) ?_)
          refine Run.done ?_
          refine Run.blockEnd ?_
          refine Run.blockEnd ?_
          refine Run.region ?_
          refine Run.q (v := .int .i64 ((((k : Nat) : Int)) + 1)) rfl (OpQ.y (OpY.add rfl rfl rfl (by omega) (by omega))) ?_
          refine Run.q (v := .int .i64 ((((k : Nat) : Int)) + 1)) rfl (OpQ.y (OpY.pure rfl)) ?_
          refine Run.done ?_
          have hX : prt a b (k + 1) ps = ((prt a b k ps).set k a) := prt_set hkl (by unfold swI; first | (rw [if_pos (by omega)]; done) | (rw [if_neg (by omega), if_pos (by omega)]))
          refine Run.goal ⟨(by repeat (first | exact Same.refl _ _ | refine Same.put rfl ?_ | refine Same.over rfl rfl ?_)), k + 1, ?_, ?_, ?_, ?_⟩
          · omega
          · omega
          · exact ⟨(by first | rfl | (congr 1; omega) | simp), trivial⟩
          · exact (Some'.weak (.takeEq (by first | rw [hX] | rfl) (.nil _)))
        · have p27 := h27; try simp only [bs] at p27
          refine Run.skip ?_
          refine Run.blockEnd ?_
          refine Run.blockEnd ?_
          refine Run.region ?_
          refine Run.q (v := .int .i64 ((((k : Nat) : Int)) + 1)) rfl (OpQ.y (OpY.add rfl rfl rfl (by omega) (by omega))) ?_
          refine Run.q (v := .int .i64 ((((k : Nat) : Int)) + 1)) rfl (OpQ.y (OpY.pure rfl)) ?_
          refine Run.done ?_
          have hX : prt a b (k + 1) ps = (prt a b k ps) := prt_keep hkl (by unfold swI; rw [if_neg (by omega), if_neg (by omega)])
          refine Run.goal ⟨(by repeat (first | exact Same.refl _ _ | refine Same.put rfl ?_ | refine Same.over rfl rfl ?_)), k + 1, ?_, ?_, ?_, ?_⟩
          · omega
          · omega
          · exact ⟨(by first | rfl | (congr 1; omega) | simp), trivial⟩
          · exact (Some'.weak (.takeEq (by first | rw [hX] | rfl) (.nil _)))
    · have p15 := h15; try simp only [bs] at p15
      have hkn : k = pn := by omega
      have hall := prt_all (a := a) (b := b) (k := k) (ps := ps) (by omega)
      refine Run.exit rfl ?_
      refine Run.seq ?_
      refine Run.region ?_
      refine Run.q (v := .slice (some ⟨go, 0, none⟩) pn co) rfl (OpQ.y (OpY.pure rfl)) ?_
      refine Run.q (v := .slice (some ⟨go, 0, none⟩) pn co) rfl (OpQ.y (OpY.pure rfl)) ?_
      refine Run.done ?_
      refine Run.ret ?_
      refine ⟨.slice (some ⟨go, 0, none⟩) pn co, [.own (.slice (some ⟨go, 0, none⟩) pn co) 3 1 pn (ints (swL a b ps))], Out.one rfl rfl, (Some'.weak (.takeEq (by rw [hall]) (.nil _))), ?_⟩
      rfl

set_option maxHeartbeats 1000000 in
set_option maxRecDepth 20000 in
theorem newRouting_spec {N Q : Int} {vg vc vp : Value} {m n pn : Nat} {es xs ps : List Int} {w : World} (hn : n ≤ 400) (h0 : 0 < pn) (h5 : pn ≤ 1000) (hg : Sl w vg 2 m (ints es)) (hc : Sl w vc 3 n (ints xs)) (hp : Sl w vp 1 pn (ints ps)) : Calls Try.prog 50 #[.agg #[.int .i64 N, vg], .agg #[.int .i64 Q, vc], vp] w (Post No w fun v H => ∃ u d, v = .agg #[.int .i64 N, vg, .int .i64 Q, vc, u, d] ∧ H = [.own u 3 1 pn (ints ps), .own d 4 1 n (List.replicate n [.bool false]).flatten]) := by
  obtain ⟨A, c, rfl, _, _⟩ := hc.form0
  obtain ⟨Ag, cg, rfl, _, _⟩ := hg.form0
  refine enter (n := 16) (args := [.agg #[.int .i64 N, .slice Ag m cg], .agg #[.int .i64 Q, .slice A n c], vp]) Try.func50 rfl rfl (St.empty _ _) ?_
  refine Run.seq ?_
  refine Run.region ?_
  refine Run.step rfl (OpStep.box (us := [.int .i64 N, .slice Ag m cg]) rfl fun b1 => ?_)
  refine Run.step rfl (OpStep.box (us := [.int .i64 Q, .slice A n c]) rfl fun b2 => ?_)
  refine Run.step rfl (OpStep.alloc (zs := [.int .i64 0, .slice none 0 0, .int .i64 0, .slice none 0 0, .slice none 0 0, .slice none 0 0]) Tzero_87 fun b3 => ?_)
  refine Run.done ?_
  refine Run.seq ?_
  refine Run.heldB (base := [.blk b2 39 [.int .i64 Q, .slice A n c], .blk b1 35 [.int .i64 N, .slice Ag m cg]]) (by kernel_rfl) ?_
  refine DW.take (i := 0) (v := .agg #[.int .i64 N, .slice Ag m cg]) rfl (by kernel_rfl) (by kernel_rfl) (by kernel_rfl) (fun _ _ _ h => h) (Some'.weak (.skip (.take (.take (.nil _))))) rfl (OpY.loadN (cs := [.int .i64 N, .slice Ag m cg]) Tagg_35 rfl (Cells.blk (.tail _ (List.Mem.head _)) ⟨rfl, rfl, trivial⟩)) ?_
  refine DW.take (i := 1) (v := .agg #[.int .i64 Q, .slice A n c]) rfl (by kernel_rfl) (by kernel_rfl) (by kernel_rfl) (fun _ _ _ h => h) (Some'.weak (.skip (.take (.take (.nil _))))) rfl (OpY.loadN (cs := [.int .i64 Q, .slice A n c]) Tagg_39 rfl (Cells.blk (.head _) ⟨rfl, rfl, trivial⟩)) ?_
  refine DW.take (i := 2) (v := vp) rfl (by kernel_rfl) (by kernel_rfl) (by kernel_rfl) (fun _ _ _ h => h) (Some'.weak (.skip (.take (.take (.nil _))))) rfl (OpY.pure rfl) ?_
  refine DW.take (i := 4) (v := .pointer (some ⟨b2, 1, none⟩)) rfl (by kernel_rfl) (by kernel_rfl) (by kernel_rfl) (fun _ _ _ h => h) (Some'.weak (.skip (.take (.take (.nil _))))) rfl (OpY.fieldAddr Tfo_39_1 rfl rfl) ?_
  refine DW.take (i := 5) (v := .slice A n c) rfl (by kernel_rfl) (by kernel_rfl) (by kernel_rfl) (fun _ _ _ h => h) (Some'.weak (.skip (.take (.take (.nil _))))) rfl (OpY.load1 Tone_37 rfl (Cells.blk (.head _) ⟨rfl, trivial⟩)) ?_
  refine DW.take (i := 6) (v := .int .i64 (((n : Nat) : Int))) rfl (by kernel_rfl) (by kernel_rfl) (by kernel_rfl) (fun _ _ _ h => h) (Some'.weak (.skip (.take (.take (.nil _))))) rfl (OpY.len Tsl_37 rfl) ?_
  refine DW.two (i := 3) (j := 7) (by kernel_rfl) rfl rfl rfl rfl ?_ ?_
  · refine OpStep.call (vs := [vp]) (caps := []) Tcall_54 rfl rfl (fun w hs => CloneInt_spec (by omega) h0 (hs.sl hp)) ?_
    rintro uo _ rfl
    refine ⟨(Some'.weak (.skip (.skip (.take (.take (.nil _)))))), ?_⟩
    refine DW.step (i := 7) (by kernel_rfl) rfl rfl (OpStep.makeSlice (n := n) Tsl_85 rfl (by decide) (by first | rfl | omega) (by first | rfl | omega) (by omega) (by simp only [maxLen]; omega) fun b4 => ?_)
    refine ⟨(Some'.weak (.skip (.skip (.skip (.take (.take (.nil _))))))), ?_⟩
    refine DW.formOwn (.tail _ (List.Mem.head _)) (fun A_uo1 c_uo1 hv hcapc_uo1 hmaxc_uo1 => ?_)
    subst hv
    refine DW.take (i := 8) (v := .agg #[.int .i64 N, .slice Ag m cg, .int .i64 Q, .slice A n c, .slice A_uo1 pn c_uo1, .slice (some ⟨b4, 0, none⟩) n n]) rfl (by kernel_rfl) (by kernel_rfl) (by kernel_rfl) (fun _ _ _ h => h) (Some'.weak (.skip (.skip (.skip (.take (.take (.nil _))))))) rfl (OpY.build (cs := [.int .i64 N, .slice Ag m cg, .int .i64 Q, .slice A n c, .slice A_uo1 pn c_uo1, .slice (some ⟨b4, 0, none⟩) n n]) (by kernel_rfl)) ?_
    refine DW.step (i := 9) (by kernel_rfl) rfl rfl (OpStep.storeAll (us := [.int .i64 N, .slice Ag m cg, .int .i64 Q, .slice A n c, .slice A_uo1 pn c_uo1, .slice (some ⟨b4, 0, none⟩) n n]) Tsize_87 rfl rfl rfl (.there _ (.there _ (.here _))) rfl ?_)
    refine ⟨(Some'.weak (.skip (.skip (.skip (.take (.take (.nil _))))))), ?_⟩
    refine DW.done (by kernel_rfl) ?_
    refine Run.ret ?_
    refine ⟨.agg #[.int .i64 N, .slice Ag m cg, .int .i64 Q, .slice A n c, .slice A_uo1 pn c_uo1, .slice (some ⟨b4, 0, none⟩) n n], [.own (.slice A_uo1 pn c_uo1) 3 1 pn (ints ps), .own (.slice (some ⟨b4, 0, none⟩) n n) 4 1 n ((List.replicate n ([.bool false] : List Value)).flatten)], Out.cell1 (cs := [.int .i64 N, .slice Ag m cg, .int .i64 Q, .slice A n c, .slice A_uo1 pn c_uo1, .slice (some ⟨b4, 0, none⟩) n n]) rfl Tagg_87 rfl (Cells.blk (.tail _ (.tail _ (List.Mem.head _))) ⟨rfl, rfl, rfl, rfl, rfl, rfl, trivial⟩), ((Weak.selF [1, 0]).trans (Some'.weak (.take (.take (.nil _))))), ?_⟩
    exact ⟨_, _, rfl, rfl⟩
  · refine OpStep.makeSlice (n := n) Tsl_85 rfl (by decide) (by first | rfl | omega) (by first | rfl | omega) (by omega) (by simp only [maxLen]; omega) fun b5 => ?_
    refine ⟨(Some'.weak (.skip (.skip (.take (.take (.nil _)))))), ?_⟩
    refine DW.step (i := 3) (by kernel_rfl) rfl rfl (OpStep.call (vs := [vp]) (caps := []) Tcall_54 rfl rfl (fun w hs => CloneInt_spec (by omega) h0 (hs.sl hp)) ?_)
    rintro uo _ rfl
    refine ⟨(Some'.weak (.skip (.skip (.skip (.take (.take (.nil _))))))), ?_⟩
    refine DW.formOwn (.head _) (fun A_uo2 c_uo2 hv hcapc_uo2 hmaxc_uo2 => ?_)
    subst hv
    refine DW.take (i := 8) (v := .agg #[.int .i64 N, .slice Ag m cg, .int .i64 Q, .slice A n c, .slice A_uo2 pn c_uo2, .slice (some ⟨b5, 0, none⟩) n n]) rfl (by kernel_rfl) (by kernel_rfl) (by kernel_rfl) (fun _ _ _ h => h) (Some'.weak (.skip (.skip (.skip (.take (.take (.nil _))))))) rfl (OpY.build (cs := [.int .i64 N, .slice Ag m cg, .int .i64 Q, .slice A n c, .slice A_uo2 pn c_uo2, .slice (some ⟨b5, 0, none⟩) n n]) (by kernel_rfl)) ?_
    refine DW.step (i := 9) (by kernel_rfl) rfl rfl (OpStep.storeAll (us := [.int .i64 N, .slice Ag m cg, .int .i64 Q, .slice A n c, .slice A_uo2 pn c_uo2, .slice (some ⟨b5, 0, none⟩) n n]) Tsize_87 rfl rfl rfl (.there _ (.there _ (.here _))) rfl ?_)
    refine ⟨(Some'.weak (.skip (.skip (.skip (.take (.take (.nil _))))))), ?_⟩
    refine DW.done (by kernel_rfl) ?_
    refine Run.ret ?_
    refine ⟨.agg #[.int .i64 N, .slice Ag m cg, .int .i64 Q, .slice A n c, .slice A_uo2 pn c_uo2, .slice (some ⟨b5, 0, none⟩) n n], [.own (.slice A_uo2 pn c_uo2) 3 1 pn (ints ps), .own (.slice (some ⟨b5, 0, none⟩) n n) 4 1 n ((List.replicate n ([.bool false] : List Value)).flatten)], Out.cell1 (cs := [.int .i64 N, .slice Ag m cg, .int .i64 Q, .slice A n c, .slice A_uo2 pn c_uo2, .slice (some ⟨b5, 0, none⟩) n n]) rfl Tagg_87 rfl (Cells.blk (.tail _ (.tail _ (List.Mem.head _))) ⟨rfl, rfl, rfl, rfl, rfl, rfl, trivial⟩), (Some'.weak (.take (.take (.nil _)))), ?_⟩
    exact ⟨_, _, rfl, rfl⟩

set_option maxHeartbeats 1000000 in
set_option maxRecDepth 20000 in
theorem fits_spec {N Q : Int} {vg vc vp vd : Value} {m n pn k : Nat} {es xs ps : List Int} {w : World} (hk : k < n) (he : edgesOk N es m = true) (hin : isTwoI (ix xs (k * 3)) = true → (0 ≤ ix xs (k * 3 + 1) ∧ (ix xs (k * 3 + 1)).toNat < pn) ∧ (0 ≤ ix xs (k * 3 + 2) ∧ (ix xs (k * 3 + 2)).toNat < pn) ∧ ix ps (ix xs (k * 3 + 1)).toNat ≠ ix ps (ix xs (k * 3 + 2)).toNat) (hg : Sl w vg 2 m (ints es)) (hc : Sl w vc 3 n (ints xs)) (hp : Sl w vp 1 pn (ints ps)) : Calls Try.prog 75 #[.agg #[.int .i64 N, vg, .int .i64 Q, vc, vp, vd], .int .i64 (k : Int)] w (Post No w fun v _ => v = .bool (nearG es m xs ps k)) := by
  have hcl := hc.len
  have hpl := hp.len
  obtain ⟨Ac, cc, rfl, _, _⟩ := hc.form0
  obtain ⟨bc, oc, rfl⟩ := hc.opn (by omega)
  obtain ⟨A, c, rfl, _, _⟩ := hp.form0
  refine enter (n := 33) (args := [.agg #[.int .i64 N, vg, .int .i64 Q, .slice (some ⟨bc, oc, none⟩) n cc, .slice A pn c, vd], .int .i64 (((k : Nat) : Int))]) Try.func75 rfl rfl (St.empty _ _) ?_
  refine Run.seq ?_
  refine Run.region ?_
  refine Run.step rfl (OpStep.box (us := [.int .i64 N, vg, .int .i64 Q, .slice (some ⟨bc, oc, none⟩) n cc, .slice A pn c, vd]) rfl fun b1 => ?_)
  refine Run.q (v := .bool false) rfl (OpQ.y (OpY.pure rfl)) ?_
  refine Run.done ?_
  refine Run.seq ?_
  refine Run.region ?_
  refine Run.q (v := .pointer (some ⟨b1, 2, none⟩)) rfl (OpQ.y (OpY.fieldAddr Tfo_87_1 rfl rfl)) ?_
  refine Run.q (v := .pointer (some ⟨b1, 3, none⟩)) rfl (OpQ.y (OpY.fieldAddr Tfo_39_1 rfl rfl)) ?_
  refine Run.q (v := .slice (some ⟨bc, oc, none⟩) n cc) rfl (OpQ.y (OpY.load1 Tone_37 rfl (Cells.blk (.head _) ⟨rfl, trivial⟩))) ?_
  refine Run.q (v := .int .i64 (((k : Nat) : Int))) rfl (OpQ.y (OpY.pure rfl)) ?_
  refine Run.q (v := .pointer (some ⟨bc, oc + k * 3, none⟩)) rfl (OpQ.y (OpY.index (kk := k) Tsl_37 rfl rfl (by omega) (by omega) (by first | rfl | omega))) ?_
  refine Run.q (v := .agg #[.int .i64 (ix xs (k * 3)), .int .i64 (ix xs (k * 3 + 1)), .int .i64 (ix xs (k * 3 + 2))]) rfl (OpQ.y (OpY.loadN (cs := [.int .i64 (ix xs (k * 3)), .int .i64 (ix xs (k * 3 + 1)), .int .i64 (ix xs (k * 3 + 2))]) Tagg_81 rfl (Cells.arg (k := k * 3) hc rfl (by omega) (pre3 (by omega))))) ?_
  refine Run.step rfl (OpStep.alloc (zs := [.int .i64 0, .int .i64 0, .int .i64 0]) Tzero_81 fun b2 => ?_)
  refine Run.step rfl (OpStep.storeAll (us := [.int .i64 (ix xs (k * 3)), .int .i64 (ix xs (k * 3 + 1)), .int .i64 (ix xs (k * 3 + 2))]) Tsize_81 rfl rfl rfl (.here _) rfl ?_)
  refine Run.done ?_
  refine Run.seq ?_
  refine Run.draws (by kernel_rfl) (by kernel_rfl) ?_
  refine Lex.q (v := .pointer (some ⟨b2, 0, none⟩)) rfl (OpQ.y (OpY.fieldAddr Tfo_81_0 rfl rfl)) ?_
  refine Lex.q (v := .int .i64 (ix xs (k * 3))) rfl (OpQ.y (OpY.load1 Tone_3 rfl (Cells.blk (.head _) ⟨rfl, trivial⟩))) ?_
  refine Lex.q (v := .bool (decide (9 ≤ ix xs (k * 3) ∧ ix xs (k * 3) ≤ 11))) rfl (OpQ.call (vs := [.int .i64 (ix xs (k * 3))]) (caps := []) Tcall_85 rfl rfl (fun w hs => isTwo_spec _ w)) ?_
  refine Lex.q (v := .bool (!(decide (9 ≤ ix xs (k * 3) ∧ ix xs (k * 3) ≤ 11)))) rfl (OpQ.y (OpY.pure rfl)) ?_
  rcases Bool.eq_false_or_eq_true (!(decide (9 ≤ ix xs (k * 3) ∧ ix xs (k * 3) ≤ 11))) with h16 | h16
  · refine Lex.q (v := .bool true) rfl (OpQ.y (OpY.moveB rfl h16)) ?_
    have p16 := h16; try simp only [bs] at p16
    refine Lex.pass rfl ?_
    refine Lex.pass rfl ?_
    refine Lex.pass rfl ?_
    refine Lex.pass rfl ?_
    refine Lex.pass rfl ?_
    refine Lex.pass rfl ?_
    refine Lex.pass rfl ?_
    refine Lex.pass rfl ?_
    refine Lex.pass rfl ?_
    refine Lex.pass rfl ?_
    refine Lex.pass rfl ?_
    refine Lex.pass rfl ?_
    refine Lex.pass rfl ?_
    refine Lex.pass rfl ?_
    refine Lex.pass rfl ?_
    refine Lex.q (v := .bool true) rfl (OpQ.y (OpY.pure rfl)) ?_
    refine Lex.q (v := .bool true) rfl (OpQ.y (OpY.pure rfl)) ?_
    refine Lex.done ?_
    refine Run.ret ?_
    refine ⟨.bool true, [], Out.one rfl rfl, (Some'.weak (.nil _)), ?_⟩
    show _ = _; unfold nearG isTwoI; rw [h16]; rfl
  · refine Lex.q (v := .bool false) rfl (OpQ.y (OpY.moveB rfl h16)) ?_
    have p16 := h16; try simp only [bs] at p16
    have h2 : isTwoI (ix xs (k * 3)) = true := by simp_all [isTwoI]
    have hh := hin h2
    obtain ⟨bp, op, rfl⟩ := hp.opn (by omega)
    refine Lex.q (v := .pointer (some ⟨b1, 0, none⟩)) rfl (OpQ.y (OpY.fieldAddr Tfo_87_0 rfl rfl)) ?_
    refine Lex.q (v := .agg #[.int .i64 N, vg]) rfl (OpQ.y (OpY.loadN (cs := [.int .i64 N, vg]) Tagg_35 rfl (Cells.blk (.tail _ (List.Mem.head _)) ⟨rfl, rfl, trivial⟩))) ?_
    refine Lex.q (v := .pointer (some ⟨b1, 4, none⟩)) rfl (OpQ.y (OpY.fieldAddr Tfo_87_2 rfl rfl)) ?_
    refine Lex.q (v := .slice (some ⟨bp, op, none⟩) pn c) rfl (OpQ.y (OpY.load1 Tone_28 rfl (Cells.blk (.tail _ (List.Mem.head _)) ⟨rfl, trivial⟩))) ?_
    refine Lex.q (v := .pointer (some ⟨b2, 1, none⟩)) rfl (OpQ.y (OpY.fieldAddr Tfo_81_1 rfl rfl)) ?_
    refine Lex.q (v := .int .i64 (ix xs (k * 3 + 1))) rfl (OpQ.y (OpY.load1 Tone_3 rfl (Cells.blk (.head _) ⟨rfl, trivial⟩))) ?_
    refine Lex.q (v := .pointer (some ⟨bp, op + (ix xs (k * 3 + 1)).toNat, none⟩)) rfl (OpQ.y (OpY.index (kk := (ix xs (k * 3 + 1)).toNat) Tsl_28 rfl rfl (by omega) (by omega) (by first | rfl | omega))) ?_
    refine Lex.q (v := .int .i64 (ix ps ((ix xs (k * 3 + 1)).toNat))) rfl (OpQ.y (OpY.load1 Tone_3 rfl (Cells.arg (k := (ix xs (k * 3 + 1)).toNat) hp rfl (by omega) (pre1 (by omega))))) ?_
    refine Lex.q (v := .pointer (some ⟨b1, 4, none⟩)) rfl (OpQ.y (OpY.fieldAddr Tfo_87_2 rfl rfl)) ?_
    refine Lex.q (v := .slice (some ⟨bp, op, none⟩) pn c) rfl (OpQ.y (OpY.load1 Tone_28 rfl (Cells.blk (.tail _ (List.Mem.head _)) ⟨rfl, trivial⟩))) ?_
    refine Lex.q (v := .pointer (some ⟨b2, 2, none⟩)) rfl (OpQ.y (OpY.fieldAddr Tfo_81_2 rfl rfl)) ?_
    refine Lex.q (v := .int .i64 (ix xs (k * 3 + 2))) rfl (OpQ.y (OpY.load1 Tone_3 rfl (Cells.blk (.head _) ⟨rfl, trivial⟩))) ?_
    refine Lex.q (v := .pointer (some ⟨bp, op + (ix xs (k * 3 + 2)).toNat, none⟩)) rfl (OpQ.y (OpY.index (kk := (ix xs (k * 3 + 2)).toNat) Tsl_28 rfl rfl (by omega) (by omega) (by first | rfl | omega))) ?_
    refine Lex.q (v := .int .i64 (ix ps ((ix xs (k * 3 + 2)).toNat))) rfl (OpQ.y (OpY.load1 Tone_3 rfl (Cells.arg (k := (ix xs (k * 3 + 2)).toNat) hp rfl (by omega) (pre1 (by omega))))) ?_
    refine Lex.q (v := .bool (adj es m (ix ps (ix xs (k * 3 + 1)).toNat) (ix ps (ix xs (k * 3 + 2)).toNat))) rfl (OpQ.call (vs := [.agg #[.int .i64 N, vg], .int .i64 (ix ps ((ix xs (k * 3 + 1)).toNat)), .int .i64 (ix ps ((ix xs (k * 3 + 2)).toNat))]) (caps := []) Tcall_90 rfl rfl (fun w hs => (by have h := joins_spec (N := N) (a := ix ps (ix xs (k * 3 + 1)).toNat) (b := ix ps (ix xs (k * 3 + 2)).toNat) (hs.sl hg); rw [adj_join he hh.2.2] at h; exact h))) ?_
    refine Lex.q (v := .bool (adj es m (ix ps (ix xs (k * 3 + 1)).toNat) (ix ps (ix xs (k * 3 + 2)).toNat))) rfl (OpQ.y (OpY.pure rfl)) ?_
    refine Lex.q (v := .bool (adj es m (ix ps (ix xs (k * 3 + 1)).toNat) (ix ps (ix xs (k * 3 + 2)).toNat))) rfl (OpQ.y (OpY.pure rfl)) ?_
    refine Lex.done ?_
    refine Run.ret ?_
    refine ⟨.bool (adj es m (ix ps (ix xs (k * 3 + 1)).toNat) (ix ps (ix xs (k * 3 + 2)).toNat)), [], Out.one rfl rfl, (Some'.weak (.nil _)), ?_⟩
    show _ = _; unfold nearG isTwoI; rw [h16]; rfl

end Go.Proofs.Ytekikmdjldincaa
