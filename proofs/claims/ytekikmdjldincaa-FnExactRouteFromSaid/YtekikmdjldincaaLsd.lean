/- Walks: what the searches for routes ask first, numbers of placements and of what is done. -/
import Derived.Test.YtekikmdjldincaaLsc
import Derived.Test.YtekikmdjldincaaProg
set_option linter.unusedSimpArgs false
set_option linter.unusedVariables false
namespace Go.Proofs.Ytekikmdjldincaa
open Go Go.RowKit
namespace LsdT
theorem Tint_114 : Try.prog.underlying 114 = some (.int .u64) := by kernel_rfl
theorem Tone_3 : oneOf Try.prog 3 = true := by kernel_rfl
theorem Tone_4 : oneOf Try.prog 4 = true := by kernel_rfl
theorem Tsl_28 : sliceOf Try.prog 28 = some (3, 1, 8, [.int .i64 0]) := by kernel_rfl
theorem Tsl_85 : sliceOf Try.prog 85 = some (4, 1, 1, [.bool false]) := by kernel_rfl
theorem Tsome_3 : (Try.prog.underlying 3).isSome = true := by kernel_rfl
end LsdT
open LsdT

def cnt2 (xs : List Int) : Nat → Nat
  | 0 => 0
  | k + 1 => if isTwoI (ix xs (k * 3)) then cnt2 xs k + 1 else cnt2 xs k
theorem cnt2_le (xs : List Int) : ∀ k, cnt2 xs k ≤ k
  | 0 => Nat.le_refl _
  | k + 1 => by have := cnt2_le xs k; rw [cnt2]; split <;> omega
def cdP (ps : List Int) : Nat → Int
  | 0 => 0
  | k + 1 => cdP ps k * 5 + ix ps k
theorem cdP_range {ps : List Int} {n : Nat} (h : ∀ i, i < n → 0 ≤ ix ps i ∧ ix ps i < 5) : ∀ k, k ≤ n → 0 ≤ cdP ps k ∧ cdP ps k < ((5 ^ k : Nat) : Int)
  | 0, _ => by simp [cdP]
  | k + 1, hk => by
    have h1 := cdP_range h k (by omega)
    have h2 := h k (by omega)
    rw [cdP, Nat.pow_succ]; omega
theorem cdP_inj {ps qs : List Int} {n : Nat} (hp : ∀ i, i < n → 0 ≤ ix ps i ∧ ix ps i < 5) (hq : ∀ i, i < n → 0 ≤ ix qs i ∧ ix qs i < 5) : ∀ k, k ≤ n → cdP ps k = cdP qs k → ∀ i, i < k → ix ps i = ix qs i
  | 0, _, _, i, hi => by omega
  | k + 1, hk, he, i, hi => by
    rw [cdP, cdP] at he
    have h1 := hp k (by omega)
    have h2 := hq k (by omega)
    by_cases e : i = k
    · subst e; omega
    · exact cdP_inj hp hq k (by omega) (by omega) i (by omega)
theorem pow5_le {k : Nat} (h : k ≤ 5) : 5 ^ k ≤ 3125 := Nat.pow_le_pow_right (n := 5) (by omega) h
def mkD (ds : List Bool) : Nat → Nat
  | 0 => 0
  | k + 1 => if bx ds k = true then mkD ds k ||| 2 ^ k else mkD ds k
theorem mkD_bit (ds : List Bool) : ∀ k j, (mkD ds k).testBit j = (decide (j < k) && bx ds j)
  | 0, j => by simp [mkD]
  | k + 1, j => by
    have ih := mkD_bit ds k j
    rw [mkD]
    by_cases hb : bx ds k = true
    · rw [if_pos hb, Nat.testBit_or, ih, Nat.testBit_two_pow]
      by_cases e : k = j
      · subst e; simp [hb]
      · rw [show decide (k = j) = false from decide_eq_false e, Bool.or_false, show decide (j < k + 1) = decide (j < k) from by simp; omega]
    · rw [if_neg hb, ih]
      by_cases e : k = j
      · subst e; simp [hb]
      · rw [show decide (j < k + 1) = decide (j < k) from by simp; omega]
theorem mkD_lt (ds : List Bool) : ∀ k, mkD ds k < 2 ^ k
  | 0 => by simp [mkD]
  | k + 1 => by
    have ih := mkD_lt ds k
    have h2 : 2 ^ (k + 1) = 2 ^ k + 2 ^ k := by rw [Nat.pow_succ]; omega
    rw [mkD]; split
    · exact Nat.or_lt_two_pow (by omega) (by omega)
    · omega
theorem mkD_inj {ds es : List Bool} {n : Nat} (hd : ds.length = n) (he : es.length = n) (h : mkD ds n = mkD es n) : ds = es := by
  refine List.ext_getElem (by omega) fun i h1 h2 => ?_
  have h3 := mkD_bit ds n i
  rw [h, mkD_bit es n i, show decide (i < n) = true from decide_eq_true (by omega), Bool.true_and, Bool.true_and] at h3
  simpa [bx, List.getD, h1, h2] using h3.symm
theorem pow40_le {k : Nat} (h : k ≤ 40) : 2 ^ k ≤ 1099511627776 := Nat.le_trans (Nat.pow_le_pow_right (n := 2) (by omega) h) (by decide)

set_option maxHeartbeats 1000000 in
set_option maxRecDepth 20000 in
theorem l23Code_spec {vp : Value} {n : Nat} {ps : List Int} {w : World} (h5 : n ≤ 5) (hr : ∀ i, i < n → 0 ≤ ix ps i ∧ ix ps i < 5) (hp : Sl w vp 1 n (ints ps)) : Calls Try.prog 65 #[vp] w (Post No w fun v _ => v = .int .i64 (cdP ps n)) := by
  have hpl := hp.len
  obtain ⟨A, c, rfl, _, _⟩ := hp.form0
  refine enter (n := 18) (args := [.slice A n c]) Try.func65 rfl rfl (St.empty _ _) ?_
  refine Run.seq ?_
  refine Run.region ?_
  refine Run.q (v := .int .i64 0) rfl (OpQ.y (OpY.pure rfl)) ?_
  refine Run.done ?_
  refine Run.seq ?_
  refine Run.region ?_
  refine Run.q (v := .int .i64 0) rfl (OpQ.y (OpY.pure rfl)) ?_
  refine Run.done ?_
  refine Run.seq ?_
  refine Run.seq ?_
  refine Run.region ?_
  refine Run.q (v := .slice A n c) rfl (OpQ.y (OpY.pure rfl)) ?_
  refine Run.q (v := .int .i64 (((n : Nat) : Int))) rfl (OpQ.y (OpY.len Tsl_28 rfl)) ?_
  refine Run.q (v := .int .i64 0) rfl (OpQ.y (OpY.pure rfl)) ?_
  refine Run.done ?_
  refine Run.block ?_
  refine Run.loop (ι := Nat) [3, 5, 8, 9, 10, 11, 12, 13, 14, 15, 16] (fun k => [(3, .int .i64 (cdP ps k)), (8, .int .i64 (((k : Nat) : Int)))]) (fun k => []) (fun k => k ≤ n ∧ (True)) (fun k => n - k) 0 ?_ ?_ ?_ ?_
  · exact ⟨Nat.zero_le _, by first | trivial | (intro i hi; omega)⟩
  · exact ⟨rfl, rfl, trivial⟩
  · exact (Some'.weak (.nil _))
  · rintro k fr hinv
    show Run _ _ (over _ _ [(3, .int .i64 (cdP ps k)), (8, .int .i64 (((k : Nat) : Int)))] fr) []
    try dsimp only at hinv
    refine Run.seq ?_
    refine Run.region ?_
    refine Run.q (v := .bool (decide ((((k : Nat) : Int)) < (((n : Nat) : Int))))) rfl (OpQ.y (OpY.pure rfl)) ?_
    refine Run.done ?_
    refine Run.seq ?_
    refine Run.cond (b := decide ((((k : Nat) : Int)) < (((n : Nat) : Int)))) rfl (fun h9 => ?_) (fun h9 => ?_)
    · have p9 := h9; try simp only [bs] at p9
      have hltk : k < n := by omega
      obtain ⟨b, o, rfl⟩ := hp.opn (by omega)
      have hcr := cdP_range hr k (by omega)
      have hp5 := pow5_le (k := k) (by omega)
      have hrk := hr k hltk
      refine Run.skip ?_
      refine Run.seq ?_
      refine Run.block ?_
      refine Run.seq ?_
      refine Run.region ?_
      refine Run.q (v := .pointer (some ⟨b, o + k, none⟩)) rfl (OpQ.y (OpY.index (kk := k) Tsl_28 rfl rfl (by omega) (by omega) (by first | rfl | omega))) ?_
      refine Run.q (v := .int .i64 (ix ps (k))) rfl (OpQ.y (OpY.load1 Tone_3 rfl (Cells.arg (k := k) hp rfl (by omega) (pre1 (by omega))))) ?_
      refine Run.q (v := .int .i64 (ix ps (k))) rfl (OpQ.y (OpY.pure rfl)) ?_
      refine Run.done ?_
      refine Run.region ?_
      refine Run.q (v := .int .i64 (cdP ps k)) rfl (OpQ.y (OpY.pure rfl)) ?_
      refine Run.q (v := .int .i64 (cdP ps k * 5)) rfl (OpQ.y (OpY.mul rfl rfl rfl (by omega) (by omega))) ?_
      refine Run.q (v := .int .i64 (ix ps (k))) rfl (OpQ.y (OpY.pure rfl)) ?_
      refine Run.q (v := .int .i64 ((cdP ps k * 5) + (ix ps (k)))) rfl (OpQ.y (OpY.add rfl rfl rfl (by omega) (by omega))) ?_
      refine Run.q (v := .int .i64 ((cdP ps k * 5) + (ix ps (k)))) rfl (OpQ.y (OpY.pure rfl)) ?_
      refine Run.done ?_
      refine Run.blockEnd ?_
      refine Run.region ?_
      refine Run.q (v := .int .i64 ((((k : Nat) : Int)) + 1)) rfl (OpQ.y (OpY.add rfl rfl rfl (by omega) (by omega))) ?_
      refine Run.q (v := .int .i64 ((((k : Nat) : Int)) + 1)) rfl (OpQ.y (OpY.pure rfl)) ?_
      refine Run.done ?_
      refine Run.goal ⟨(by repeat (first | exact Same.refl _ _ | refine Same.put rfl ?_ | refine Same.over rfl rfl ?_)), k + 1, ?_, ?_, ?_, ?_⟩
      · refine ⟨by omega, ?_⟩
        trivial
      · omega
      · exact ⟨(by first | rfl | (congr 1; omega) | simp), (by first | rfl | (congr 1; omega) | simp), trivial⟩
      · exact (Some'.weak (.nil _))
    · have p9 := h9; try simp only [bs] at p9
      have hknk : k = n := by omega
      refine Run.exit rfl ?_
      refine Run.seq ?_
      refine Run.region ?_
      refine Run.q (v := .int .i64 (cdP ps k)) rfl (OpQ.y (OpY.pure rfl)) ?_
      refine Run.q (v := .int .i64 (cdP ps k)) rfl (OpQ.y (OpY.pure rfl)) ?_
      refine Run.done ?_
      refine Run.ret ?_
      refine ⟨.int .i64 (cdP ps k), [], Out.one rfl rfl, (Some'.weak (.nil _)), ?_⟩
      show _ = _; rw [hknk]

set_option maxHeartbeats 1000000 in
set_option maxRecDepth 20000 in
theorem l23Mask_spec {vd : Value} {n : Nat} {ds : List Bool} {w : World} (h40 : n ≤ 40) (hd : Sl w vd 1 n (bls ds)) : Calls Try.prog 66 #[vd] w (Post No w fun v _ => v = .int .i64 ((mkD ds n : Nat) : Int)) := by
  have hdl := hd.blen
  obtain ⟨A, c, rfl, _, _⟩ := hd.form0
  refine enter (n := 21) (args := [.slice A n c]) Try.func66 rfl rfl (St.empty _ _) ?_
  refine Run.seq ?_
  refine Run.region ?_
  refine Run.q (v := .int .i64 0) rfl (OpQ.y (OpY.pure rfl)) ?_
  refine Run.done ?_
  refine Run.seq ?_
  refine Run.region ?_
  refine Run.q (v := .int .i64 0) rfl (OpQ.y (OpY.pure rfl)) ?_
  refine Run.done ?_
  refine Run.seq ?_
  refine Run.seq ?_
  refine Run.region ?_
  refine Run.q (v := .slice A n c) rfl (OpQ.y (OpY.pure rfl)) ?_
  refine Run.q (v := .int .i64 (((n : Nat) : Int))) rfl (OpQ.y (OpY.len Tsl_85 rfl)) ?_
  refine Run.q (v := .int .i64 0) rfl (OpQ.y (OpY.pure rfl)) ?_
  refine Run.done ?_
  refine Run.block ?_
  refine Run.loop (ι := Nat) [3, 4, 5, 8, 9, 10, 11, 12, 13, 14, 15, 16, 17, 18, 19] (fun k => [(3, .int .i64 (((mkD ds k : Nat) : Int))), (8, .int .i64 (((k : Nat) : Int)))]) (fun k => []) (fun k => k ≤ n) (fun k => n - k) 0 ?_ ?_ ?_ ?_
  · exact Nat.zero_le _
  · exact ⟨rfl, rfl, trivial⟩
  · exact (Some'.weak (.nil _))
  · rintro k fr hinv
    show Run _ _ (over _ _ [(3, .int .i64 (((mkD ds k : Nat) : Int))), (8, .int .i64 (((k : Nat) : Int)))] fr) []
    try dsimp only at hinv
    refine Run.seq ?_
    refine Run.region ?_
    refine Run.q (v := .bool (decide ((((k : Nat) : Int)) < (((n : Nat) : Int))))) rfl (OpQ.y (OpY.pure rfl)) ?_
    refine Run.done ?_
    refine Run.seq ?_
    refine Run.cond (b := decide ((((k : Nat) : Int)) < (((n : Nat) : Int)))) rfl (fun h9 => ?_) (fun h9 => ?_)
    · have p9 := h9; try simp only [bs] at p9
      have hltk : k < n := by omega
      have hmk := mkD_lt ds k
      have h2k := pow40_le (k := k) (by omega)
      obtain ⟨q, hq⟩ : ∃ q : Nat, q = 2 ^ k := ⟨_, rfl⟩
      rw [← hq] at hmk h2k
      obtain ⟨b, o, rfl⟩ := hd.opn (by omega)
      refine Run.skip ?_
      refine Run.seq ?_
      refine Run.block ?_
      refine Run.seq ?_
      refine Run.region ?_
      refine Run.q (v := .int .i64 (((k : Nat) : Int))) rfl (OpQ.y (OpY.pure rfl)) ?_
      refine Run.q (v := .pointer (some ⟨b, o + k, none⟩)) rfl (OpQ.y (OpY.index (kk := k) Tsl_85 rfl rfl (by omega) (by omega) (by first | rfl | omega))) ?_
      refine Run.q (v := .bool (bx ds (k))) rfl (OpQ.y (OpY.load1 Tone_4 rfl (Cells.arg (k := k) hd rfl (by omega) (preBl (by omega))))) ?_
      refine Run.q (v := .int .i64 (((k : Nat) : Int))) rfl (OpQ.y (OpY.pure rfl)) ?_
      refine Run.q (v := .bool (bx ds (k))) rfl (OpQ.y (OpY.pure rfl)) ?_
      refine Run.done ?_
      refine Run.seq ?_
      refine Run.region ?_
      refine Run.q (v := .bool (bx ds (k))) rfl (OpQ.y (OpY.pure rfl)) ?_
      refine Run.done ?_
      refine Run.cond (b := bx ds (k)) rfl (fun h13 => ?_) (fun h13 => ?_)
      · have p13 := h13; try simp only [bs] at p13
        refine Run.region ?_
        refine Run.q (v := .int .i64 (((mkD ds k : Nat) : Int))) rfl (OpQ.y (OpY.pure rfl)) ?_
        refine Run.q (v := .int .i64 (((k : Nat) : Int))) rfl (OpQ.y (OpY.pure rfl)) ?_
        refine Run.q (v := .int .u64 (((k : Nat) : Int))) rfl (OpQ.y (OpY.convIntEq Tsome_3 Tint_114 rfl (by rw [IntKind.wrap_u64]; omega))) ?_
        refine Run.q (v := .int .i64 (((q : Nat) : Int))) rfl (OpQ.y (OpY.shlOneB rfl rfl rfl (by omega) hq)) ?_
        refine Run.q (v := .int .i64 (((mkD ds k ||| q : Nat) : Int))) rfl (OpQ.y (OpY.orNatB rfl rfl rfl rfl (by omega) (by omega))) ?_
        refine Run.q (v := .int .i64 (((mkD ds k ||| q : Nat) : Int))) rfl (OpQ.y (OpY.pure rfl)) ?_
        refine Run.done ?_
        refine Run.blockEnd ?_
        refine Run.region ?_
        refine Run.q (v := .int .i64 ((((k : Nat) : Int)) + 1)) rfl (OpQ.y (OpY.add rfl rfl rfl (by omega) (by omega))) ?_
        refine Run.q (v := .int .i64 ((((k : Nat) : Int)) + 1)) rfl (OpQ.y (OpY.pure rfl)) ?_
        refine Run.done ?_
        refine Run.goal ⟨(by repeat (first | exact Same.refl _ _ | refine Same.put rfl ?_ | refine Same.over rfl rfl ?_)), k + 1, ?_, ?_, ?_, ?_⟩
        · exact hltk
        · omega
        · exact ⟨(by show Value.int _ _ = Value.int _ _; first | (rw [mkD, if_pos (by assumption), hq]; done) | (rw [mkD, if_neg (by simp_all)]; done)), (by first | rfl | (congr 1; omega) | simp), trivial⟩
        · exact (Some'.weak (.nil _))
      · have p13 := h13; try simp only [bs] at p13
        refine Run.skip ?_
        refine Run.blockEnd ?_
        refine Run.region ?_
        refine Run.q (v := .int .i64 ((((k : Nat) : Int)) + 1)) rfl (OpQ.y (OpY.add rfl rfl rfl (by omega) (by omega))) ?_
        refine Run.q (v := .int .i64 ((((k : Nat) : Int)) + 1)) rfl (OpQ.y (OpY.pure rfl)) ?_
        refine Run.done ?_
        refine Run.goal ⟨(by repeat (first | exact Same.refl _ _ | refine Same.put rfl ?_ | refine Same.over rfl rfl ?_)), k + 1, ?_, ?_, ?_, ?_⟩
        · exact hltk
        · omega
        · exact ⟨(by show Value.int _ _ = Value.int _ _; first | (rw [mkD, if_pos (by assumption), hq]; done) | (rw [mkD, if_neg (by simp_all)]; done)), (by first | rfl | (congr 1; omega) | simp), trivial⟩
        · exact (Some'.weak (.nil _))
    · have p9 := h9; try simp only [bs] at p9
      have hkn : k = n := by omega
      refine Run.exit rfl ?_
      refine Run.seq ?_
      refine Run.region ?_
      refine Run.q (v := .int .i64 (((mkD ds k : Nat) : Int))) rfl (OpQ.y (OpY.pure rfl)) ?_
      refine Run.q (v := .int .i64 (((mkD ds k : Nat) : Int))) rfl (OpQ.y (OpY.pure rfl)) ?_
      refine Run.done ?_
      refine Run.ret ?_
      refine ⟨.int .i64 (((mkD ds k : Nat) : Int)), [], Out.one rfl rfl, (Some'.weak (.nil _)), ?_⟩
      show _ = _; rw [hkn]

end Go.Proofs.Ytekikmdjldincaa
