/- Walks: the reference's rank, and which linear maps are valid. -/
import Derived.Test.YteehfidjofcfmaaLin2
import Derived.Test.YteehfidjofcfmaaProg
set_option linter.unusedSimpArgs false
set_option linter.unusedVariables false
namespace Go.Proofs.Yteehfidjofcfmaa
open Go Go.RowKit
namespace Lin3T
theorem Tagg_28 : aggOf Try.prog 28 = some 1 := by kernel_rfl
theorem Tcall_100 : callable Try.prog 100 = true := by kernel_rfl
theorem Tcall_101 : callable Try.prog 101 = true := by kernel_rfl
theorem Tcall_102 : callable Try.prog 102 = true := by kernel_rfl
theorem Tcall_60 : callable Try.prog 60 = true := by kernel_rfl
theorem Tcall_92 : callable Try.prog 92 = true := by kernel_rfl
theorem Tfo_28_0 : fieldOff Try.prog 28 0 = some 0 := by kernel_rfl
theorem Tint_96 : Try.prog.underlying 96 = some (.int .u64) := by kernel_rfl
theorem Tone_22 : oneOf Try.prog 22 = true := by kernel_rfl
theorem Tone_3 : oneOf Try.prog 3 = true := by kernel_rfl
theorem Tsize_3 : (Try.prog.info? 3).map (·.size) = some 1 := by kernel_rfl
theorem Tsl_22 : sliceOf Try.prog 22 = some (3, 1, 8, [.int .i64 0]) := by kernel_rfl
theorem Tsome_3 : (Try.prog.underlying 3).isSome = true := by kernel_rfl
end Lin3T
open Lin3T

theorem scan_at {p : Nat → Bool} {i0 i n : Nat} (h0 : i0 ≤ i) (hn : i < n) (h : ∀ k, i0 ≤ k → k < i → p k = false) (hp : p i = true) : scanR p i0 (n - i0) = i := by
  rcases scanR_spec (p := p) (n := n) (n - i0) i0 (by omega) with ⟨h1, h2⟩ | ⟨h1, h2, h3⟩
  · rw [h2 i h0 hn] at hp; cases hp
  · rcases Nat.lt_trichotomy (scanR p i0 (n - i0)) i with h4 | h4 | h4
    · rw [h _ h1 h4] at h3; cases h3
    · exact h4
    · exfalso
      have key : ∀ (m i1 : Nat), i1 + m = n → i1 ≤ i → ∀ k, i1 ≤ k → k < scanR p i1 m → p k = false := by
        intro m
        induction m with
        | zero => intro i1 hm _ k hk hlt; simp only [scanR] at hlt; omega
        | succ m ih =>
          intro i1 hm hi1 k hk hlt
          simp only [scanR] at hlt
          by_cases hc : p i1 = true
          · rw [if_pos hc] at hlt; omega
          · rw [if_neg hc] at hlt
            by_cases e : k = i1
            · subst e; simpa using hc
            · by_cases h5 : i1 + 1 ≤ i
              · exact ih (i1 + 1) (by omega) h5 k (by omega) hlt
              · have : i1 = i := by omega
                subst this; exact absurd hp hc
      have := key (n - i0) i0 (by omega) h0 i h0 h4
      rw [hp] at this; cases this
theorem scan_none {p : Nat → Bool} {i0 n : Nat} (h0 : i0 ≤ n) (h : ∀ k, i0 ≤ k → k < n → p k = false) : scanR p i0 (n - i0) = n := by
  rcases scanR_spec (p := p) (n := n) (n - i0) i0 (by omega) with ⟨h1, _⟩ | ⟨h1, h2, h3⟩
  · exact h1
  · rw [h _ h1 h2] at h3; cases h3
theorem nl_swp (l : List Nat) (i k : Nat) : ((nl l).set i (ix (nl l) k)).set k (ix (nl l) i) = nl (swp l i k) := by
  rw [ix_nl, ix_nl, nl_set, nl_set]; rfl
theorem set_lt {l : List Nat} {k i x : Nat} (h : ∀ j, nx l j < 2 ^ k) (hx : x < 2 ^ k) : ∀ j, nx (l.set i x) j < 2 ^ k := by
  intro j
  by_cases hj : j < l.length
  · rw [nx_set hj]
    by_cases e : i = j
    · rw [if_pos e]; exact hx
    · rw [if_neg e]; exact h j
  · rw [nx_ge (by simp; omega)]; exact Nat.two_pow_pos k
theorem clrN_lt {b rk x k : Nat} {l : List Nat} (h : ∀ j, nx l j < 2 ^ k) (hx : x < 2 ^ k) : ∀ m j, nx (clrN b rk x l m) j < 2 ^ k
  | 0, j => h j
  | m + 1, j => by
    simp only [clrN]
    by_cases hc : m ≠ rk ∧ (nx (clrN b rk x l m) m).testBit b = true
    · rw [if_pos hc]; exact set_lt (clrN_lt h hx m) (Nat.xor_lt_two_pow (clrN_lt h hx m m) hx) j
    · rw [if_neg hc]; exact clrN_lt h hx m j
theorem rkR_hit {n b i : Nat} {r : List Nat} (h : atR b n (rkR n r b) = i) (hi : i < n) : rkR n r (b + 1) = (clrN b (rkR n r b).2 (nx (rkR n r b).1 i) (swp (rkR n r b).1 i (rkR n r b).2) n, (rkR n r b).2 + 1) := by
  rw [rkR, rstep, if_neg (by omega), h]
theorem rkR_miss {n b : Nat} {r : List Nat} (h : atR b n (rkR n r b) = n) : rkR n r (b + 1) = rkR n r b := by
  rw [rkR, rstep, if_pos h]
theorem rkR_lt {n k b : Nat} {r : List Nat} (hl : r.length = n) (hb : ∀ x ∈ r, x < 2 ^ k) : ∀ i, nx (rkR n r b).1 i < 2 ^ k := by
  intro i
  by_cases hi : i < n
  · exact rkR_bound hl (fun i _ => nx_lt hb i) b i hi
  · rw [nx_ge (by rw [rkR_length]; omega)]; exact Nat.two_pow_pos k

set_option maxHeartbeats 1000000 in
set_option maxRecDepth 20000 in
theorem l12Rank_spec {va : Value} {n : Nat} {r : List Nat} {w : World} (hl : r.length = n) (h5 : n ≤ 5) (hb : ∀ x ∈ r, x < 2 ^ 10) (ha : Sl w va 1 n (ints (nl r))) : Calls Try.prog 102 #[va] w (Post No w fun v _ => v = .int .i64 ((rkR n r 10).2 : Nat)) := by
  refine enter (n := 80) (args := [va]) Try.func102 rfl rfl (St.empty _ _) ?_
  refine Run.seq ?_
  refine Run.region ?_
  refine Run.q (v := .int .i64 0) rfl (OpQ.y (OpY.pure rfl)) ?_
  refine Run.done ?_
  refine Run.seq ?_
  refine Run.region ?_
  refine Run.q (v := va) rfl (OpQ.y (OpY.pure rfl)) ?_
  refine Run.step rfl (OpStep.call (vs := [va]) (caps := []) Tcall_92 rfl rfl (fun w hs => l1Own_spec (n := n) (by omega) (hs.sl ha)) ?_)
  rintro uc _ rfl
  show Run _ _ (putF _ _ _ uc) [.own uc 3 1 n (ints (nl r))]
  refine Run.q (v := uc) rfl (OpQ.y (OpY.pure rfl)) ?_
  refine Run.done ?_
  refine Run.seq ?_
  refine Run.region ?_
  refine Run.q (v := .int .i64 0) rfl (OpQ.y (OpY.pure rfl)) ?_
  refine Run.done ?_
  refine Run.seq ?_
  refine Run.seq ?_
  refine Run.region ?_
  refine Run.q (v := .int .i64 0) rfl (OpQ.y (OpY.pure rfl)) ?_
  refine Run.done ?_
  refine Run.block ?_
  refine Run.loop (ι := Nat) ([4, 5, 6, 7, 8, 9, 12, 13, 14, 15, 16, 17, 18, 19, 20, 21, 22, 23, 24, 25, 26, 27, 28, 29, 30, 31, 32, 33, 34, 35, 36, 37, 38, 39, 40, 41, 42, 43, 44, 45, 46, 47, 48, 49, 50, 51, 52, 53, 54, 55] ++ [56, 57, 58, 59, 60, 61, 62, 63, 64, 65, 66, 67, 68, 69, 70, 71, 72, 73, 74, 75, 76, 77, 78]) (fun bb => [(4, .int .i64 ((((rkR n r bb).2 : Nat) : Int))), (5, .int .i64 (((bb : Nat) : Int)))]) (fun bb => [.own uc 3 1 n (ints (nl ((rkR n r bb).1)))]) (fun bb => bb ≤ 10) (fun bb => 10 - bb) 0 ?_ ?_ ?_ ?_
  · exact Nat.zero_le _
  · exact ⟨rfl, rfl, trivial⟩
  · exact (Some'.weak (.takeEq (by first | rfl | (rw [hnx]; done) | (rw [hnx, hj])) (.nil _)))
  · rintro bb fr hinv
    show Run _ _ (over _ _ [(4, .int .i64 ((((rkR n r bb).2 : Nat) : Int))), (5, .int .i64 (((bb : Nat) : Int)))] fr) [.own uc 3 1 n (ints (nl ((rkR n r bb).1)))]
    try dsimp only at hinv
    refine Run.seq ?_
    refine Run.seq ?_
    refine Run.region ?_
    refine Run.q (v := .int .i64 (((bb : Nat) : Int))) rfl (OpQ.y (OpY.pure rfl)) ?_
    refine Run.q (v := .bool (decide ((((bb : Nat) : Int)) < 10))) rfl (OpQ.y (OpY.pure rfl)) ?_
    refine Run.done ?_
    refine Run.cond (b := decide ((((bb : Nat) : Int)) < 10)) rfl (fun h13 => ?_) (fun h13 => ?_)
    · have p13 := h13; try simp only [bs] at p13
      have hrl : (rkR n r bb).1.length = n := by rw [rkR_length]; exact hl
      have hnl1 := nl_length (rkR n r bb).1
      obtain ⟨pv, hpv⟩ := rkR_piv hl bb
      have hrk := hpv.le
      have hbd := rkR_lt (b := bb) hl hb
      refine Run.skip ?_
      refine Run.seq ?_
      refine Run.block ?_
      refine Run.seq ?_
      refine Run.region ?_
      refine Run.q (v := .int .i64 (-1)) rfl (OpQ.y (OpY.pure rfl)) ?_
      refine Run.done ?_
      refine Run.seq ?_
      refine Run.seq ?_
      refine Run.region ?_
      refine Run.q (v := .int .i64 ((((rkR n r bb).2 : Nat) : Int))) rfl (OpQ.y (OpY.pure rfl)) ?_
      refine Run.q (v := .int .i64 ((((rkR n r bb).2 : Nat) : Int))) rfl (OpQ.y (OpY.pure rfl)) ?_
      refine Run.done ?_
      refine Run.block ?_
      refine Run.loop (ι := Nat) [6, 7, 17, 18, 19, 20, 21, 22, 23, 24, 25, 26, 27, 28, 29, 30, 31, 32] (fun i => [(6, .int .i64 (-1)), (7, .int .i64 (((i : Nat) : Int)))]) (fun i => [.own uc 3 1 n (ints (nl ((rkR n r bb).1)))]) (fun i => (rkR n r bb).2 ≤ i ∧ i ≤ n ∧ ∀ k, (rkR n r bb).2 ≤ k → k < i → (nx (rkR n r bb).1 k).testBit bb = false) (fun i => n - i) (rkR n r bb).2 ?_ ?_ ?_ ?_
      · exact ⟨Nat.le_refl _, hrk, fun k h1 h2 => by omega⟩
      · exact ⟨rfl, rfl, trivial⟩
      · exact (Some'.weak (.take (.nil _)))
      · rintro i fr hinv
        show Run _ _ (over _ _ [(6, .int .i64 (-1)), (7, .int .i64 (((i : Nat) : Int)))] fr) [.own uc 3 1 n (ints (nl ((rkR n r bb).1)))]
        try dsimp only at hinv
        refine Run.seq ?_
        refine Run.seq ?_
        refine Run.region ?_
        refine Run.q (v := .int .i64 (((i : Nat) : Int))) rfl (OpQ.y (OpY.pure rfl)) ?_
        refine Run.q (v := uc) rfl (OpQ.y (OpY.pure rfl)) ?_
        refine Run.formOwn (.head _) (fun A_uc1 c_uc1 hv hcapc_uc1 hmaxc_uc1 => ?_) (fun _ _ _ => ⟨nofun, nofun, nofun⟩)
        subst hv
        refine Run.q (v := .int .i64 (((n : Nat) : Int))) rfl (OpQ.y (OpY.len Tsl_22 rfl)) ?_
        refine Run.q (v := .bool (decide ((((i : Nat) : Int)) < (((n : Nat) : Int))))) rfl (OpQ.y (OpY.pure rfl)) ?_
        refine Run.done ?_
        refine Run.cond (b := decide ((((i : Nat) : Int)) < (((n : Nat) : Int)))) rfl (fun h20 => ?_) (fun h20 => ?_)
        · have p20 := h20; try simp only [bs] at p20
          have hin : i < n := by omega
          refine Run.openOwn (.head _) (by omega) (fun g cg hvg hcapg _ => ?_) (fun _ _ _ => ⟨nofun, nofun, nofun⟩)
          injection hvg with hAg _ hcg; subst hAg; subst hcg
          refine Run.skip ?_
          refine Run.seq ?_
          refine Run.block ?_
          refine Run.seq ?_
          refine Run.region ?_
          refine Run.q (v := .slice (some ⟨g, 0, none⟩) n c_uc1) rfl (OpQ.y (OpY.pure rfl)) ?_
          refine Run.q (v := .int .i64 (((i : Nat) : Int))) rfl (OpQ.y (OpY.pure rfl)) ?_
          refine Run.q (v := .pointer (some ⟨g, i, none⟩)) rfl (OpQ.y (OpY.index (kk := i) Tsl_22 rfl rfl (by omega) (by omega) (by first | rfl | omega))) ?_
          refine Run.q (v := .int .i64 (ix (nl ((rkR n r bb).1)) (i))) rfl (OpQ.y (OpY.load1 Tone_3 rfl (Cells.own0 (.head _) (pre1 (by omega))))) ?_
          refine Run.q (v := .int .i64 (((bb : Nat) : Int))) rfl (OpQ.y (OpY.pure rfl)) ?_
          refine Run.q (v := .int .u64 (((bb : Nat) : Int))) rfl (OpQ.y (OpY.convIntEq Tsome_3 Tint_96 rfl (by rw [IntKind.wrap_u64]; omega))) ?_
          refine Run.q (v := .int .i64 ((ix (nl ((rkR n r bb).1)) (i)) >>> bb)) rfl (OpQ.y (OpY.shr rfl rfl (by first | rfl | omega) (by omega))) ?_
          refine Run.q (v := .int .i64 (((ix (nl ((rkR n r bb).1)) (i)) >>> bb) % 2)) rfl (OpQ.y (OpY.and1 rfl rfl)) ?_
          refine Run.q (v := .bool ((((ix (nl ((rkR n r bb).1)) (i)) >>> bb) % 2) == 1)) rfl (OpQ.y (OpY.pure rfl)) ?_
          refine Run.done ?_
          refine Run.cond (b := (((ix (nl ((rkR n r bb).1)) (i)) >>> bb) % 2) == 1) rfl (fun h31 => ?_) (fun h31 => ?_)
          · have p31 := h31; try simp only [bs] at p31
            have hbit : (nx (rkR n r bb).1 i).testBit bb = true := by rw [← bitI_nl]; exact bitI_true p31
            have hat : atR bb n (rkR n r bb) = i := scan_at hinv.1 hin hinv.2.2 hbit
            have hnx := rkR_hit hat hin
            refine Run.seq ?_
            refine Run.region ?_
            refine Run.q (v := .int .i64 (((i : Nat) : Int))) rfl (OpQ.y (OpY.pure rfl)) ?_
            refine Run.q (v := .int .i64 (((i : Nat) : Int))) rfl (OpQ.y (OpY.pure rfl)) ?_
            refine Run.done ?_
            refine Run.exit rfl ?_
            refine Run.seq ?_
            refine Run.seq ?_
            refine Run.region ?_
            refine Run.q (v := .int .i64 (((i : Nat) : Int))) rfl (OpQ.y (OpY.pure rfl)) ?_
            refine Run.q (v := .bool (decide ((((i : Nat) : Int)) < 0))) rfl (OpQ.y (OpY.pure rfl)) ?_
            refine Run.done ?_
            refine Run.cond (b := decide ((((i : Nat) : Int)) < 0)) rfl (fun h34 => ?_) (fun h34 => ?_)
            · have p34 := h34; try simp only [bs] at p34
              exact absurd p34 (by omega) --DONE
            · have p34 := h34; try simp only [bs] at p34
              refine Run.skip ?_
              refine Run.seq ?_
              refine Run.region ?_
              refine Run.q (v := .slice (some ⟨g, 0, none⟩) n c_uc1) rfl (OpQ.y (OpY.pure rfl)) ?_
              refine Run.q (v := .int .i64 (((i : Nat) : Int))) rfl (OpQ.y (OpY.pure rfl)) ?_
              refine Run.q (v := .pointer (some ⟨g, i, none⟩)) rfl (OpQ.y (OpY.index (kk := i) Tsl_22 rfl rfl (by omega) (by omega) (by first | rfl | omega))) ?_
              refine Run.q (v := .int .i64 (ix (nl ((rkR n r bb).1)) (i))) rfl (OpQ.y (OpY.load1 Tone_3 rfl (Cells.own0 (.head _) (pre1 (by omega))))) ?_
              refine Run.q (v := .int .i64 (ix (nl ((rkR n r bb).1)) (i))) rfl (OpQ.y (OpY.pure rfl)) ?_
              refine Run.done ?_
              refine Run.seq ?_
              refine Run.region ?_
              refine Run.q (v := .slice (some ⟨g, 0, none⟩) n c_uc1) rfl (OpQ.y (OpY.pure rfl)) ?_
              refine Run.q (v := .int .i64 (((i : Nat) : Int))) rfl (OpQ.y (OpY.pure rfl)) ?_
              refine Run.q (v := .slice (some ⟨g, 0, none⟩) n c_uc1) rfl (OpQ.y (OpY.pure rfl)) ?_
              refine Run.q (v := .int .i64 ((((rkR n r bb).2 : Nat) : Int))) rfl (OpQ.y (OpY.pure rfl)) ?_
              refine Run.q (v := .pointer (some ⟨g, (rkR n r bb).2, none⟩)) rfl (OpQ.y (OpY.index (kk := (rkR n r bb).2) Tsl_22 rfl rfl (by omega) (by omega) (by first | rfl | omega))) ?_
              refine Run.q (v := .int .i64 (ix (nl ((rkR n r bb).1)) ((rkR n r bb).2))) rfl (OpQ.y (OpY.load1 Tone_3 rfl (Cells.own0 (.head _) (pre1 (by omega))))) ?_
              refine Run.q (v := .pointer (some ⟨g, i, none⟩)) rfl (OpQ.y (OpY.index (kk := i) Tsl_22 rfl rfl (by omega) (by omega) (by first | rfl | omega))) ?_
              refine Run.step rfl (OpStep.storeOwnInt (o := i) (a := ix (nl ((rkR n r bb).1)) ((rkR n r bb).2)) Tsize_3 rfl rfl (.here _) (by omega) ?_)
              refine Run.done ?_
              refine Run.seq ?_
              refine Run.region ?_
              refine Run.q (v := .slice (some ⟨g, 0, none⟩) n c_uc1) rfl (OpQ.y (OpY.pure rfl)) ?_
              refine Run.q (v := .int .i64 ((((rkR n r bb).2 : Nat) : Int))) rfl (OpQ.y (OpY.pure rfl)) ?_
              refine Run.q (v := .int .i64 (ix (nl ((rkR n r bb).1)) (i))) rfl (OpQ.y (OpY.pure rfl)) ?_
              refine Run.q (v := .pointer (some ⟨g, (rkR n r bb).2, none⟩)) rfl (OpQ.y (OpY.index (kk := (rkR n r bb).2) Tsl_22 rfl rfl (by omega) (by omega) (by first | rfl | omega))) ?_
              refine Run.step rfl (OpStep.storeOwnInt (o := (rkR n r bb).2) (a := ix (nl ((rkR n r bb).1)) (i)) Tsize_3 rfl rfl (.here _) (by omega) ?_)
              refine Run.done ?_
              refine Run.seq ?_
              refine Run.seq ?_
              refine Run.region ?_
              refine Run.q (v := .slice (some ⟨g, 0, none⟩) n c_uc1) rfl (OpQ.y (OpY.pure rfl)) ?_
              refine Run.q (v := .int .i64 (((n : Nat) : Int))) rfl (OpQ.y (OpY.len Tsl_22 rfl)) ?_
              refine Run.q (v := .int .i64 0) rfl (OpQ.y (OpY.pure rfl)) ?_
              refine Run.done ?_
              refine Run.block ?_
              refine Run.loop (ι := Nat) [9, 52, 53, 54, 55, 56, 57, 58, 59, 60, 61, 62, 63, 64, 65, 66, 67, 68, 69, 70, 71, 72, 73, 74, 75, 76] (fun j => [(52, .int .i64 (((j : Nat) : Int)))]) (fun j => [.own (.slice (some ⟨g, 0, none⟩) n c_uc1) 3 1 n (ints (nl (clrN bb (rkR n r bb).2 (nx (rkR n r bb).1 i) (swp (rkR n r bb).1 i (rkR n r bb).2) j)))]) (fun j => j ≤ n) (fun j => n - j) 0 ?_ ?_ ?_ ?_
              · exact Nat.zero_le _
              · exact ⟨rfl, trivial⟩
              · exact (Some'.weak (.takeEq (by first | rfl | (rw [hX]; done) | (rw [hX, nl_set]; done) | (rw [nl_swp]; rfl)) (.nil _)))
              · rintro j fr hinv
                show Run _ _ (over _ _ [(52, .int .i64 (((j : Nat) : Int)))] fr) [.own (.slice (some ⟨g, 0, none⟩) n c_uc1) 3 1 n (ints (nl (clrN bb (rkR n r bb).2 (nx (rkR n r bb).1 i) (swp (rkR n r bb).1 i (rkR n r bb).2) j)))]
                try dsimp only at hinv
                refine Run.seq ?_
                refine Run.region ?_
                refine Run.q (v := .bool (decide ((((j : Nat) : Int)) < (((n : Nat) : Int))))) rfl (OpQ.y (OpY.pure rfl)) ?_
                refine Run.done ?_
                refine Run.seq ?_
                refine Run.cond (b := decide ((((j : Nat) : Int)) < (((n : Nat) : Int)))) rfl (fun h53 => ?_) (fun h53 => ?_)
                · have p53 := h53; try simp only [bs] at p53
                  have hjn : j < n := by omega
                  have hcl : (clrN bb (rkR n r bb).2 (nx (rkR n r bb).1 i) (swp (rkR n r bb).1 i (rkR n r bb).2) j).length = n := by rw [clrN_length, swp_length]; exact hrl
                  have hnl2 := nl_length (clrN bb (rkR n r bb).2 (nx (rkR n r bb).1 i) (swp (rkR n r bb).1 i (rkR n r bb).2) j)
                  refine Run.skip ?_
                  refine Run.seq ?_
                  refine Run.block ?_
                  refine Run.seq ?_
                  refine Run.region ?_
                  refine Run.q (v := .int .i64 (((j : Nat) : Int))) rfl (OpQ.y (OpY.pure rfl)) ?_
                  refine Run.q (v := .int .i64 (((j : Nat) : Int))) rfl (OpQ.y (OpY.pure rfl)) ?_
                  refine Run.done ?_
                  refine Run.seq ?_
                  refine Run.region ?_
                  refine Run.q (v := .int .i64 (((j : Nat) : Int))) rfl (OpQ.y (OpY.pure rfl)) ?_
                  refine Run.q (v := .int .i64 ((((rkR n r bb).2 : Nat) : Int))) rfl (OpQ.y (OpY.pure rfl)) ?_
                  refine Run.q (v := .bool ((((j : Nat) : Int)) != ((((rkR n r bb).2 : Nat) : Int)))) rfl (OpQ.y (OpY.pure rfl)) ?_
                  rcases Bool.eq_false_or_eq_true ((((j : Nat) : Int)) != ((((rkR n r bb).2 : Nat) : Int))) with h58 | h58
                  · refine Run.q (v := .bool true) rfl (OpQ.y (OpY.moveB rfl h58)) ?_
                    have p58 := h58; try simp only [bs] at p58
                    refine Run.q (v := .slice (some ⟨g, 0, none⟩) n c_uc1) rfl (OpQ.y (OpY.pure rfl)) ?_
                    refine Run.q (v := .int .i64 (((j : Nat) : Int))) rfl (OpQ.y (OpY.pure rfl)) ?_
                    refine Run.q (v := .pointer (some ⟨g, j, none⟩)) rfl (OpQ.y (OpY.index (kk := j) Tsl_22 rfl rfl (by omega) (by omega) (by first | rfl | omega))) ?_
                    refine Run.q (v := .int .i64 (ix (nl (clrN bb (rkR n r bb).2 (nx (rkR n r bb).1 i) (swp (rkR n r bb).1 i (rkR n r bb).2) j)) (j))) rfl (OpQ.y (OpY.load1 Tone_3 rfl (Cells.own0 (.head _) (pre1 (by omega))))) ?_
                    refine Run.q (v := .int .i64 (((bb : Nat) : Int))) rfl (OpQ.y (OpY.pure rfl)) ?_
                    refine Run.q (v := .int .u64 (((bb : Nat) : Int))) rfl (OpQ.y (OpY.convIntEq Tsome_3 Tint_96 rfl (by rw [IntKind.wrap_u64]; omega))) ?_
                    refine Run.q (v := .int .i64 ((ix (nl (clrN bb (rkR n r bb).2 (nx (rkR n r bb).1 i) (swp (rkR n r bb).1 i (rkR n r bb).2) j)) (j)) >>> bb)) rfl (OpQ.y (OpY.shr rfl rfl (by first | rfl | omega) (by omega))) ?_
                    refine Run.q (v := .int .i64 (((ix (nl (clrN bb (rkR n r bb).2 (nx (rkR n r bb).1 i) (swp (rkR n r bb).1 i (rkR n r bb).2) j)) (j)) >>> bb) % 2)) rfl (OpQ.y (OpY.and1 rfl rfl)) ?_
                    refine Run.q (v := .bool ((((ix (nl (clrN bb (rkR n r bb).2 (nx (rkR n r bb).1 i) (swp (rkR n r bb).1 i (rkR n r bb).2) j)) (j)) >>> bb) % 2) == 1)) rfl (OpQ.y (OpY.pure rfl)) ?_
                    refine Run.q (v := .bool ((((ix (nl (clrN bb (rkR n r bb).2 (nx (rkR n r bb).1 i) (swp (rkR n r bb).1 i (rkR n r bb).2) j)) (j)) >>> bb) % 2) == 1)) rfl (OpQ.y (OpY.pure rfl)) ?_
                    refine Run.done ?_
                    refine Run.cond (b := (((ix (nl (clrN bb (rkR n r bb).2 (nx (rkR n r bb).1 i) (swp (rkR n r bb).1 i (rkR n r bb).2) j)) (j)) >>> bb) % 2) == 1) rfl (fun h68 => ?_) (fun h68 => ?_)
                    · have p68 := h68; try simp only [bs] at p68
                      have hc : j ≠ (rkR n r bb).2 ∧ (nx (clrN bb (rkR n r bb).2 (nx (rkR n r bb).1 i) (swp (rkR n r bb).1 i (rkR n r bb).2) j) j).testBit bb = true := ⟨by omega, by rw [← bitI_nl]; exact bitI_true p68⟩
                      have hX : clrN bb (rkR n r bb).2 (nx (rkR n r bb).1 i) (swp (rkR n r bb).1 i (rkR n r bb).2) (j + 1) = (clrN bb (rkR n r bb).2 (nx (rkR n r bb).1 i) (swp (rkR n r bb).1 i (rkR n r bb).2) j).set j (nx (clrN bb (rkR n r bb).2 (nx (rkR n r bb).1 i) (swp (rkR n r bb).1 i (rkR n r bb).2) j) j ^^^ nx (rkR n r bb).1 i) := by rw [clrN, if_pos hc]
                      have hv : nx (clrN bb (rkR n r bb).2 (nx (rkR n r bb).1 i) (swp (rkR n r bb).1 i (rkR n r bb).2) j) j < 2 ^ 10 := clrN_lt (set_lt (set_lt hbd (hbd _)) (hbd i)) (hbd i) j j
                      have hxv := hbd i
                      refine Run.region ?_
                      refine Run.q (v := .slice (some ⟨g, 0, none⟩) n c_uc1) rfl (OpQ.y (OpY.pure rfl)) ?_
                      refine Run.q (v := .int .i64 (((j : Nat) : Int))) rfl (OpQ.y (OpY.pure rfl)) ?_
                      refine Run.q (v := .pointer (some ⟨g, j, none⟩)) rfl (OpQ.y (OpY.index (kk := j) Tsl_22 rfl rfl (by omega) (by omega) (by first | rfl | omega))) ?_
                      refine Run.q (v := .int .i64 (ix (nl (clrN bb (rkR n r bb).2 (nx (rkR n r bb).1 i) (swp (rkR n r bb).1 i (rkR n r bb).2) j)) (j))) rfl (OpQ.y (OpY.load1 Tone_3 rfl (Cells.own0 (.head _) (pre1 (by omega))))) ?_
                      refine Run.q (v := .int .i64 (ix (nl ((rkR n r bb).1)) (i))) rfl (OpQ.y (OpY.pure rfl)) ?_
                      refine Run.q (v := .int .i64 (((nx (clrN bb (rkR n r bb).2 (nx (rkR n r bb).1 i) (swp (rkR n r bb).1 i (rkR n r bb).2) j) j ^^^ nx (rkR n r bb).1 i : Nat) : Int))) rfl (OpQ.y (OpY.xorNat rfl rfl (ix_nl _ _) (ix_nl _ _) (by omega) (by omega))) ?_
                      refine Run.q (v := .pointer (some ⟨g, j, none⟩)) rfl (OpQ.y (OpY.index (kk := j) Tsl_22 rfl rfl (by omega) (by omega) (by first | rfl | omega))) ?_
                      refine Run.step rfl (OpStep.storeOwnInt (o := j) (a := ((nx (clrN bb (rkR n r bb).2 (nx (rkR n r bb).1 i) (swp (rkR n r bb).1 i (rkR n r bb).2) j) j ^^^ nx (rkR n r bb).1 i : Nat) : Int)) Tsize_3 rfl rfl (.here _) (by omega) ?_)
                      refine Run.done ?_
                      refine Run.blockEnd ?_
                      refine Run.region ?_
                      refine Run.q (v := .int .i64 ((((j : Nat) : Int)) + 1)) rfl (OpQ.y (OpY.add rfl rfl rfl (by omega) (by omega))) ?_
                      refine Run.q (v := .int .i64 ((((j : Nat) : Int)) + 1)) rfl (OpQ.y (OpY.pure rfl)) ?_
                      refine Run.done ?_
                      refine Run.goal ⟨(by repeat (first | exact Same.refl _ _ | refine Same.put rfl ?_ | refine Same.over rfl rfl ?_)), j + 1, ?_, ?_, ?_, ?_⟩
                      · omega
                      · omega
                      · exact ⟨(by first | rfl | (congr 1; omega) | simp), trivial⟩
                      · exact (Some'.weak (.takeEq (by first | rfl | (rw [hX]; done) | (rw [hX, nl_set]; done) | (rw [nl_swp]; rfl)) (.nil _)))
                    · have p68 := h68; try simp only [bs] at p68
                      have hX : clrN bb (rkR n r bb).2 (nx (rkR n r bb).1 i) (swp (rkR n r bb).1 i (rkR n r bb).2) (j + 1) = clrN bb (rkR n r bb).2 (nx (rkR n r bb).1 i) (swp (rkR n r bb).1 i (rkR n r bb).2) j := by
                        rw [clrN, if_neg]
                        rintro ⟨h1, h2⟩
                        rw [← bitI_nl] at h2
                        first | (rw [bitI_ne1 p68] at h2; cases h2) | omega
                      refine Run.skip ?_
                      refine Run.blockEnd ?_
                      refine Run.region ?_
                      refine Run.q (v := .int .i64 ((((j : Nat) : Int)) + 1)) rfl (OpQ.y (OpY.add rfl rfl rfl (by omega) (by omega))) ?_
                      refine Run.q (v := .int .i64 ((((j : Nat) : Int)) + 1)) rfl (OpQ.y (OpY.pure rfl)) ?_
                      refine Run.done ?_
                      refine Run.goal ⟨(by repeat (first | exact Same.refl _ _ | refine Same.put rfl ?_ | refine Same.over rfl rfl ?_)), j + 1, ?_, ?_, ?_, ?_⟩
                      · omega
                      · omega
                      · exact ⟨(by first | rfl | (congr 1; omega) | simp), trivial⟩
                      · exact (Some'.weak (.takeEq (by first | rfl | (rw [hX]; done) | (rw [hX, nl_set]; done) | (rw [nl_swp]; rfl)) (.nil _)))
                  · refine Run.q (v := .bool false) rfl (OpQ.y (OpY.moveB rfl h58)) ?_
                    have p58 := h58; try simp only [bs] at p58
                    have hX : clrN bb (rkR n r bb).2 (nx (rkR n r bb).1 i) (swp (rkR n r bb).1 i (rkR n r bb).2) (j + 1) = clrN bb (rkR n r bb).2 (nx (rkR n r bb).1 i) (swp (rkR n r bb).1 i (rkR n r bb).2) j := by rw [clrN, if_neg fun h => h.1 (by omega)]
                    refine Run.pass rfl ?_
                    refine Run.pass rfl ?_
                    refine Run.pass rfl ?_
                    refine Run.pass rfl ?_
                    refine Run.pass rfl ?_
                    refine Run.pass rfl ?_
                    refine Run.pass rfl ?_
                    refine Run.pass rfl ?_
                    refine Run.pass rfl ?_
                    refine Run.q (v := .bool false) rfl (OpQ.y (OpY.pure rfl)) ?_
                    refine Run.done ?_
                    refine Run.cond (b := false) rfl (fun h => nomatch h) (fun _ => ?_)
                    refine Run.skip ?_
                    refine Run.blockEnd ?_
                    refine Run.region ?_
                    refine Run.q (v := .int .i64 ((((j : Nat) : Int)) + 1)) rfl (OpQ.y (OpY.add rfl rfl rfl (by omega) (by omega))) ?_
                    refine Run.q (v := .int .i64 ((((j : Nat) : Int)) + 1)) rfl (OpQ.y (OpY.pure rfl)) ?_
                    refine Run.done ?_
                    refine Run.goal ⟨(by repeat (first | exact Same.refl _ _ | refine Same.put rfl ?_ | refine Same.over rfl rfl ?_)), j + 1, ?_, ?_, ?_, ?_⟩
                    · omega
                    · omega
                    · exact ⟨(by first | rfl | (congr 1; omega) | simp), trivial⟩
                    · exact (Some'.weak (.takeEq (by first | rfl | (rw [hX]; done) | (rw [hX, nl_set]; done) | (rw [nl_swp]; rfl)) (.nil _)))
                · have p53 := h53; try simp only [bs] at p53
                  have hj : j = n := by omega
                  refine Run.exit rfl ?_
                  refine Run.region ?_
                  refine Run.q (v := .int .i64 ((((rkR n r bb).2 : Nat) : Int))) rfl (OpQ.y (OpY.pure rfl)) ?_
                  refine Run.q (v := .int .i64 (((((rkR n r bb).2 : Nat) : Int)) + 1)) rfl (OpQ.y (OpY.add rfl rfl rfl (by omega) (by omega))) ?_
                  refine Run.q (v := .int .i64 (((((rkR n r bb).2 : Nat) : Int)) + 1)) rfl (OpQ.y (OpY.pure rfl)) ?_
                  refine Run.done ?_
                  refine Run.blockEnd ?_
                  refine Run.region ?_
                  refine Run.q (v := .int .i64 (((bb : Nat) : Int))) rfl (OpQ.y (OpY.pure rfl)) ?_
                  refine Run.q (v := .int .i64 ((((bb : Nat) : Int)) + 1)) rfl (OpQ.y (OpY.add rfl rfl rfl (by omega) (by omega))) ?_
                  refine Run.q (v := .int .i64 ((((bb : Nat) : Int)) + 1)) rfl (OpQ.y (OpY.pure rfl)) ?_
                  refine Run.done ?_
                  refine Run.goal ⟨(by repeat (first | exact Same.refl _ _ | refine Same.put rfl ?_ | refine Same.over rfl rfl ?_)), bb + 1, ?_, ?_, ?_, ?_⟩
                  · show bb + 1 ≤ 10; omega
                  · show 10 - (bb + 1) < 10 - bb; omega
                  · exact ⟨(by show Value.int _ _ = Value.int _ _; congr 1; rw [hnx]; try (push_cast; rfl)), (by first | rfl | (congr 1; omega) | simp), trivial⟩
                  · exact (Some'.weak (.takeEq (by first | rfl | (rw [hnx]; done) | (rw [hnx, hj])) (.nil _)))
          · have p31 := h31; try simp only [bs] at p31
            have hbit : (nx (rkR n r bb).1 i).testBit bb = false := by rw [← bitI_nl]; exact bitI_ne1 p31
            refine Run.skip ?_
            refine Run.blockEnd ?_
            refine Run.region ?_
            refine Run.q (v := .int .i64 (((i : Nat) : Int))) rfl (OpQ.y (OpY.pure rfl)) ?_
            refine Run.q (v := .int .i64 ((((i : Nat) : Int)) + 1)) rfl (OpQ.y (OpY.add rfl rfl rfl (by omega) (by omega))) ?_
            refine Run.q (v := .int .i64 ((((i : Nat) : Int)) + 1)) rfl (OpQ.y (OpY.pure rfl)) ?_
            refine Run.done ?_
            refine Run.goal ⟨(by repeat (first | exact Same.refl _ _ | refine Same.put rfl ?_ | refine Same.over rfl rfl ?_)), i + 1, ?_, ?_, ?_, ?_⟩
            · refine ⟨by omega, by omega, fun k h1 h2 => ?_⟩
              rcases Nat.lt_succ_iff_lt_or_eq.1 h2 with h | h
              · exact hinv.2.2 k h1 h
              · rw [h]; exact hbit
            · omega
            · exact ⟨(by first | rfl | (congr 1; omega) | simp), (by first | rfl | (congr 1; omega) | simp), trivial⟩
            · exact (Some'.weak (.takeEq (by first | rfl | simp) (.nil _)))
        · have p20 := h20; try simp only [bs] at p20
          have hnone : atR bb n (rkR n r bb) = n := scan_none hrk fun k h1 h2 => hinv.2.2 k h1 (by omega)
          have hnx := rkR_miss hnone
          refine Run.exit rfl ?_
          refine Run.seq ?_
          refine Run.seq ?_
          refine Run.region ?_
          refine Run.q (v := .int .i64 (-1)) rfl (OpQ.y (OpY.pure rfl)) ?_
          refine Run.q (v := .bool true) rfl (OpQ.y (OpY.pure rfl)) ?_
          refine Run.done ?_
          refine Run.cond (b := true) rfl (fun _ => ?_) (fun h => nomatch h)
          refine Run.exit rfl ?_
          refine Run.region ?_
          refine Run.q (v := .int .i64 (((bb : Nat) : Int))) rfl (OpQ.y (OpY.pure rfl)) ?_
          refine Run.q (v := .int .i64 ((((bb : Nat) : Int)) + 1)) rfl (OpQ.y (OpY.add rfl rfl rfl (by omega) (by omega))) ?_
          refine Run.q (v := .int .i64 ((((bb : Nat) : Int)) + 1)) rfl (OpQ.y (OpY.pure rfl)) ?_
          refine Run.done ?_
          refine Run.goal ⟨(by repeat (first | exact Same.refl _ _ | refine Same.put rfl ?_ | refine Same.over rfl rfl ?_)), bb + 1, ?_, ?_, ?_, ?_⟩
          · show bb + 1 ≤ 10; omega
          · show 10 - (bb + 1) < 10 - bb; omega
          · exact ⟨(by show Value.int _ _ = Value.int _ _; congr 1; rw [hnx]; try (push_cast; rfl)), (by first | rfl | (congr 1; omega) | simp), trivial⟩
          · exact (Some'.weak (.takeEq (by first | rfl | (rw [hnx]; done) | (rw [hnx, hj])) (.nil _)))
    · have p13 := h13; try simp only [bs] at p13
      have hb10 : bb = 10 := by omega
      refine Run.exit rfl ?_
      refine Run.seq ?_
      refine Run.region ?_
      refine Run.q (v := .int .i64 ((((rkR n r bb).2 : Nat) : Int))) rfl (OpQ.y (OpY.pure rfl)) ?_
      refine Run.q (v := .int .i64 ((((rkR n r bb).2 : Nat) : Int))) rfl (OpQ.y (OpY.pure rfl)) ?_
      refine Run.done ?_
      refine Run.ret ?_
      refine ⟨.int .i64 ((((rkR n r bb).2 : Nat) : Int)), [], Out.one rfl rfl, (Some'.weak (.nil _)), ?_⟩
      show _ = _; rw [hb10]

set_option maxHeartbeats 1000000 in
set_option maxRecDepth 20000 in
theorem l12Valid_spec {va : Value} {n : Nat} {xs : List Int} {w : World} (ha : Sl w va 1 n (ints xs)) : Calls Try.prog 60 #[.agg #[va]] w (Post No w fun v _ => v = .bool (linOk xs n)) := by
  have hxl := ha.len
  rw [Nat.mul_one] at hxl
  have hn := ha.le
  obtain ⟨A, c, rfl, _, _⟩ := ha.form0
  obtain ⟨q, hq⟩ : ∃ q : Nat, q = 2 ^ n := ⟨_, rfl⟩
  refine enter (n := 25) (args := [.agg #[.slice A n c]]) Try.func60 rfl rfl (St.empty _ _) ?_
  refine Run.seq ?_
  refine Run.region ?_
  refine Run.step rfl (OpStep.box (us := [.slice A n c]) rfl fun b1 => ?_)
  refine Run.q (v := .bool false) rfl (OpQ.y (OpY.pure rfl)) ?_
  refine Run.done ?_
  refine Run.seq ?_
  refine Run.region ?_
  refine Run.q (v := .pointer (some ⟨b1, 0, none⟩)) rfl (OpQ.y (OpY.fieldAddr Tfo_28_0 rfl rfl)) ?_
  refine Run.q (v := .slice A n c) rfl (OpQ.y (OpY.load1 Tone_22 rfl (Cells.blk (.head _) ⟨rfl, trivial⟩))) ?_
  refine Run.q (v := .int .i64 (((n : Nat) : Int))) rfl (OpQ.y (OpY.len Tsl_22 rfl)) ?_
  refine Run.q (v := .int .i64 (((n : Nat) : Int))) rfl (OpQ.y (OpY.pure rfl)) ?_
  refine Run.done ?_
  refine Run.seq ?_
  refine Run.region ?_
  refine Run.q (v := .int .i64 (((n : Nat) : Int))) rfl (OpQ.y (OpY.pure rfl)) ?_
  refine Run.q (v := .bool (within (n : Int) 1 5)) rfl (OpQ.call (vs := [.int .i64 (((n : Nat) : Int)), .int .i64 1, .int .i64 5]) (caps := []) Tcall_100 rfl rfl (fun w hs => l1In_spec _ _ _ w)) ?_
  rcases Bool.eq_false_or_eq_true (within (n : Int) 1 5) with h9 | h9
  · refine Run.q (v := .bool true) rfl (OpQ.y (OpY.moveB rfl h9)) ?_
    have p9 := h9; try simp only [bs] at p9
    have hw5 := within_iff.1 p9
    have hp5 := pow5 (n := n) (by omega)
    rw [← hq] at hp5
    refine Run.q (v := .pointer (some ⟨b1, 0, none⟩)) rfl (OpQ.y (OpY.fieldAddr Tfo_28_0 rfl rfl)) ?_
    refine Run.q (v := .slice A n c) rfl (OpQ.y (OpY.load1 Tone_22 rfl (Cells.blk (.head _) ⟨rfl, trivial⟩))) ?_
    refine Run.q (v := .int .i64 (((n : Nat) : Int))) rfl (OpQ.y (OpY.pure rfl)) ?_
    refine Run.q (v := .int .u64 (((n : Nat) : Int))) rfl (OpQ.y (OpY.convIntEq Tsome_3 Tint_96 rfl (by rw [IntKind.wrap_u64]; omega))) ?_
    refine Run.q (v := .int .i64 (((q : Nat) : Int))) rfl (OpQ.y (OpY.shlOne rfl rfl rfl (by omega) hq)) ?_
    refine Run.q (v := .int .i64 ((((q : Nat) : Int)) - 1)) rfl (OpQ.y (OpY.sub rfl rfl rfl (by omega) (by omega))) ?_
    refine Run.q (v := .bool (!anyI (fun i => !within (ix xs i) 0 (((q : Nat) : Int) - 1)) n)) rfl (OpQ.call (vs := [.slice A n c, .int .i64 0, .int .i64 ((((q : Nat) : Int)) - 1)]) (caps := []) Tcall_101 rfl rfl (fun w hs => l1All_spec (hs.sl ha))) ?_
    refine Run.q (v := .bool (!anyI (fun i => !within (ix xs i) 0 (((q : Nat) : Int) - 1)) n)) rfl (OpQ.y (OpY.pure rfl)) ?_
    rcases Bool.eq_false_or_eq_true (!anyI (fun i => !within (ix xs i) 0 (((q : Nat) : Int) - 1)) n) with h18 | h18
    · refine Run.q (v := .bool true) rfl (OpQ.y (OpY.moveB rfl h18)) ?_
      have p18 := h18; try simp only [bs] at p18
      have hin := rows_in hxl (by rw [← hq]; simpa using p18)
      have hnl : (nats xs).length = n := by simp [nats, hxl]
      have h10 : ∀ x ∈ nats xs, x < 2 ^ 10 := fun x hx => Nat.lt_of_lt_of_le (hin.2 x hx) (Nat.pow_le_pow_right (by omega) (by omega))
      have hsame := rank_same hnl (by omega) hin.2
      refine Run.q (v := .pointer (some ⟨b1, 0, none⟩)) rfl (OpQ.y (OpY.fieldAddr Tfo_28_0 rfl rfl)) ?_
      refine Run.q (v := .slice A n c) rfl (OpQ.y (OpY.load1 Tone_22 rfl (Cells.blk (.head _) ⟨rfl, trivial⟩))) ?_
      refine Run.q (v := .int .i64 ((((rkR n (nats xs) 10).2 : Nat) : Int))) rfl (OpQ.call (vs := [.slice A n c]) (caps := []) Tcall_102 rfl rfl (fun w hs => (by have h := l12Rank_spec (r := nats xs) (va := .slice A n c) hnl (by omega) h10 (by rw [hin.1]; exact hs.sl ha); exact h))) ?_
      refine Run.q (v := .int .i64 (((n : Nat) : Int))) rfl (OpQ.y (OpY.pure rfl)) ?_
      refine Run.q (v := .bool (((((rkR n (nats xs) 10).2 : Nat) : Int)) == (((n : Nat) : Int)))) rfl (OpQ.y (OpY.pure rfl)) ?_
      refine Run.q (v := .bool (((((rkR n (nats xs) 10).2 : Nat) : Int)) == (((n : Nat) : Int)))) rfl (OpQ.y (OpY.pure rfl)) ?_
      refine Run.q (v := .bool (((((rkR n (nats xs) 10).2 : Nat) : Int)) == (((n : Nat) : Int)))) rfl (OpQ.y (OpY.pure rfl)) ?_
      refine Run.done ?_
      refine Run.ret ?_
      refine ⟨.bool (((((rkR n (nats xs) 10).2 : Nat) : Int)) == (((n : Nat) : Int))), [], Out.one rfl rfl, (Some'.weak (.nil _)), ?_⟩
      show _ = _; rw [linOk, ← hq]; simp_all; try (rw [Bool.eq_iff_iff]; simp; try (rw [← hsame]; omega))
    · refine Run.q (v := .bool false) rfl (OpQ.y (OpY.moveB rfl h18)) ?_
      have p18 := h18; try simp only [bs] at p18
      refine Run.pass rfl ?_
      refine Run.pass rfl ?_
      refine Run.pass rfl ?_
      refine Run.pass rfl ?_
      refine Run.pass rfl ?_
      refine Run.q (v := .bool false) rfl (OpQ.y (OpY.pure rfl)) ?_
      refine Run.q (v := .bool false) rfl (OpQ.y (OpY.pure rfl)) ?_
      refine Run.done ?_
      refine Run.ret ?_
      refine ⟨.bool false, [], Out.one rfl rfl, (Some'.weak (.nil _)), ?_⟩
      show _ = _; rw [linOk, ← hq]; simp_all; try (rw [Bool.eq_iff_iff]; simp; try (rw [← hsame]; omega))
  · refine Run.q (v := .bool false) rfl (OpQ.y (OpY.moveB rfl h9)) ?_
    have p9 := h9; try simp only [bs] at p9
    refine Run.pass rfl ?_
    refine Run.pass rfl ?_
    refine Run.pass rfl ?_
    refine Run.pass rfl ?_
    refine Run.pass rfl ?_
    refine Run.pass rfl ?_
    refine Run.pass rfl ?_
    refine Run.q (v := .bool false) rfl (OpQ.y (OpY.pure rfl)) ?_
    refine Run.q (v := .bool false) rfl (OpQ.y (OpY.pure rfl)) ?_
    refine Run.pass rfl ?_
    refine Run.pass rfl ?_
    refine Run.pass rfl ?_
    refine Run.pass rfl ?_
    refine Run.pass rfl ?_
    refine Run.q (v := .bool false) rfl (OpQ.y (OpY.pure rfl)) ?_
    refine Run.q (v := .bool false) rfl (OpQ.y (OpY.pure rfl)) ?_
    refine Run.done ?_
    refine Run.ret ?_
    refine ⟨.bool false, [], Out.one rfl rfl, (Some'.weak (.nil _)), ?_⟩
    show _ = _; rw [linOk, ← hq]; simp_all; try (rw [Bool.eq_iff_iff]; simp; try (rw [← hsame]; omega))

set_option maxHeartbeats 1000000 in
set_option maxRecDepth 20000 in
theorem l12Small_spec {va : Value} {n : Nat} {xs : List Int} {w : World} (ha : Sl w va 1 n (ints xs)) : Calls Try.prog 46 #[.agg #[va]] w (Post No w fun v _ => v = .bool (decide (n ≤ 4) && linOk xs n)) := by
  obtain ⟨A, c, rfl, _, _⟩ := ha.form0
  refine enter (n := 11) (args := [.agg #[.slice A n c]]) Try.func46 rfl rfl (St.empty _ _) ?_
  refine Run.seq ?_
  refine Run.region ?_
  refine Run.step rfl (OpStep.box (us := [.slice A n c]) rfl fun b1 => ?_)
  refine Run.q (v := .bool false) rfl (OpQ.y (OpY.pure rfl)) ?_
  refine Run.done ?_
  refine Run.seq ?_
  refine Run.region ?_
  refine Run.q (v := .pointer (some ⟨b1, 0, none⟩)) rfl (OpQ.y (OpY.fieldAddr Tfo_28_0 rfl rfl)) ?_
  refine Run.q (v := .slice A n c) rfl (OpQ.y (OpY.load1 Tone_22 rfl (Cells.blk (.head _) ⟨rfl, trivial⟩))) ?_
  refine Run.q (v := .int .i64 (((n : Nat) : Int))) rfl (OpQ.y (OpY.len Tsl_22 rfl)) ?_
  refine Run.q (v := .bool (decide ((((n : Nat) : Int)) ≤ 4))) rfl (OpQ.y (OpY.pure rfl)) ?_
  rcases Bool.eq_false_or_eq_true (decide ((((n : Nat) : Int)) ≤ 4)) with h7 | h7
  · refine Run.q (v := .bool true) rfl (OpQ.y (OpY.moveB rfl h7)) ?_
    have p7 := h7; try simp only [bs] at p7
    refine Run.q (v := .agg #[.slice A n c]) rfl (OpQ.y (OpY.loadN (cs := [.slice A n c]) Tagg_28 rfl (Cells.blk (.head _) ⟨rfl, trivial⟩))) ?_
    refine Run.q (v := .bool (linOk xs n)) rfl (OpQ.call (vs := [.agg #[.slice A n c]]) (caps := []) Tcall_60 rfl rfl (fun w hs => l12Valid_spec (hs.sl ha))) ?_
    refine Run.q (v := .bool (linOk xs n)) rfl (OpQ.y (OpY.pure rfl)) ?_
    refine Run.q (v := .bool (linOk xs n)) rfl (OpQ.y (OpY.pure rfl)) ?_
    refine Run.done ?_
    refine Run.ret ?_
    refine ⟨.bool (linOk xs n), [], Out.one rfl rfl, (Some'.weak (.nil _)), ?_⟩
    show _ = _; first | (simp_all; done) | (simp_all; omega)
  · refine Run.q (v := .bool false) rfl (OpQ.y (OpY.moveB rfl h7)) ?_
    have p7 := h7; try simp only [bs] at p7
    refine Run.pass rfl ?_
    refine Run.pass rfl ?_
    refine Run.q (v := .bool false) rfl (OpQ.y (OpY.pure rfl)) ?_
    refine Run.q (v := .bool false) rfl (OpQ.y (OpY.pure rfl)) ?_
    refine Run.done ?_
    refine Run.ret ?_
    refine ⟨.bool false, [], Out.one rfl rfl, (Some'.weak (.nil _)), ?_⟩
    show _ = _; first | (simp_all; done) | (simp_all; omega)

end Go.Proofs.Yteehfidjofcfmaa
