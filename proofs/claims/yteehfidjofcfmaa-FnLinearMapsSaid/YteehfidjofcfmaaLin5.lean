/- Walks: controlled NOTs, additions, codes. -/
import Derived.Test.YteehfidjofcfmaaLin4
import Derived.Test.YteehfidjofcfmaaProg
set_option linter.unusedSimpArgs false
set_option linter.unusedVariables false
namespace Go.Proofs.Yteehfidjofcfmaa
open Go Go.RowKit
namespace Lin5T
theorem Tagg_28 : aggOf Try.prog 28 = some 1 := by kernel_rfl
theorem Tcall_125 : callable Try.prog 125 = true := by kernel_rfl
theorem Tcall_92 : callable Try.prog 92 = true := by kernel_rfl
theorem Tfo_28_0 : fieldOff Try.prog 28 0 = some 0 := by kernel_rfl
theorem Tone_22 : oneOf Try.prog 22 = true := by kernel_rfl
theorem Tone_3 : oneOf Try.prog 3 = true := by kernel_rfl
theorem Tsize_28 : (Try.prog.info? 28).map (·.size) = some 1 := by kernel_rfl
theorem Tsize_3 : (Try.prog.info? 3).map (·.size) = some 1 := by kernel_rfl
theorem Tsl_22 : sliceOf Try.prog 22 = some (3, 1, 8, [.int .i64 0]) := by kernel_rfl
theorem Tsl_36 : sliceOf Try.prog 36 = some (71, 3, 24, [.int .i64 0, .int .i64 0, .int .i64 0]) := by kernel_rfl
theorem Tzero_28 : zeroOf Try.prog 28 = some [.slice none 0 0] := by kernel_rfl
end Lin5T
open Lin5T

/-- The controlled NOTs with the control a and a target below b. -/
def cnRow (a : Nat) : Nat → List (Nat × Nat)
  | 0 => []
  | b + 1 => cnRow a b ++ (if a ≠ b then [(a, b)] else [])
def cnP (n : Nat) : Nat → List (Nat × Nat)
  | 0 => []
  | a + 1 => cnP n a ++ cnRow a n
theorem cnRow_le (a : Nat) : ∀ b, (cnRow a b).length ≤ b
  | 0 => Nat.le_refl _
  | b + 1 => by
    have := cnRow_le a b
    simp only [cnRow, List.length_append]
    split <;> simp <;> omega
theorem cnP_le (n : Nat) : ∀ a, (cnP n a).length ≤ a * n
  | 0 => by simp [cnP]
  | a + 1 => by
    have h1 := cnP_le n a
    have h2 := cnRow_le a n
    simp only [cnP, List.length_append]
    rw [Nat.add_mul]; omega
/-- The code of the first k rows. -/
def cdN (l : List Nat) : Nat → Nat
  | 0 => 0
  | k + 1 => cdN l k * 16 ||| nx l k
theorem cdN_lt {l : List Nat} (h : ∀ i, nx l i < 16) : ∀ k, cdN l k < 16 ^ k
  | 0 => by simp [cdN]
  | k + 1 => by
    have ih := cdN_lt h k
    have e : (16 : Nat) ^ (k + 1) = 2 ^ (4 * (k + 1)) := by rw [show (16 : Nat) = 2 ^ 4 from rfl, ← Nat.pow_mul]
    rw [e, cdN]
    refine Nat.or_lt_two_pow ?_ ?_
    · rw [← e, Nat.pow_succ]; omega
    · exact Nat.lt_of_lt_of_le (h k) (by rw [show (16 : Nat) = 2 ^ 4 from rfl]; exact Nat.pow_le_pow_right (by omega) (by omega))
theorem findI_ltn {p : Nat → Bool} : ∀ {n : Nat}, 0 ≤ findI p n → findI p n < n
  | 0, h => by simp [findI] at h
  | n + 1, h => by
    rw [findI] at h ⊢
    split at h
    · rename_i ha
      rw [if_pos ha]
      have := findI_ltn h; omega
    · rename_i ha
      rw [if_neg ha]
      split
      · omega
      · omega
/-- A mask that appears is noted. -/
def apx (f : Nat) (ms : List Int) (x : Int) : Nat := if 0 ≤ findI (fun i => decide (ix ms i = x)) ms.length then f ||| 2 ^ (findI (fun i => decide (ix ms i = x)) ms.length).toNat else f

set_option maxHeartbeats 1000000 in
set_option maxRecDepth 20000 in
theorem controlledNots_spec {n : Nat} (hn : n ≤ 5) (w : World) : Calls Try.prog 95 #[.int .i64 (n : Int)] w (Post No w fun v H => H = [.own v 71 3 (cnP n n).length (ints (flCX (cnP n n)))]) := by
  refine enter (n := 27) (args := [.int .i64 (((n : Nat) : Int))]) Try.func95 rfl rfl (St.empty _ _) ?_
  refine Run.seq ?_
  refine Run.region ?_
  refine Run.q (v := .slice none 0 0) rfl (OpQ.y (OpY.pure rfl)) ?_
  refine Run.done ?_
  refine Run.seq ?_
  refine Run.region ?_
  refine Run.step rfl (OpStep.buildSlice (us := []) Tsl_36 (by decide) (by decide) rfl rfl fun b1 => ?_)
  refine Run.q (v := .slice (some ⟨b1, 0, none⟩) 0 0) rfl (OpQ.y (OpY.pure rfl)) ?_
  refine Run.done ?_
  refine Run.seq ?_
  refine Run.seq ?_
  refine Run.region ?_
  refine Run.q (v := .int .i64 (((n : Nat) : Int))) rfl (OpQ.y (OpY.pure rfl)) ?_
  refine Run.q (v := .int .i64 0) rfl (OpQ.y (OpY.pure rfl)) ?_
  refine Run.done ?_
  refine Run.block ?_
  refine Run.loop (ι := Nat × Value) [3, 4, 5, 8, 9, 10, 11, 12, 13, 14, 15, 16, 17, 18, 19, 20, 21, 22, 23, 24, 25] (fun ⟨a, v⟩ => [(3, v), (8, .int .i64 (((a : Nat) : Int)))]) (fun ⟨a, v⟩ => [.own v 71 3 ((cnP n a).length) (ints (flCX (cnP n a)))]) (fun ⟨a, v⟩ => a ≤ n) (fun ⟨a, v⟩ => n - a) (0, .slice (some ⟨b1, 0, none⟩) 0 0) ?_ ?_ ?_ ?_
  · exact Nat.zero_le _
  · exact ⟨rfl, rfl, trivial⟩
  · exact (Some'.weak (.takeEq (by first | rfl | (rw [hbn]; rfl) | simp [cnP, flCX, ints]) (.nil _)))
  · rintro ⟨a, v⟩ fr hinv
    show Run _ _ (over _ _ [(3, v), (8, .int .i64 (((a : Nat) : Int)))] fr) [.own v 71 3 ((cnP n a).length) (ints (flCX (cnP n a)))]
    try dsimp only at hinv
    refine Run.seq ?_
    refine Run.region ?_
    refine Run.q (v := .bool (decide ((((a : Nat) : Int)) < (((n : Nat) : Int))))) rfl (OpQ.y (OpY.pure rfl)) ?_
    refine Run.done ?_
    refine Run.seq ?_
    refine Run.cond (b := decide ((((a : Nat) : Int)) < (((n : Nat) : Int)))) rfl (fun h9 => ?_) (fun h9 => ?_)
    · have p9 := h9; try simp only [bs] at p9
      have hlta : a < n := by omega
      have hle := cnP_le n a
      have hm : a * n ≤ 25 := Nat.le_trans (Nat.mul_le_mul (show a ≤ 5 by omega) hn) (by omega)
      refine Run.skip ?_
      refine Run.seq ?_
      refine Run.block ?_
      refine Run.seq ?_
      refine Run.region ?_
      refine Run.q (v := .int .i64 (((a : Nat) : Int))) rfl (OpQ.y (OpY.pure rfl)) ?_
      refine Run.q (v := .int .i64 (((a : Nat) : Int))) rfl (OpQ.y (OpY.pure rfl)) ?_
      refine Run.done ?_
      refine Run.seq ?_
      refine Run.region ?_
      refine Run.q (v := .int .i64 (((n : Nat) : Int))) rfl (OpQ.y (OpY.pure rfl)) ?_
      refine Run.q (v := .int .i64 0) rfl (OpQ.y (OpY.pure rfl)) ?_
      refine Run.done ?_
      refine Run.block ?_
      refine Run.loop (ι := Nat × Value) [3, 5, 12, 13, 14, 15, 16, 17, 18, 19, 20, 21, 22, 23, 24] (fun ⟨b, v2⟩ => [(3, v2), (12, .int .i64 (((b : Nat) : Int)))]) (fun ⟨b, v2⟩ => [.own v2 71 3 ((cnP n a ++ cnRow a b).length) (ints (flCX (cnP n a ++ cnRow a b)))]) (fun ⟨b, v2⟩ => b ≤ n) (fun ⟨b, v2⟩ => n - b) (0, v) ?_ ?_ ?_ ?_
      · exact Nat.zero_le _
      · exact ⟨rfl, rfl, trivial⟩
      · exact (Some'.weak (.takeEq (by first | rfl | (rw [hX]) | (rw [hX]; done) | simp [cnRow]) (.nil _)))
      · rintro ⟨b, v2⟩ fr hinv
        show Run _ _ (over _ _ [(3, v2), (12, .int .i64 (((b : Nat) : Int)))] fr) [.own v2 71 3 ((cnP n a ++ cnRow a b).length) (ints (flCX (cnP n a ++ cnRow a b)))]
        try dsimp only at hinv
        refine Run.seq ?_
        refine Run.region ?_
        refine Run.q (v := .bool (decide ((((b : Nat) : Int)) < (((n : Nat) : Int))))) rfl (OpQ.y (OpY.pure rfl)) ?_
        refine Run.done ?_
        refine Run.seq ?_
        refine Run.cond (b := decide ((((b : Nat) : Int)) < (((n : Nat) : Int)))) rfl (fun h13 => ?_) (fun h13 => ?_)
        · have p13 := h13; try simp only [bs] at p13
          have hltb : b < n := by omega
          have hlb := cnRow_le a b
          have hll : (cnP n a ++ cnRow a b).length ≤ 30 := by rw [List.length_append]; omega
          refine Run.skip ?_
          refine Run.seq ?_
          refine Run.block ?_
          refine Run.seq ?_
          refine Run.region ?_
          refine Run.q (v := .int .i64 (((b : Nat) : Int))) rfl (OpQ.y (OpY.pure rfl)) ?_
          refine Run.q (v := .int .i64 (((b : Nat) : Int))) rfl (OpQ.y (OpY.pure rfl)) ?_
          refine Run.done ?_
          refine Run.seq ?_
          refine Run.region ?_
          refine Run.q (v := .int .i64 (((a : Nat) : Int))) rfl (OpQ.y (OpY.pure rfl)) ?_
          refine Run.q (v := .int .i64 (((b : Nat) : Int))) rfl (OpQ.y (OpY.pure rfl)) ?_
          refine Run.q (v := .bool ((((a : Nat) : Int)) != (((b : Nat) : Int)))) rfl (OpQ.y (OpY.pure rfl)) ?_
          refine Run.done ?_
          refine Run.cond (b := (((a : Nat) : Int)) != (((b : Nat) : Int))) rfl (fun h17 => ?_) (fun h17 => ?_)
          · have p17 := h17; try simp only [bs] at p17
            have hX : cnP n a ++ cnRow a (b + 1) = cnP n a ++ cnRow a b ++ [(a, b)] := by rw [cnRow, if_pos (by omega), List.append_assoc]
            refine Run.region ?_
            refine Run.q (v := v2) rfl (OpQ.y (OpY.pure rfl)) ?_
            refine Run.q (v := .int .i64 (((a : Nat) : Int))) rfl (OpQ.y (OpY.pure rfl)) ?_
            refine Run.q (v := .int .i64 (((b : Nat) : Int))) rfl (OpQ.y (OpY.pure rfl)) ?_
            refine Run.q (v := .agg #[.int .i64 9, .int .i64 (((a : Nat) : Int)), .int .i64 (((b : Nat) : Int))]) rfl (OpQ.y (OpY.build (cs := [.int .i64 9, .int .i64 (((a : Nat) : Int)), .int .i64 (((b : Nat) : Int))]) (by kernel_rfl))) ?_
            refine Run.step rfl (OpStep.buildSlice (us := [.int .i64 9, .int .i64 (((a : Nat) : Int)), .int .i64 (((b : Nat) : Int))]) Tsl_36 (by decide) (by decide) ⟨rfl, [.int .i64 9, .int .i64 (((a : Nat) : Int)), .int .i64 (((b : Nat) : Int))], _, rfl, rfl, rfl, rfl⟩ rfl fun b2 => ?_)
            refine Run.step rfl (OpStep.append (H1 := [.own (.slice (some ⟨b2, 0, none⟩) 1 1) 71 3 1 ([.int .i64 9, .int .i64 (((a : Nat) : Int)), .int .i64 (((b : Nat) : Int))])]) (H2 := []) (v := v2) (u := .slice (some ⟨b2, 0, none⟩) 1 1) (n := (cnP n a ++ cnRow a b).length) (m := 1) (xs := ints (flCX (cnP n a ++ cnRow a b))) (ys := [.int .i64 9, .int .i64 (((a : Nat) : Int)), .int .i64 (((b : Nat) : Int))]) Tsl_36 (by decide) rfl rfl rfl rfl (fun w hs => hs.slOwn (.head _)) (by simp [Value.oneCell']) (by omega) (by simp only [maxLen]; omega) fun av1 hnav1 => ?_)
            refine Run.weak (H' := [.own (.slice (some ⟨b2, 0, none⟩) 1 1) 71 3 1 ([.int .i64 9, .int .i64 (((a : Nat) : Int)), .int .i64 (((b : Nat) : Int))]), .own av1 71 3 ((cnP n a ++ cnRow a b ++ [(a, b)]).length) (ints (flCX (cnP n a ++ cnRow a b ++ [(a, b)])))]) (Some'.weak (.take (.takeEq (by rw [← ints_flCX]; simp <;> omega) (.nil _)))) ?_ ⟨_, _, rfl, fun _ => nofun, fun _ => nofun⟩
            refine Run.q (v := av1) rfl (OpQ.y (OpY.pure rfl)) ?_
            refine Run.done ?_
            refine Run.blockEnd ?_
            refine Run.region ?_
            refine Run.q (v := .int .i64 ((((b : Nat) : Int)) + 1)) rfl (OpQ.y (OpY.add rfl rfl rfl (by omega) (by omega))) ?_
            refine Run.q (v := .int .i64 ((((b : Nat) : Int)) + 1)) rfl (OpQ.y (OpY.pure rfl)) ?_
            refine Run.done ?_
            refine Run.goal ⟨(by repeat (first | exact Same.refl _ _ | refine Same.put rfl ?_ | refine Same.over rfl rfl ?_)), (b + 1, av1), ?_, ?_, ?_, ?_⟩
            · exact hltb
            · show n - (b + 1) < n - b; omega
            · exact ⟨(by first | rfl | (congr 1; omega) | simp), (by first | rfl | (congr 1; omega) | simp), trivial⟩
            · exact (Some'.weak (.skip (.takeEq (by first | rfl | (rw [hX]) | (rw [hX]; done) | simp [cnRow]) (.nil _))))
          · have p17 := h17; try simp only [bs] at p17
            have hX : cnP n a ++ cnRow a (b + 1) = cnP n a ++ cnRow a b := by rw [cnRow, if_neg (by omega), List.append_nil]
            refine Run.skip ?_
            refine Run.blockEnd ?_
            refine Run.region ?_
            refine Run.q (v := .int .i64 ((((b : Nat) : Int)) + 1)) rfl (OpQ.y (OpY.add rfl rfl rfl (by omega) (by omega))) ?_
            refine Run.q (v := .int .i64 ((((b : Nat) : Int)) + 1)) rfl (OpQ.y (OpY.pure rfl)) ?_
            refine Run.done ?_
            refine Run.goal ⟨(by repeat (first | exact Same.refl _ _ | refine Same.put rfl ?_ | refine Same.over rfl rfl ?_)), (b + 1, v2), ?_, ?_, ?_, ?_⟩
            · exact hltb
            · show n - (b + 1) < n - b; omega
            · exact ⟨(by first | rfl | (congr 1; omega) | simp), (by first | rfl | (congr 1; omega) | simp), trivial⟩
            · exact (Some'.weak (.takeEq (by first | rfl | (rw [hX]) | (rw [hX]; done) | simp [cnRow]) (.nil _)))
        · have p13 := h13; try simp only [bs] at p13
          have hbn : b = n := by omega
          refine Run.exit rfl ?_
          refine Run.blockEnd ?_
          refine Run.region ?_
          refine Run.q (v := .int .i64 ((((a : Nat) : Int)) + 1)) rfl (OpQ.y (OpY.add rfl rfl rfl (by omega) (by omega))) ?_
          refine Run.q (v := .int .i64 ((((a : Nat) : Int)) + 1)) rfl (OpQ.y (OpY.pure rfl)) ?_
          refine Run.done ?_
          refine Run.goal ⟨(by repeat (first | exact Same.refl _ _ | refine Same.put rfl ?_ | refine Same.over rfl rfl ?_)), (a + 1, v2), ?_, ?_, ?_, ?_⟩
          · exact hlta
          · show n - (a + 1) < n - a; omega
          · exact ⟨(by first | rfl | (congr 1; omega) | simp), (by first | rfl | (congr 1; omega) | simp), trivial⟩
          · exact (Some'.weak (.takeEq (by first | rfl | (rw [hbn]; rfl) | simp [cnP, flCX, ints]) (.nil _)))
    · have p9 := h9; try simp only [bs] at p9
      have han : a = n := by omega
      refine Run.exit rfl ?_
      refine Run.seq ?_
      refine Run.region ?_
      refine Run.q (v := v) rfl (OpQ.y (OpY.pure rfl)) ?_
      refine Run.q (v := v) rfl (OpQ.y (OpY.pure rfl)) ?_
      refine Run.done ?_
      refine Run.ret ?_
      refine ⟨v, [.own v 71 3 ((cnP n n).length) (ints (flCX (cnP n n)))], Out.one rfl rfl, (Some'.weak (.takeEq (by first | rfl | (rw [han])) (.nil _))), ?_⟩
      rfl

set_option maxHeartbeats 1000000 in
set_option maxRecDepth 20000 in
theorem l12CX_spec {va : Value} {l : List Nat} {a b : Nat} {w : World} (h5 : l.length ≤ 5) (ha5 : a < l.length) (hb5 : b < l.length) (hb : ∀ i, nx l i < 32) (ha : Sl w va 1 l.length (ints (nl l))) : Calls Try.prog 71 #[.agg #[va], .int .i64 (a : Int), .int .i64 (b : Int)] w (Post No w fun v H => ∃ u, v = .agg #[u] ∧ H = [.own u 3 1 l.length (ints (nl (cx l (a, b))))]) := by
  refine enter (n := 25) (args := [.agg #[va], .int .i64 (((a : Nat) : Int)), .int .i64 (((b : Nat) : Int))]) Try.func71 rfl rfl (St.empty _ _) ?_
  refine Run.seq ?_
  refine Run.region ?_
  refine Run.step rfl (OpStep.box (us := [va]) rfl fun b1 => ?_)
  refine Run.step rfl (OpStep.alloc (zs := [.slice none 0 0]) Tzero_28 fun b2 => ?_)
  refine Run.done ?_
  refine Run.seq ?_
  refine Run.region ?_
  refine Run.q (v := .pointer (some ⟨b1, 0, none⟩)) rfl (OpQ.y (OpY.fieldAddr Tfo_28_0 rfl rfl)) ?_
  refine Run.q (v := va) rfl (OpQ.y (OpY.load1 Tone_22 rfl (Cells.blk (.tail _ (List.Mem.head _)) ⟨rfl, trivial⟩))) ?_
  refine Run.step rfl (OpStep.call (vs := [va]) (caps := []) Tcall_92 rfl rfl (fun w hs => l1Own_spec (by omega) (hs.sl ha)) ?_)
  rintro uo _ rfl
  show Run _ _ (putF _ _ _ uo) [.own uo 3 1 (l.length) (ints (nl l)), .blk b2 28 [.slice none 0 0], .blk b1 28 [va]]
  have hll := nl_length l
  have hxa := hb a
  have hxb := hb b
  refine Run.formOwn (.head _) (fun A_uo1 c_uo1 hv hcapc_uo1 hmaxc_uo1 => ?_) (fun _ _ _ => ⟨nofun, nofun, nofun⟩)
  subst hv
  refine Run.q (v := .agg #[.slice A_uo1 (l.length) c_uo1]) rfl (OpQ.y (OpY.build (cs := [.slice A_uo1 (l.length) c_uo1]) (by kernel_rfl))) ?_
  refine Run.step rfl (OpStep.alloc (zs := [.slice none 0 0]) Tzero_28 fun b3 => ?_)
  refine Run.step rfl (OpStep.storeAll (us := [.slice A_uo1 (l.length) c_uo1]) Tsize_28 rfl rfl rfl (.here _) rfl ?_)
  refine Run.done ?_
  refine Run.seq ?_
  refine Run.openOwn (.tail _ (List.Mem.head _)) (by omega) (fun g cg hvg hcapg _ => ?_) (fun _ _ _ => ⟨nofun, nofun, nofun⟩)
  injection hvg with hAg _ hcg; subst hAg; subst hcg
  refine Run.lastly [12] (by kernel_rfl) ?_
  refine DL.takeP (i := 0) (v := .pointer (some ⟨b3, 0, none⟩)) rfl (by kernel_rfl) (by kernel_rfl) (by kernel_rfl) (fun _ _ _ h => h) rfl (fun _ => OpY.fieldAddr Tfo_28_0 rfl rfl) ?_
  refine DL.take (i := 1) (v := .slice (some ⟨g, 0, none⟩) (l.length) c_uo1) rfl (by kernel_rfl) (by kernel_rfl) (by kernel_rfl) (by kernel_rfl) (fun _ _ _ h => h) (Some'.weak (.take (.take (.take (.take (.nil _)))))) rfl (OpY.load1 Tone_22 rfl (Cells.blk (.head _) ⟨rfl, trivial⟩)) ?_
  refine DL.takeP (i := 2) (v := .int .i64 (((b : Nat) : Int))) rfl (by kernel_rfl) (by kernel_rfl) (by kernel_rfl) (fun _ _ _ h => h) rfl (fun _ => OpY.pure rfl) ?_
  refine DL.takeP (i := 3) (v := .pointer (some ⟨g, b, none⟩)) rfl (by kernel_rfl) (by kernel_rfl) (by kernel_rfl) (fun _ _ _ h => h) rfl (fun _ => OpY.index (kk := b) Tsl_22 rfl rfl (by omega) (by omega) (by first | rfl | omega)) ?_
  refine DL.take (i := 4) (v := .int .i64 (ix (nl l) (b))) rfl (by kernel_rfl) (by kernel_rfl) (by kernel_rfl) (by kernel_rfl) (fun _ _ _ h => h) (Some'.weak (.take (.take (.take (.take (.nil _)))))) rfl (OpY.load1 Tone_3 rfl (Cells.own0 (.tail _ (List.Mem.head _)) (pre1 (by omega)))) ?_
  refine DL.takeP (i := 5) (v := .pointer (some ⟨b3, 0, none⟩)) rfl (by kernel_rfl) (by kernel_rfl) (by kernel_rfl) (fun _ _ _ h => h) rfl (fun _ => OpY.fieldAddr Tfo_28_0 rfl rfl) ?_
  refine DL.take (i := 6) (v := .slice (some ⟨g, 0, none⟩) (l.length) c_uo1) rfl (by kernel_rfl) (by kernel_rfl) (by kernel_rfl) (by kernel_rfl) (fun _ _ _ h => h) (Some'.weak (.take (.take (.take (.take (.nil _)))))) rfl (OpY.load1 Tone_22 rfl (Cells.blk (.head _) ⟨rfl, trivial⟩)) ?_
  refine DL.takeP (i := 7) (v := .int .i64 (((a : Nat) : Int))) rfl (by kernel_rfl) (by kernel_rfl) (by kernel_rfl) (fun _ _ _ h => h) rfl (fun _ => OpY.pure rfl) ?_
  refine DL.takeP (i := 8) (v := .pointer (some ⟨g, a, none⟩)) rfl (by kernel_rfl) (by kernel_rfl) (by kernel_rfl) (fun _ _ _ h => h) rfl (fun _ => OpY.index (kk := a) Tsl_22 rfl rfl (by omega) (by omega) (by first | rfl | omega)) ?_
  refine DL.take (i := 9) (v := .int .i64 (ix (nl l) (a))) rfl (by kernel_rfl) (by kernel_rfl) (by kernel_rfl) (by kernel_rfl) (fun _ _ _ h => h) (Some'.weak (.take (.take (.take (.take (.nil _)))))) rfl (OpY.load1 Tone_3 rfl (Cells.own0 (.tail _ (List.Mem.head _)) (pre1 (by omega)))) ?_
  refine DL.takeP (i := 10) (v := .int .i64 (((nx l b ^^^ nx l a : Nat) : Int))) rfl (by kernel_rfl) (by kernel_rfl) (by kernel_rfl) (fun _ _ _ h => h) rfl (fun _ => OpY.xorNat rfl rfl (ix_nl _ _) (ix_nl _ _) (by omega) (by omega)) ?_
  refine DL.takeP (i := 11) (v := .pointer (some ⟨g, b, none⟩)) rfl (by kernel_rfl) (by kernel_rfl) (by kernel_rfl) (fun _ _ _ h => h) rfl (fun _ => OpY.index (kk := b) Tsl_22 rfl rfl (by omega) (by omega) (by first | rfl | omega)) ?_
  refine DL.step (i := 12) (by kernel_rfl) (by kernel_rfl) rfl rfl (OpStep.storeOwnInt (o := b) (a := ((nx l b ^^^ nx l a : Nat) : Int)) Tsize_3 rfl rfl (.there _ (.here _)) (by omega) ?_)
  refine DL.done (by kernel_rfl) ?_
  refine Run.seq ?_
  refine Run.region ?_
  refine Run.q (v := .agg #[.slice (some ⟨g, 0, none⟩) (l.length) c_uo1]) rfl (OpQ.y (OpY.loadN (cs := [.slice (some ⟨g, 0, none⟩) (l.length) c_uo1]) Tagg_28 rfl (Cells.blk (.head _) ⟨rfl, trivial⟩))) ?_
  refine Run.step rfl (OpStep.storeAll (us := [.slice (some ⟨g, 0, none⟩) (l.length) c_uo1]) Tsize_28 rfl rfl rfl (.there _ (.there _ (.here _))) rfl ?_)
  refine Run.done ?_
  refine Run.ret ?_
  refine ⟨.agg #[.slice (some ⟨g, 0, none⟩) (l.length) c_uo1], [.own (.slice (some ⟨g, 0, none⟩) (l.length) c_uo1) 3 1 (l.length) (ints (nl (cx l (a, b))))], Out.cell1 (cs := [.slice (some ⟨g, 0, none⟩) (l.length) c_uo1]) rfl Tagg_28 rfl (Cells.blk (.tail _ (.tail _ (List.Mem.head _))) ⟨rfl, trivial⟩), (Some'.weak (.skip (.takeEq (by rw [nl_set]; rfl) (.nil _)))), ?_⟩
  exact ⟨_, rfl, rfl⟩

set_option maxHeartbeats 1000000 in
set_option maxRecDepth 20000 in
theorem l12Code_spec {va : Value} {l : List Nat} {w : World} (h4 : l.length ≤ 4) (hb : ∀ i, nx l i < 16) (ha : Sl w va 1 l.length (ints (nl l))) : Calls Try.prog 48 #[.agg #[va]] w (Post No w fun v _ => v = .int .i64 ((cdN l l.length : Nat) : Int)) := by
  have hll := nl_length l
  obtain ⟨A, c, rfl, _, _⟩ := ha.form0
  refine enter (n := 19) (args := [.agg #[.slice A (l.length) c]]) Try.func48 rfl rfl (St.empty _ _) ?_
  refine Run.seq ?_
  refine Run.region ?_
  refine Run.step rfl (OpStep.box (us := [.slice A (l.length) c]) rfl fun b1 => ?_)
  refine Run.q (v := .int .i64 0) rfl (OpQ.y (OpY.pure rfl)) ?_
  refine Run.done ?_
  refine Run.seq ?_
  refine Run.region ?_
  refine Run.q (v := .int .i64 0) rfl (OpQ.y (OpY.pure rfl)) ?_
  refine Run.done ?_
  refine Run.seq ?_
  refine Run.seq ?_
  refine Run.region ?_
  refine Run.q (v := .pointer (some ⟨b1, 0, none⟩)) rfl (OpQ.y (OpY.fieldAddr Tfo_28_0 rfl rfl)) ?_
  refine Run.q (v := .slice A (l.length) c) rfl (OpQ.y (OpY.load1 Tone_22 rfl (Cells.blk (.head _) ⟨rfl, trivial⟩))) ?_
  refine Run.q (v := .int .i64 (((l.length : Nat) : Int))) rfl (OpQ.y (OpY.len Tsl_22 rfl)) ?_
  refine Run.q (v := .int .i64 0) rfl (OpQ.y (OpY.pure rfl)) ?_
  refine Run.done ?_
  refine Run.block ?_
  refine Run.loop (ι := Nat) [3, 5, 9, 10, 11, 12, 13, 14, 15, 16, 17] (fun k => [(3, .int .i64 (((cdN l k : Nat) : Int))), (9, .int .i64 (((k : Nat) : Int)))]) (fun k => [.blk b1 28 [.slice A (l.length) c]]) (fun k => k ≤ l.length ∧ (True)) (fun k => l.length - k) 0 ?_ ?_ ?_ ?_
  · exact ⟨Nat.zero_le _, by first | trivial | (intro i hi; omega)⟩
  · exact ⟨rfl, rfl, trivial⟩
  · exact (Some'.weak (.take (.nil _)))
  · rintro k fr hinv
    show Run _ _ (over _ _ [(3, .int .i64 (((cdN l k : Nat) : Int))), (9, .int .i64 (((k : Nat) : Int)))] fr) [.blk b1 28 [.slice A (l.length) c]]
    try dsimp only at hinv
    refine Run.seq ?_
    refine Run.region ?_
    refine Run.q (v := .bool (decide ((((k : Nat) : Int)) < (((l.length : Nat) : Int))))) rfl (OpQ.y (OpY.pure rfl)) ?_
    refine Run.done ?_
    refine Run.seq ?_
    refine Run.cond (b := decide ((((k : Nat) : Int)) < (((l.length : Nat) : Int)))) rfl (fun h10 => ?_) (fun h10 => ?_)
    · have p10 := h10; try simp only [bs] at p10
      have hltk : k < l.length := by omega
      obtain ⟨b, o, rfl⟩ := ha.opn (by omega)
      have hcd := cdN_lt hb k
      have hk16 : 16 ^ k ≤ 65536 := Nat.le_trans (Nat.pow_le_pow_right (by omega) (show k ≤ 4 by omega)) (by decide)
      have hxk := hb k
      refine Run.skip ?_
      refine Run.seq ?_
      refine Run.block ?_
      refine Run.seq ?_
      refine Run.region ?_
      refine Run.q (v := .pointer (some ⟨b, o + k, none⟩)) rfl (OpQ.y (OpY.index (kk := k) Tsl_22 rfl rfl (by omega) (by omega) (by first | rfl | omega))) ?_
      refine Run.q (v := .int .i64 (ix (nl l) (k))) rfl (OpQ.y (OpY.load1 Tone_3 rfl (Cells.arg (k := k) ha rfl (by omega) (pre1 (by omega))))) ?_
      refine Run.q (v := .int .i64 (ix (nl l) (k))) rfl (OpQ.y (OpY.pure rfl)) ?_
      refine Run.done ?_
      refine Run.region ?_
      refine Run.q (v := .int .i64 (((cdN l k : Nat) : Int))) rfl (OpQ.y (OpY.pure rfl)) ?_
      refine Run.q (v := .int .i64 (((cdN l k * 16 : Nat) : Int))) rfl (OpQ.y (OpY.shl (n := 4) rfl rfl rfl (by decide) (by push_cast; rfl) (by omega) (by omega))) ?_
      refine Run.q (v := .int .i64 (ix (nl l) (k))) rfl (OpQ.y (OpY.pure rfl)) ?_
      refine Run.q (v := .int .i64 (((cdN l k * 16 ||| nx l k : Nat) : Int))) rfl (OpQ.y (OpY.orNat rfl rfl rfl (ix_nl _ _) (by omega) (by omega))) ?_
      refine Run.q (v := .int .i64 (((cdN l k * 16 ||| nx l k : Nat) : Int))) rfl (OpQ.y (OpY.pure rfl)) ?_
      refine Run.done ?_
      refine Run.blockEnd ?_
      refine Run.region ?_
      refine Run.q (v := .int .i64 ((((k : Nat) : Int)) + 1)) rfl (OpQ.y (OpY.add rfl rfl rfl (by omega) (by omega))) ?_
      refine Run.q (v := .int .i64 ((((k : Nat) : Int)) + 1)) rfl (OpQ.y (OpY.pure rfl)) ?_
      refine Run.done ?_
      refine Run.goal ⟨(by repeat (first | exact Same.refl _ _ | refine Same.put rfl ?_ | refine Same.over rfl rfl ?_)), k + 1, ?_, ?_, ?_, ?_⟩
      · refine ⟨by omega, ?_⟩
        trivial
      · omega
      · exact ⟨rfl, (by first | rfl | (congr 1; omega) | simp), trivial⟩
      · exact (Some'.weak (.takeEq (by first | rfl | simp) (.nil _)))
    · have p10 := h10; try simp only [bs] at p10
      have hknk : k = l.length := by omega
      refine Run.exit rfl ?_
      refine Run.seq ?_
      refine Run.region ?_
      refine Run.q (v := .int .i64 (((cdN l k : Nat) : Int))) rfl (OpQ.y (OpY.pure rfl)) ?_
      refine Run.q (v := .int .i64 (((cdN l k : Nat) : Int))) rfl (OpQ.y (OpY.pure rfl)) ?_
      refine Run.done ?_
      refine Run.ret ?_
      refine ⟨.int .i64 (((cdN l k : Nat) : Int)), [], Out.one rfl rfl, (Some'.weak (.nil _)), ?_⟩
      show _ = _; rw [hknk]

set_option maxHeartbeats 1000000 in
set_option maxRecDepth 20000 in
theorem appeared_spec {vm : Value} {f : Nat} {ms : List Int} {x : Int} {w : World} (hf : f < 4294967296) (hm : ms.length ≤ 62) (hms : Sl w vm 1 ms.length (ints ms)) : Calls Try.prog 94 #[.int .i64 (f : Int), vm, .int .i64 x] w (Post No w fun v _ => v = .int .i64 ((apx f ms x : Nat) : Int)) := by
  refine enter (n := 18) (args := [.int .i64 (((f : Nat) : Int)), vm, .int .i64 x]) Try.func94 rfl rfl (St.empty _ _) ?_
  refine Run.seq ?_
  refine Run.region ?_
  refine Run.q (v := .int .i64 0) rfl (OpQ.y (OpY.pure rfl)) ?_
  refine Run.done ?_
  refine Run.seq ?_
  refine Run.seq ?_
  refine Run.region ?_
  refine Run.q (v := vm) rfl (OpQ.y (OpY.pure rfl)) ?_
  refine Run.q (v := .int .i64 x) rfl (OpQ.y (OpY.pure rfl)) ?_
  refine Run.q (v := .int .i64 (findI (fun i => decide (ix ms i = x)) ms.length)) rfl (OpQ.call (vs := [vm, .int .i64 x]) (caps := []) Tcall_125 rfl rfl (fun w hs => IndexInt_spec (hs.sl hms))) ?_
  refine Run.q (v := .int .i64 (findI (fun i => decide (ix ms i = x)) ms.length)) rfl (OpQ.y (OpY.pure rfl)) ?_
  refine Run.done ?_
  refine Run.seq ?_
  refine Run.region ?_
  refine Run.q (v := .int .i64 (findI (fun i => decide (ix ms i = x)) ms.length)) rfl (OpQ.y (OpY.pure rfl)) ?_
  refine Run.q (v := .bool (decide ((findI (fun i => decide (ix ms i = x)) ms.length) ≥ 0))) rfl (OpQ.y (OpY.pure rfl)) ?_
  refine Run.done ?_
  refine Run.cond (b := decide ((findI (fun i => decide (ix ms i = x)) ms.length) ≥ 0)) rfl (fun h12 => ?_) (fun h12 => ?_)
  · have p12 := h12; try simp only [bs] at p12
    have hfl := findI_ltn p12
    have hap : apx f ms x = f ||| 2 ^ (findI (fun i => decide (ix ms i = x)) ms.length).toNat := if_pos p12
    obtain ⟨j, hj⟩ : ∃ j : Nat, findI (fun i => decide (ix ms i = x)) ms.length = j := ⟨(findI (fun i => decide (ix ms i = x)) ms.length).toNat, by omega⟩
    rw [hj, Int.toNat_natCast] at hap
    obtain ⟨q, hq⟩ : ∃ q : Nat, q = 2 ^ j := ⟨_, rfl⟩
    rw [← hq] at hap
    have hq62 : q < 9223372036854775808 := by rw [hq]; exact Nat.lt_of_le_of_lt (Nat.pow_le_pow_right (by omega) (show j ≤ 62 by omega)) (by decide)
    refine Run.region ?_
    refine Run.q (v := .int .i64 (((f : Nat) : Int))) rfl (OpQ.y (OpY.pure rfl)) ?_
    refine Run.q (v := .int .i64 (findI (fun i => decide (ix ms i = x)) ms.length)) rfl (OpQ.y (OpY.pure rfl)) ?_
    refine Run.q (v := .int .i64 (((q : Nat) : Int))) rfl (OpQ.y (OpY.shlOne rfl rfl hj (by omega) hq)) ?_
    refine Run.q (v := .int .i64 (((f ||| q : Nat) : Int))) rfl (OpQ.y (OpY.orNat rfl rfl rfl rfl (by omega) (by omega))) ?_
    refine Run.q (v := .int .i64 (((f ||| q : Nat) : Int))) rfl (OpQ.y (OpY.pure rfl)) ?_
    refine Run.done ?_
    refine Run.seq ?_
    refine Run.region ?_
    refine Run.q (v := .int .i64 (((f ||| q : Nat) : Int))) rfl (OpQ.y (OpY.pure rfl)) ?_
    refine Run.q (v := .int .i64 (((f ||| q : Nat) : Int))) rfl (OpQ.y (OpY.pure rfl)) ?_
    refine Run.done ?_
    refine Run.ret ?_
    refine ⟨.int .i64 (((f ||| q : Nat) : Int)), [], Out.one rfl rfl, (Some'.weak (.nil _)), ?_⟩
    show _ = _; rw [hap]
  · have p12 := h12; try simp only [bs] at p12
    have hap : apx f ms x = f := if_neg (by omega)
    refine Run.skip ?_
    refine Run.seq ?_
    refine Run.region ?_
    refine Run.q (v := .int .i64 (((f : Nat) : Int))) rfl (OpQ.y (OpY.pure rfl)) ?_
    refine Run.q (v := .int .i64 (((f : Nat) : Int))) rfl (OpQ.y (OpY.pure rfl)) ?_
    refine Run.done ?_
    refine Run.ret ?_
    refine ⟨.int .i64 (((f : Nat) : Int)), [], Out.one rfl rfl, (Some'.weak (.nil _)), ?_⟩
    show _ = _; rw [hap]

end Go.Proofs.Yteehfidjofcfmaa
