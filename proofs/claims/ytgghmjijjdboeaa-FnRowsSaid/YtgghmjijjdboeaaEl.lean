/- Walks: the elimination of rows. -/
import Derived.Test.YtgghmjijjdboeaaCg3
import Derived.Test.YtgghmjijjdboeaaInts
import Derived.Test.YtgghmjijjdboeaaProg
set_option linter.unusedSimpArgs false
set_option linter.unusedVariables false
namespace Go.Proofs.Ytgghmjijjdboeaa
open Go Go.RowKit
namespace ElT
theorem Tcall_39 : callable Try.prog 39 = true := by kernel_rfl
theorem Tcall_41 : callable Try.prog 41 = true := by kernel_rfl
theorem Tcall_54 : callable Try.prog 54 = true := by kernel_rfl
theorem Tcall_55 : callable Try.prog 55 = true := by kernel_rfl
theorem Tcall_56 : callable Try.prog 56 = true := by kernel_rfl
theorem Tcall_57 : callable Try.prog 57 = true := by kernel_rfl
theorem Tcall_58 : callable Try.prog 58 = true := by kernel_rfl
theorem Tcall_66 : callable Try.prog 66 = true := by kernel_rfl
theorem Tcall_68 : callable Try.prog 68 = true := by kernel_rfl
theorem Tcall_75 : callable Try.prog 75 = true := by kernel_rfl
theorem Tcall_76 : callable Try.prog 76 = true := by kernel_rfl
theorem Tcall_77 : callable Try.prog 77 = true := by kernel_rfl
theorem Tint_88 : Try.prog.underlying 88 = some (.int .u64) := by kernel_rfl
theorem Tone_3 : oneOf Try.prog 3 = true := by kernel_rfl
theorem Tone_34 : oneOf Try.prog 34 = true := by kernel_rfl
theorem Tone_46 : oneOf Try.prog 46 = true := by kernel_rfl
theorem Tsize_3 : (Try.prog.info? 3).map (·.size) = some 1 := by kernel_rfl
theorem Tsize_34 : (Try.prog.info? 34).map (·.size) = some 1 := by kernel_rfl
theorem Tsize_46 : (Try.prog.info? 46).map (·.size) = some 1 := by kernel_rfl
theorem Tsl_34 : sliceOf Try.prog 34 = some (3, 1, 8, [.int .i64 0]) := by kernel_rfl
theorem Tsl_46 : sliceOf Try.prog 46 = some (50, 3, 24, [.int .i64 0, .int .i64 0, .int .i64 0]) := by kernel_rfl
theorem Tsome_3 : (Try.prog.underlying 3).isSome = true := by kernel_rfl
theorem Tzero_34 : zeroOf Try.prog 34 = some [.slice none 0 0] := by kernel_rfl
theorem Tzero_46 : zeroOf Try.prog 46 = some [.slice none 0 0] := by kernel_rfl
end ElT
open ElT

/-- Bit j of a number. -/
def bitI (x : Int) (j : Nat) : Bool := decide ((x >>> j) % 2 = 1)
theorem bitI_true {x : Int} {j : Nat} (h : (x >>> j) % 2 = 1) : bitI x j = true := decide_eq_true h
theorem bitI_false {x : Int} {j : Nat} (h : (x >>> j) % 2 = 0) : bitI x j = false := decide_eq_false (by omega)
theorem bitI_ne {x : Int} {j : Nat} (h : ¬ (x >>> j) % 2 = 0) : bitI x j = true := decide_eq_true (by omega)
theorem bitI_ne1 {x : Int} {j : Nat} (h : ¬ (x >>> j) % 2 = 1) : bitI x j = false := decide_eq_false h
/-- The first number from i on with the property, among m; else i + m. -/
def scanR (p : Nat → Bool) : Nat → Nat → Nat
  | i, 0 => i
  | i, m + 1 => if p i then i else scanR p (i + 1) m
theorem scanR_hit {p : Nat → Bool} {i n : Nat} (h : i < n) (hp : p i = true) : scanR p i (n - i) = i := by
  obtain ⟨m, hm⟩ : ∃ m, n - i = m + 1 := ⟨n - i - 1, by omega⟩
  rw [hm, scanR, if_pos hp]
theorem scanR_miss {p : Nat → Bool} {i n : Nat} (h : i < n) (hp : p i = false) : scanR p i (n - i) = scanR p (i + 1) (n - (i + 1)) := by
  obtain ⟨m, hm⟩ : ∃ m, n - i = m + 1 := ⟨n - i - 1, by omega⟩
  rw [hm, scanR, if_neg (by rw [hp]; decide), show n - (i + 1) = m by omega]
theorem scanR_end {p : Nat → Bool} {n : Nat} : scanR p n (n - n) = n := by rw [Nat.sub_self]; rfl
/-- Additions of rows as gates. -/
def flCX : List (Nat × Nat) → List Int
  | [] => []
  | (a, b) :: l => 9 :: (a : Int) :: (b : Int) :: flCX l
@[simp] theorem flCX_length : ∀ l : List (Nat × Nat), (flCX l).length = l.length * 3
  | [] => rfl
  | (_, _) :: l => by simp only [flCX, List.length_cons, flCX_length l]; omega
theorem flCX_append : ∀ l m : List (Nat × Nat), flCX (l ++ m) = flCX l ++ flCX m
  | [], _ => rfl
  | (a, b) :: l, m => by simp only [List.cons_append, flCX, flCX_append l m]
theorem ints_flCX (l : List (Nat × Nat)) (a b : Nat) : ints (flCX l) ++ [.int .i64 9, .int .i64 (a : Int), .int .i64 (b : Int)] = ints (flCX (l ++ [(a, b)])) := by
  rw [flCX_append, ints_append]; rfl
/-- Row u is added to row t. -/
def addR (s : List Int × List (Nat × Nat)) (t u : Nat) : List Int × List (Nat × Nat) := (s.1.set t (bits .xor .i64 (ix s.1 t) (ix s.1 u)), s.2 ++ [(t, u)])
def clrR (j r : Nat) : Nat → List Int × List (Nat × Nat) → List Int × List (Nat × Nat)
  | 0, s => s
  | k + 1, s => if k ≠ r ∧ bitI (ix (clrR j r k s).1 k) j = true then addR (clrR j r k s) k r else clrR j r k s
theorem clrR_len (j r : Nat) (s : List Int × List (Nat × Nat)) : ∀ k, (clrR j r k s).1.length = s.1.length ∧ (clrR j r k s).2.length ≤ s.2.length + k
  | 0 => ⟨rfl, Nat.le_refl _⟩
  | k + 1 => by
    have ih := clrR_len j r s k
    simp only [clrR]
    split
    · exact ⟨by simp [addR, ih.1], by simp [addR]; omega⟩
    · exact ⟨ih.1, by omega⟩
/-- The column j. -/
def el1 (n j : Nat) (q : (List Int × List (Nat × Nat)) × Nat) : (List Int × List (Nat × Nat)) × Nat :=
  if scanR (fun i => bitI (ix q.1.1 i) j) q.2 (n - q.2) = n then q
  else (clrR j q.2 n (if scanR (fun i => bitI (ix q.1.1 i) j) q.2 (n - q.2) = q.2 then q.1 else addR q.1 q.2 (scanR (fun i => bitI (ix q.1.1 i) j) q.2 (n - q.2))), q.2 + 1)
def elN (n : Nat) (xs : List Int) : Nat → (List Int × List (Nat × Nat)) × Nat
  | 0 => ((xs, []), 0)
  | j + 1 => el1 n j (elN n xs j)
theorem elN_stop {n : Nat} {xs : List Int} {j : Nat} (h : (elN n xs j).2 = n) : ∀ m, elN n xs (j + m) = elN n xs j
  | 0 => rfl
  | m + 1 => by
    rw [← Nat.add_assoc, elN, elN_stop h m, el1, h, scanR_end, if_pos rfl]
def addN (s : List Int × List (Nat × Nat)) (n : Nat) : Prop := s.1.length = n
theorem elN_len {n : Nat} {xs : List Int} (hx : xs.length = n) (h5 : n ≤ 5) : ∀ j, (elN n xs j).1.1.length = n ∧ (elN n xs j).1.2.length ≤ 6 * j
  | 0 => ⟨hx, Nat.le_refl _⟩
  | j + 1 => by
    have ih := elN_len hx h5 j
    simp only [elN, el1]
    split
    · exact ⟨ih.1, by omega⟩
    · split
      · have := clrR_len j (elN n xs j).2 (elN n xs j).1 n
        refine ⟨?_, ?_⟩ <;> dsimp only <;> omega
      · have := clrR_len j (elN n xs j).2 (addR (elN n xs j).1 (elN n xs j).2 (scanR (fun i => bitI (ix (elN n xs j).1.1 i) j) (elN n xs j).2 (n - (elN n xs j).2))) n
        simp only [addR, List.length_set, List.length_append, List.length_cons, List.length_nil] at this ⊢
        refine ⟨?_, ?_⟩ <;> omega
def rowsOk (xs : List Int) (n : Nat) : Bool := within (n : Int) 1 5 && !anyI (fun i => !within (ix xs i) 0 1099511627775) n
def elR (n : Nat) (xs : List Int) : List Int := if rowsOk xs n then (elN n xs 40).1.1 else []
def elG (n : Nat) (xs : List Int) : List (Nat × Nat) := if rowsOk xs n then (elN n xs 40).1.2 else []
theorem allI_any (p : Nat → Bool) (n : Nat) : anyI (fun i => !p i) n = false ↔ ∀ i, i < n → p i = true := by
  constructor
  · intro h i hi
    cases hp : p i with
    | true => rfl
    | false => rw [anyI_true hi (by simp [hp])] at h; cases h
  · intro h
    exact anyI_false fun i hi => by simp [h i hi]

set_option maxHeartbeats 1000000 in
set_option maxRecDepth 20000 in
theorem l1Own_spec {va : Value} {n : Nat} {xs : List Int} {w : World} (hb : n ≤ 1048576) (ha : Sl w va 1 n (ints xs)) : Calls Try.prog 68 #[va] w (Post No w fun v H => H = [.own v 3 1 n (ints xs)]) := by
  have hxl := ha.len
  refine enter (n := 6) (args := [va]) Try.func68 rfl rfl (St.empty _ _) ?_
  refine Run.seq ?_
  refine Run.region ?_
  refine Run.q (v := .slice none 0 0) rfl (OpQ.y (OpY.pure rfl)) ?_
  refine Run.done ?_
  refine Run.seq ?_
  refine Run.region ?_
  refine Run.step rfl (OpStep.buildSlice (us := []) Tsl_34 (by decide) (by decide) rfl rfl fun b1 => ?_)
  refine Run.q (v := va) rfl (OpQ.y (OpY.pure rfl)) ?_
  refine Run.step rfl (OpStep.append (H1 := []) (H2 := []) (v := .slice (some ⟨b1, 0, none⟩) 0 0) (u := va) (n := 0) (m := n) (xs := []) (ys := ints xs) Tsl_34 (by decide) rfl rfl rfl rfl (fun w hs => hs.sl ha) (by exact ints_all xs) (by omega) (by simp only [maxLen]; omega) fun av1 hnav1 => ?_)
  refine Run.weak (H' := [.own av1 3 1 n (ints xs)]) (Some'.weak (.takeEq (by simp) (.nil _))) ?_ ⟨_, _, rfl, fun _ => nofun, fun _ => nofun⟩
  refine Run.q (v := av1) rfl (OpQ.y (OpY.pure rfl)) ?_
  refine Run.done ?_
  refine Run.ret ?_
  refine ⟨av1, [.own av1 3 1 n (ints xs)], Out.one rfl rfl, (Some'.weak (.take (.nil _))), ?_⟩
  rfl

set_option maxHeartbeats 1000000 in
set_option maxRecDepth 20000 in
theorem CloneInt_spec {va : Value} {n : Nat} {xs : List Int} {w : World} (hb : n ≤ 1048576) (h0 : 0 < n) (ha : Sl w va 1 n (ints xs)) : Calls Try.prog 66 #[va] w (Post No w fun v H => H = [.own v 3 1 n (ints xs)]) := by
  have hxl := ha.len
  obtain ⟨A, c, rfl, _, _⟩ := ha.form0
  obtain ⟨b, o, rfl⟩ := ha.opn h0
  refine enter (n := 8) (args := [.slice (some ⟨b, o, none⟩) n c]) Try.func66 rfl rfl (St.empty _ _) ?_
  refine Run.seq ?_
  refine Run.region ?_
  refine Run.q (v := .slice none 0 0) rfl (OpQ.y (OpY.pure rfl)) ?_
  refine Run.done ?_
  refine Run.seq ?_
  refine Run.seq ?_
  refine Run.region ?_
  refine Run.q (v := .slice (some ⟨b, o, none⟩) n c) rfl (OpQ.y (OpY.pure rfl)) ?_
  refine Run.q (v := .bool false) rfl (OpQ.y (OpY.eqNilSome Tsl_34 rfl rfl)) ?_
  refine Run.done ?_
  refine Run.cond (b := false) rfl (fun h => nomatch h) (fun _ => ?_)
  refine Run.skip ?_
  refine Run.seq ?_
  refine Run.region ?_
  refine Run.step rfl (OpStep.buildSlice (us := []) Tsl_34 (by decide) (by decide) rfl rfl fun b1 => ?_)
  refine Run.q (v := .slice (some ⟨b, o, none⟩) n c) rfl (OpQ.y (OpY.pure rfl)) ?_
  refine Run.step rfl (OpStep.append (H1 := []) (H2 := []) (v := .slice (some ⟨b1, 0, none⟩) 0 0) (u := .slice (some ⟨b, o, none⟩) n c) (n := 0) (m := n) (xs := []) (ys := ints xs) Tsl_34 (by decide) rfl rfl rfl rfl (fun w hs => hs.sl ha) (by exact ints_all xs) (by omega) (by simp only [maxLen]; omega) fun av1 hnav1 => ?_)
  refine Run.weak (H' := [.own av1 3 1 n (ints xs)]) (Some'.weak (.takeEq (by simp) (.nil _))) ?_ ⟨_, _, rfl, fun _ => nofun, fun _ => nofun⟩
  refine Run.q (v := av1) rfl (OpQ.y (OpY.pure rfl)) ?_
  refine Run.done ?_
  refine Run.ret ?_
  refine ⟨av1, [.own av1 3 1 n (ints xs)], Out.one rfl rfl, (Some'.weak (.take (.nil _))), ?_⟩
  rfl

set_option maxHeartbeats 1000000 in
set_option maxRecDepth 20000 in
theorem l1All_spec {va : Value} {n : Nat} {xs : List Int} {lo hi : Int} {w : World} (ha : Sl w va 1 n (ints xs)) : Calls Try.prog 57 #[va, .int .i64 lo, .int .i64 hi] w (Post No w fun v _ => v = .bool (!anyI (fun i => !within (ix xs i) lo hi) n)) := by
  have hxl := ha.len
  have hn := ha.le
  obtain ⟨A, c, rfl, _, _⟩ := ha.form0
  refine enter (n := 21) (args := [.slice A n c, .int .i64 lo, .int .i64 hi]) Try.func57 rfl rfl (St.empty _ _) ?_
  refine Run.seq ?_
  refine Run.region ?_
  refine Run.q (v := .bool false) rfl (OpQ.y (OpY.pure rfl)) ?_
  refine Run.done ?_
  refine Run.seq ?_
  refine Run.seq ?_
  refine Run.region ?_
  refine Run.q (v := .slice A n c) rfl (OpQ.y (OpY.pure rfl)) ?_
  refine Run.q (v := .int .i64 (((n : Nat) : Int))) rfl (OpQ.y (OpY.len Tsl_34 rfl)) ?_
  refine Run.q (v := .int .i64 0) rfl (OpQ.y (OpY.pure rfl)) ?_
  refine Run.done ?_
  refine Run.block ?_
  refine Run.loop (ι := Nat) [6, 8, 11, 12, 13, 14, 15, 16, 17, 18, 19, 20] (fun k => [(11, .int .i64 (((k : Nat) : Int)))]) (fun k => []) (fun k => k ≤ n ∧ (∀ i, i < k → (!within (ix xs i) lo hi) = false)) (fun k => n - k) 0 ?_ ?_ ?_ ?_
  · exact ⟨Nat.zero_le _, by first | trivial | (intro i hi; omega)⟩
  · exact ⟨rfl, trivial⟩
  · exact (Some'.weak (.nil _))
  · rintro k fr hinv
    show Run _ _ (over _ _ [(11, .int .i64 (((k : Nat) : Int)))] fr) []
    try dsimp only at hinv
    refine Run.seq ?_
    refine Run.region ?_
    refine Run.q (v := .bool (decide ((((k : Nat) : Int)) < (((n : Nat) : Int))))) rfl (OpQ.y (OpY.pure rfl)) ?_
    refine Run.done ?_
    refine Run.seq ?_
    refine Run.cond (b := decide ((((k : Nat) : Int)) < (((n : Nat) : Int)))) rfl (fun h12 => ?_) (fun h12 => ?_)
    · have p12 := h12; try simp only [decide_eq_true_eq, decide_eq_false_iff_not, beq_iff_eq, bne_iff_ne, beq_eq_false_iff_ne, ne_eq, gt_iff_lt, ge_iff_le, Int.not_lt, Int.not_le, bne_eq_false_iff_eq, Bool.not_eq_true', Bool.not_eq_false', Bool.and_eq_true, Bool.and_eq_false_iff, Bool.or_eq_true, Bool.or_eq_false_iff, Decidable.not_not, List.cons.injEq, and_true] at p12
      have hltk : k < n := by omega
      obtain ⟨b, o, rfl⟩ := ha.opn (by omega)
      refine Run.skip ?_
      refine Run.seq ?_
      refine Run.block ?_
      refine Run.seq ?_
      refine Run.region ?_
      refine Run.q (v := .pointer (some ⟨b, o + k, none⟩)) rfl (OpQ.y (OpY.index (kk := k) Tsl_34 rfl rfl (by omega) (by omega) (by first | rfl | omega))) ?_
      refine Run.q (v := .int .i64 (ix xs (k))) rfl (OpQ.y (OpY.load1 Tone_3 rfl (Cells.arg (k := k) ha rfl (by omega) (pre1 (by omega))))) ?_
      refine Run.q (v := .int .i64 (ix xs (k))) rfl (OpQ.y (OpY.pure rfl)) ?_
      refine Run.done ?_
      refine Run.seq ?_
      refine Run.region ?_
      refine Run.q (v := .int .i64 (ix xs (k))) rfl (OpQ.y (OpY.pure rfl)) ?_
      refine Run.q (v := .int .i64 lo) rfl (OpQ.y (OpY.pure rfl)) ?_
      refine Run.q (v := .int .i64 hi) rfl (OpQ.y (OpY.pure rfl)) ?_
      refine Run.q (v := .bool (within (ix xs k) lo hi)) rfl (OpQ.call (vs := [.int .i64 (ix xs (k)), .int .i64 lo, .int .i64 hi]) (caps := []) Tcall_41 rfl rfl (fun w hs => l1In_spec _ _ _ w)) ?_
      refine Run.q (v := .bool (!(within (ix xs k) lo hi))) rfl (OpQ.y (OpY.pure rfl)) ?_
      refine Run.done ?_
      refine Run.cond (b := !(within (ix xs k) lo hi)) rfl (fun h19 => ?_) (fun h19 => ?_)
      · have p19 := h19; try simp only [decide_eq_true_eq, decide_eq_false_iff_not, beq_iff_eq, bne_iff_ne, beq_eq_false_iff_ne, ne_eq, gt_iff_lt, ge_iff_le, Int.not_lt, Int.not_le, bne_eq_false_iff_eq, Bool.not_eq_true', Bool.not_eq_false', Bool.and_eq_true, Bool.and_eq_false_iff, Bool.or_eq_true, Bool.or_eq_false_iff, Decidable.not_not, List.cons.injEq, and_true] at p19
        refine Run.seq ?_
        have hres : anyI (fun i => !within (ix xs i) lo hi) n = true := anyI_true hltk h19
        refine Run.region ?_
        refine Run.q (v := .bool false) rfl (OpQ.y (OpY.pure rfl)) ?_
        refine Run.done ?_
        refine Run.ret ?_
        refine ⟨.bool false, [], Out.one rfl rfl, (Some'.weak (.nil _)), ?_⟩
        show _ = _; rw [hres]; rfl
      · have p19 := h19; try simp only [decide_eq_true_eq, decide_eq_false_iff_not, beq_iff_eq, bne_iff_ne, beq_eq_false_iff_ne, ne_eq, gt_iff_lt, ge_iff_le, Int.not_lt, Int.not_le, bne_eq_false_iff_eq, Bool.not_eq_true', Bool.not_eq_false', Bool.and_eq_true, Bool.and_eq_false_iff, Bool.or_eq_true, Bool.or_eq_false_iff, Decidable.not_not, List.cons.injEq, and_true] at p19
        refine Run.skip ?_
        refine Run.blockEnd ?_
        have hgood : (!within (ix xs k) lo hi) = false := h19
        refine Run.region ?_
        refine Run.q (v := .int .i64 ((((k : Nat) : Int)) + 1)) rfl (OpQ.y (OpY.add rfl rfl rfl (by omega) (by omega))) ?_
        refine Run.q (v := .int .i64 ((((k : Nat) : Int)) + 1)) rfl (OpQ.y (OpY.pure rfl)) ?_
        refine Run.done ?_
        refine Run.goal ⟨(by repeat (first | exact Same.refl _ _ | refine Same.put rfl ?_ | refine Same.over rfl rfl ?_)), k + 1, ?_, ?_, ?_, ?_⟩
        · refine ⟨by omega, ?_⟩
          intro i hi
          rcases Nat.lt_succ_iff_lt_or_eq.1 hi with h | h
          · exact hinv.2 i h
          · rw [h]; exact hgood
        · omega
        · exact ⟨(by first | rfl | (congr 1; omega) | simp), trivial⟩
        · exact (Some'.weak (.nil _))
    · have p12 := h12; try simp only [decide_eq_true_eq, decide_eq_false_iff_not, beq_iff_eq, bne_iff_ne, beq_eq_false_iff_ne, ne_eq, gt_iff_lt, ge_iff_le, Int.not_lt, Int.not_le, bne_eq_false_iff_eq, Bool.not_eq_true', Bool.not_eq_false', Bool.and_eq_true, Bool.and_eq_false_iff, Bool.or_eq_true, Bool.or_eq_false_iff, Decidable.not_not, List.cons.injEq, and_true] at p12
      have hknk : k = n := by omega
      have hres : anyI (fun i => !within (ix xs i) lo hi) n = false := by rw [← hknk]; exact anyI_false hinv.2
      refine Run.exit rfl ?_
      refine Run.seq ?_
      refine Run.region ?_
      refine Run.q (v := .bool true) rfl (OpQ.y (OpY.pure rfl)) ?_
      refine Run.done ?_
      refine Run.ret ?_
      refine ⟨.bool true, [], Out.one rfl rfl, (Some'.weak (.nil _)), ?_⟩
      show _ = _; rw [hres]; rfl

set_option maxHeartbeats 1000000 in
set_option maxRecDepth 20000 in
theorem rowBad_spec (x : Int) (w : World) : Calls Try.prog 55 #[.int .i64 x] w (Post No w fun v _ => v = .bool (!within x 0 1099511627775)) := by
  refine enter (n := 6) (args := [.int .i64 x]) Try.func55 rfl rfl (St.empty _ _) ?_
  refine Run.seq ?_
  refine Run.region ?_
  refine Run.q (v := .bool false) rfl (OpQ.y (OpY.pure rfl)) ?_
  refine Run.done ?_
  refine Run.seq ?_
  refine Run.region ?_
  refine Run.q (v := .int .i64 x) rfl (OpQ.y (OpY.pure rfl)) ?_
  refine Run.q (v := .bool (within x 0 1099511627775)) rfl (OpQ.call (vs := [.int .i64 x, .int .i64 0, .int .i64 1099511627775]) (caps := []) Tcall_39 rfl rfl (fun w hs => within_spec _ _ _ w)) ?_
  refine Run.q (v := .bool (!(within x 0 1099511627775))) rfl (OpQ.y (OpY.pure rfl)) ?_
  refine Run.q (v := .bool (!(within x 0 1099511627775))) rfl (OpQ.y (OpY.pure rfl)) ?_
  refine Run.done ?_
  refine Run.ret ?_
  refine ⟨.bool (!(within x 0 1099511627775)), [], Out.one rfl rfl, (Some'.weak (.nil _)), ?_⟩
  rfl

set_option maxHeartbeats 1000000 in
set_option maxRecDepth 20000 in
theorem IndexFuncRowBad_spec  {va : Value} {n : Nat} {xs : List Int} {w : World} (ha : Sl w va 1 n (ints xs))  : Calls Try.prog 75 #[va, .func (.func 55) #[] #[]] w (Post No w fun v _ => v = .int .i64 (findI (fun i => !within (ix xs i) 0 1099511627775) n)) := by
  have hxl := ha.len
  have hn := ha.le
  obtain ⟨A, c, rfl, _, _⟩ := ha.form0
  refine enter (n := 19) (args := [.slice A n c, .func (.func 55) #[] #[]]) Try.func75 rfl rfl (St.empty _ _) ?_
  refine Run.seq ?_
  refine Run.region ?_
  refine Run.q (v := .int .i64 0) rfl (OpQ.y (OpY.pure rfl)) ?_
  refine Run.done ?_
  refine Run.seq ?_
  refine Run.seq ?_
  refine Run.region ?_
  refine Run.q (v := .slice A n c) rfl (OpQ.y (OpY.pure rfl)) ?_
  refine Run.q (v := .int .i64 (((n : Nat) : Int))) rfl (OpQ.y (OpY.len Tsl_34 rfl)) ?_
  refine Run.q (v := .int .i64 0) rfl (OpQ.y (OpY.pure rfl)) ?_
  refine Run.done ?_
  refine Run.block ?_
  refine Run.loop (ι := Nat) [4, 5, 8, 9, 10, 11, 12, 13, 14, 15, 16, 17, 18] (fun k => [(8, .int .i64 (((k : Nat) : Int)))]) (fun k => []) (fun k => k ≤ n ∧ (∀ i, i < k → (!within (ix xs i) 0 1099511627775) = false)) (fun k => n - k) 0 ?_ ?_ ?_ ?_
  · exact ⟨Nat.zero_le _, by first | trivial | (intro i hi; omega)⟩
  · exact ⟨rfl, trivial⟩
  · exact (Some'.weak (.nil _))
  · rintro k fr hinv
    show Run _ _ (over _ _ [(8, .int .i64 (((k : Nat) : Int)))] fr) []
    try dsimp only at hinv
    refine Run.seq ?_
    refine Run.region ?_
    refine Run.q (v := .bool (decide ((((k : Nat) : Int)) < (((n : Nat) : Int))))) rfl (OpQ.y (OpY.pure rfl)) ?_
    refine Run.done ?_
    refine Run.seq ?_
    refine Run.cond (b := decide ((((k : Nat) : Int)) < (((n : Nat) : Int)))) rfl (fun h9 => ?_) (fun h9 => ?_)
    · have p9 := h9; try simp only [decide_eq_true_eq, decide_eq_false_iff_not, beq_iff_eq, bne_iff_ne, beq_eq_false_iff_ne, ne_eq, gt_iff_lt, ge_iff_le, Int.not_lt, Int.not_le, bne_eq_false_iff_eq, Bool.not_eq_true', Bool.not_eq_false', Bool.and_eq_true, Bool.and_eq_false_iff, Bool.or_eq_true, Bool.or_eq_false_iff, Decidable.not_not, List.cons.injEq, and_true] at p9
      have hltk : k < n := by omega
      obtain ⟨b, o, rfl⟩ := ha.opn (by omega)
      refine Run.skip ?_
      refine Run.seq ?_
      refine Run.block ?_
      refine Run.seq ?_
      refine Run.region ?_
      refine Run.q (v := .int .i64 (((k : Nat) : Int))) rfl (OpQ.y (OpY.pure rfl)) ?_
      refine Run.q (v := .int .i64 (((k : Nat) : Int))) rfl (OpQ.y (OpY.pure rfl)) ?_
      refine Run.done ?_
      refine Run.seq ?_
      refine Run.region ?_
      refine Run.q (v := .func (.func 55) #[] #[]) rfl (OpQ.y (OpY.pure rfl)) ?_
      refine Run.q (v := .slice (some ⟨b, o, none⟩) n c) rfl (OpQ.y (OpY.pure rfl)) ?_
      refine Run.q (v := .int .i64 (((k : Nat) : Int))) rfl (OpQ.y (OpY.pure rfl)) ?_
      refine Run.q (v := .pointer (some ⟨b, o + k, none⟩)) rfl (OpQ.y (OpY.index (kk := k) Tsl_34 rfl rfl (by omega) (by omega) (by first | rfl | omega))) ?_
      refine Run.q (v := .int .i64 (ix xs (k))) rfl (OpQ.y (OpY.load1 Tone_3 rfl (Cells.arg (k := k) ha rfl (by omega) (pre1 (by omega))))) ?_
      refine Run.q (v := .bool (!within (ix xs k) 0 1099511627775)) rfl (OpQ.call (vs := [.int .i64 (ix xs (k))]) (caps := []) Tcall_55 rfl rfl (fun w hs => rowBad_spec _ w)) ?_
      refine Run.done ?_
      refine Run.cond (b := !within (ix xs k) 0 1099511627775) rfl (fun h16 => ?_) (fun h16 => ?_)
      · have p16 := h16; try simp only [decide_eq_true_eq, decide_eq_false_iff_not, beq_iff_eq, bne_iff_ne, beq_eq_false_iff_ne, ne_eq, gt_iff_lt, ge_iff_le, Int.not_lt, Int.not_le, bne_eq_false_iff_eq, Bool.not_eq_true', Bool.not_eq_false', Bool.and_eq_true, Bool.and_eq_false_iff, Bool.or_eq_true, Bool.or_eq_false_iff, Decidable.not_not, List.cons.injEq, and_true] at p16
        refine Run.seq ?_
        have hres : findI (fun i => !within (ix xs i) 0 1099511627775) n = k := findI_hit hinv.2 h16 hltk
        refine Run.region ?_
        refine Run.q (v := .int .i64 (((k : Nat) : Int))) rfl (OpQ.y (OpY.pure rfl)) ?_
        refine Run.q (v := .int .i64 (((k : Nat) : Int))) rfl (OpQ.y (OpY.pure rfl)) ?_
        refine Run.done ?_
        refine Run.ret ?_
        refine ⟨.int .i64 (((k : Nat) : Int)), [], Out.one rfl rfl, (Some'.weak (.nil _)), ?_⟩
        show _ = _; rw [hres]
      · have p16 := h16; try simp only [decide_eq_true_eq, decide_eq_false_iff_not, beq_iff_eq, bne_iff_ne, beq_eq_false_iff_ne, ne_eq, gt_iff_lt, ge_iff_le, Int.not_lt, Int.not_le, bne_eq_false_iff_eq, Bool.not_eq_true', Bool.not_eq_false', Bool.and_eq_true, Bool.and_eq_false_iff, Bool.or_eq_true, Bool.or_eq_false_iff, Decidable.not_not, List.cons.injEq, and_true] at p16
        refine Run.skip ?_
        refine Run.blockEnd ?_
        have hgood : (!within (ix xs k) 0 1099511627775) = false := h16
        refine Run.region ?_
        refine Run.q (v := .int .i64 ((((k : Nat) : Int)) + 1)) rfl (OpQ.y (OpY.add rfl rfl rfl (by omega) (by omega))) ?_
        refine Run.q (v := .int .i64 ((((k : Nat) : Int)) + 1)) rfl (OpQ.y (OpY.pure rfl)) ?_
        refine Run.done ?_
        refine Run.goal ⟨(by repeat (first | exact Same.refl _ _ | refine Same.put rfl ?_ | refine Same.over rfl rfl ?_)), k + 1, ?_, ?_, ?_, ?_⟩
        · refine ⟨by omega, ?_⟩
          intro i hi
          rcases Nat.lt_succ_iff_lt_or_eq.1 hi with h | h
          · exact hinv.2 i h
          · rw [h]; exact hgood
        · omega
        · exact ⟨(by first | rfl | (congr 1; omega) | simp), trivial⟩
        · exact (Some'.weak (.nil _))
    · have p9 := h9; try simp only [decide_eq_true_eq, decide_eq_false_iff_not, beq_iff_eq, bne_iff_ne, beq_eq_false_iff_ne, ne_eq, gt_iff_lt, ge_iff_le, Int.not_lt, Int.not_le, bne_eq_false_iff_eq, Bool.not_eq_true', Bool.not_eq_false', Bool.and_eq_true, Bool.and_eq_false_iff, Bool.or_eq_true, Bool.or_eq_false_iff, Decidable.not_not, List.cons.injEq, and_true] at p9
      have hknk : k = n := by omega
      have hres : findI (fun i => !within (ix xs i) 0 1099511627775) n = -1 := by rw [← hknk]; exact findI_none hinv.2
      refine Run.exit rfl ?_
      refine Run.seq ?_
      refine Run.region ?_
      refine Run.q (v := .int .i64 (-1)) rfl (OpQ.y (OpY.pure rfl)) ?_
      refine Run.done ?_
      refine Run.ret ?_
      refine ⟨.int .i64 (-1), [], Out.one rfl rfl, (Some'.weak (.nil _)), ?_⟩
      show _ = _; rw [hres]

set_option maxHeartbeats 1000000 in
set_option maxRecDepth 20000 in
theorem ContainsFuncRowBad_spec  {va : Value} {n : Nat} {xs : List Int} {w : World} (ha : Sl w va 1 n (ints xs))  : Calls Try.prog 54 #[va, .func (.func 55) #[] #[]] w (Post No w fun v _ => v = .bool (anyI (fun i => !within (ix xs i) 0 1099511627775) n)) := by
  refine enter (n := 9) (args := [va, .func (.func 55) #[] #[]]) Try.func54 rfl rfl (St.empty _ _) ?_
  refine Run.seq ?_
  refine Run.region ?_
  refine Run.q (v := .bool false) rfl (OpQ.y (OpY.pure rfl)) ?_
  refine Run.done ?_
  refine Run.seq ?_
  refine Run.region ?_
  refine Run.q (v := va) rfl (OpQ.y (OpY.pure rfl)) ?_
  refine Run.q (v := .func (.func 55) #[] #[]) rfl (OpQ.y (OpY.pure rfl)) ?_
  refine Run.q (v := .int .i64 (findI (fun i => !within (ix xs i) 0 1099511627775) n)) rfl (OpQ.call (vs := [va, .func (.func 55) #[] #[]]) (caps := []) Tcall_75 rfl rfl (fun w hs => IndexFuncRowBad_spec (hs.sl ha) )) ?_
  refine Run.q (v := .bool (decide ((findI (fun i => !within (ix xs i) 0 1099511627775) n) ≥ 0))) rfl (OpQ.y (OpY.pure rfl)) ?_
  refine Run.q (v := .bool (decide ((findI (fun i => !within (ix xs i) 0 1099511627775) n) ≥ 0))) rfl (OpQ.y (OpY.pure rfl)) ?_
  refine Run.done ?_
  refine Run.ret ?_
  refine ⟨.bool (decide ((findI (fun i => !within (ix xs i) 0 1099511627775) n) ≥ 0)), [], Out.one rfl rfl, (Some'.weak (.nil _)), ?_⟩
  show _ = _; rw [findI_ge]

set_option maxHeartbeats 1000000 in
set_option maxRecDepth 20000 in
theorem l20Add_spec {va vg : Value} {n t u : Nat} {s : List Int × List (Nat × Nat)} {w : World} (hsl : s.1.length = n) (ht : t < n) (hu : u < n) (hn5 : n ≤ 5) (hg : s.2.length ≤ 1000) (h : St (Of [.own va 3 1 n (ints s.1), .own vg 50 3 s.2.length (ints (flCX s.2))]) w w [.own va 3 1 n (ints s.1), .own vg 50 3 s.2.length (ints (flCX s.2))]) :
    Calls Try.prog 77 #[va, vg, .int .i64 (t : Int), .int .i64 (u : Int)] w (Post (Of [.own va 3 1 n (ints s.1), .own vg 50 3 s.2.length (ints (flCX s.2))]) w fun v H => ∃ a b, v = .tuple #[a, b] ∧ H = [.own a 3 1 n (ints (addR s t u).1), .own b 50 3 (addR s t u).2.length (ints (flCX (addR s t u).2))]) := by
  refine enter (n := 30) (args := [va, vg, .int .i64 (((t : Nat) : Int)), .int .i64 (((u : Nat) : Int))]) Try.func77 rfl rfl (h) ?_
  refine Run.seq ?_
  refine Run.region ?_
  refine Run.q (v := .slice none 0 0) rfl (OpQ.y (OpY.pure rfl)) ?_
  refine Run.q (v := .slice none 0 0) rfl (OpQ.y (OpY.pure rfl)) ?_
  refine Run.done ?_
  refine Run.seq ?_
  refine Run.region ?_
  refine Run.q (v := va) rfl (OpQ.y (OpY.pure rfl)) ?_
  refine Run.step rfl (OpStep.call (vs := [va]) (caps := []) Tcall_68 rfl rfl (fun w hs => l1Own_spec (by omega) (hs.slOwn (.head _))) ?_)
  rintro uo _ rfl
  show Run _ _ (putF _ _ _ uo) [.own uo 3 1 n (ints s.1), .own va 3 1 n (ints s.1), .own vg 50 3 (s.2.length) (ints (flCX s.2))]
  refine Run.q (v := uo) rfl (OpQ.y (OpY.pure rfl)) ?_
  refine Run.done ?_
  refine Run.seq ?_
  refine Run.openOwn (.head _) (by omega) (fun go co hvgo hcapgo _ => ?_) (fun _ _ _ => ⟨nofun, nofun, nofun⟩)
  subst hvgo
  refine Run.openOwn (.tail _ (List.Mem.head _)) (by omega) (fun ga ca hvga hcapga _ => ?_) (fun _ _ _ => ⟨nofun, nofun, nofun⟩)
  subst hvga
  refine Run.lastly [10] (by kernel_rfl) ?_
  refine DL.takeP (i := 0) (v := .slice (some ⟨go, 0, none⟩) n co) rfl (by kernel_rfl) (by kernel_rfl) (by kernel_rfl) (fun _ _ _ h => h) rfl (fun _ => OpY.pure rfl) ?_
  refine DL.takeP (i := 1) (v := .int .i64 (((t : Nat) : Int))) rfl (by kernel_rfl) (by kernel_rfl) (by kernel_rfl) (fun _ _ _ h => h) rfl (fun _ => OpY.pure rfl) ?_
  refine DL.takeP (i := 2) (v := .pointer (some ⟨go, t, none⟩)) rfl (by kernel_rfl) (by kernel_rfl) (by kernel_rfl) (fun _ _ _ h => h) rfl (fun _ => OpY.index (kk := t) Tsl_34 rfl rfl (by omega) (by omega) (by first | rfl | omega)) ?_
  refine DL.take (i := 3) (v := .int .i64 (ix s.1 (t))) rfl (by kernel_rfl) (by kernel_rfl) (by kernel_rfl) (by kernel_rfl) (fun _ _ _ h => h) (Some'.weak (.take (.take (.take (.nil _))))) rfl (OpY.load1 Tone_3 rfl (Cells.own0 (.head _) (pre1 (by omega)))) ?_
  refine DL.takeP (i := 4) (v := .slice (some ⟨ga, 0, none⟩) n ca) rfl (by kernel_rfl) (by kernel_rfl) (by kernel_rfl) (fun _ _ _ h => h) rfl (fun _ => OpY.pure rfl) ?_
  refine DL.takeP (i := 5) (v := .int .i64 (((u : Nat) : Int))) rfl (by kernel_rfl) (by kernel_rfl) (by kernel_rfl) (fun _ _ _ h => h) rfl (fun _ => OpY.pure rfl) ?_
  refine DL.takeP (i := 6) (v := .pointer (some ⟨ga, u, none⟩)) rfl (by kernel_rfl) (by kernel_rfl) (by kernel_rfl) (fun _ _ _ h => h) rfl (fun _ => OpY.index (kk := u) Tsl_34 rfl rfl (by omega) (by omega) (by first | rfl | omega)) ?_
  refine DL.take (i := 7) (v := .int .i64 (ix s.1 (u))) rfl (by kernel_rfl) (by kernel_rfl) (by kernel_rfl) (by kernel_rfl) (fun _ _ _ h => h) (Some'.weak (.take (.take (.take (.nil _))))) rfl (OpY.load1 Tone_3 rfl (Cells.own0 (.tail _ (List.Mem.head _)) (pre1 (by omega)))) ?_
  refine DL.takeP (i := 8) (v := .int .i64 (bits .xor .i64 (ix s.1 (t)) (ix s.1 (u)))) rfl (by kernel_rfl) (by kernel_rfl) (by kernel_rfl) (fun _ _ _ h => h) rfl (fun _ => OpY.xor rfl rfl) ?_
  refine DL.takeP (i := 9) (v := .pointer (some ⟨go, t, none⟩)) rfl (by kernel_rfl) (by kernel_rfl) (by kernel_rfl) (fun _ _ _ h => h) rfl (fun _ => OpY.index (kk := t) Tsl_34 rfl rfl (by omega) (by omega) (by first | rfl | omega)) ?_
  refine DL.step (i := 10) (by kernel_rfl) (by kernel_rfl) rfl rfl (OpStep.storeOwnInt (o := t) (a := bits .xor .i64 (ix s.1 (t)) (ix s.1 (u))) Tsize_3 rfl rfl (.here _) (by omega) ?_)
  refine DL.done (by kernel_rfl) ?_
  refine Run.seq ?_
  refine Run.region ?_
  refine Run.q (v := .slice (some ⟨go, 0, none⟩) n co) rfl (OpQ.y (OpY.pure rfl)) ?_
  refine Run.q (v := vg) rfl (OpQ.y (OpY.pure rfl)) ?_
  refine Run.q (v := .int .i64 (((t : Nat) : Int))) rfl (OpQ.y (OpY.pure rfl)) ?_
  refine Run.q (v := .int .i64 (((u : Nat) : Int))) rfl (OpQ.y (OpY.pure rfl)) ?_
  refine Run.q (v := .agg #[.int .i64 9, .int .i64 (((t : Nat) : Int)), .int .i64 (((u : Nat) : Int))]) rfl (OpQ.y (OpY.build (cs := [.int .i64 9, .int .i64 (((t : Nat) : Int)), .int .i64 (((u : Nat) : Int))]) (by kernel_rfl))) ?_
  refine Run.step rfl (OpStep.buildSlice (us := [.int .i64 9, .int .i64 (((t : Nat) : Int)), .int .i64 (((u : Nat) : Int))]) Tsl_46 (by decide) (by decide) ⟨rfl, [.int .i64 9, .int .i64 (((t : Nat) : Int)), .int .i64 (((u : Nat) : Int))], _, rfl, rfl, rfl, rfl⟩ rfl fun b1 => ?_)
  refine Run.step rfl (OpStep.append (H1 := [.own (.slice (some ⟨b1, 0, none⟩) 1 1) 50 3 1 ([.int .i64 9, .int .i64 (((t : Nat) : Int)), .int .i64 (((u : Nat) : Int))]), .own (.slice (some ⟨go, 0, none⟩) n co) 3 1 n (ints (s.1.set t (bits .xor .i64 (ix s.1 (t)) (ix s.1 (u))))), .own (.slice (some ⟨ga, 0, none⟩) n ca) 3 1 n (ints s.1)]) (H2 := []) (v := vg) (u := .slice (some ⟨b1, 0, none⟩) 1 1) (n := s.2.length) (m := 1) (xs := ints (flCX s.2)) (ys := [.int .i64 9, .int .i64 (((t : Nat) : Int)), .int .i64 (((u : Nat) : Int))]) Tsl_46 (by decide) rfl rfl rfl rfl (fun w hs => hs.slOwn (.head _)) (by simp [Value.oneCell']) (by omega) (by simp only [maxLen]; omega) fun av1 hnav1 => ?_)
  refine Run.weak (H' := [.own (.slice (some ⟨b1, 0, none⟩) 1 1) 50 3 1 ([.int .i64 9, .int .i64 (((t : Nat) : Int)), .int .i64 (((u : Nat) : Int))]), .own (.slice (some ⟨go, 0, none⟩) n co) 3 1 n (ints (s.1.set t (bits .xor .i64 (ix s.1 (t)) (ix s.1 (u))))), .own (.slice (some ⟨ga, 0, none⟩) n ca) 3 1 n (ints s.1), .own av1 50 3 ((addR s t u).2.length) (ints (flCX (addR s t u).2))]) (Some'.weak (.take (.take (.take (.takeEq (by rw [show (addR s t u).2 = s.2 ++ [(t, u)] from rfl, ← ints_flCX]; simp) (.nil _)))))) ?_ ⟨_, _, rfl, fun _ => nofun, fun _ => nofun⟩
  refine Run.q (v := .slice (some ⟨go, 0, none⟩) n co) rfl (OpQ.y (OpY.pure rfl)) ?_
  refine Run.q (v := av1) rfl (OpQ.y (OpY.pure rfl)) ?_
  refine Run.done ?_
  refine Run.ret ?_
  refine ⟨.tuple #[.slice (some ⟨go, 0, none⟩) n co, av1], [.own (.slice (some ⟨go, 0, none⟩) n co) 3 1 n (ints (addR s t u).1), .own av1 50 3 ((addR s t u).2.length) (ints (flCX (addR s t u).2))], Out.two rfl rfl rfl, (Some'.weak (.skip (.takeEq (by rfl) (.skip (.take (.nil _)))))), ?_⟩
  exact ⟨_, _, rfl, rfl⟩

set_option maxHeartbeats 1000000 in
set_option maxRecDepth 20000 in
theorem eadd_spec {vg : Value} {bR bG gr cr n t u : Nat} {s : List Int × List (Nat × Nat)} {w : World} (hsl : s.1.length = n) (ht : t < n) (hu : u < n) (hn5 : n ≤ 5) (hg : s.2.length ≤ 1000) (h : St (Of [.blk bG 46 [vg], .blk bR 34 [.slice (some ⟨gr, 0, none⟩) n cr], .own (.slice (some ⟨gr, 0, none⟩) n cr) 3 1 n (ints s.1), .own vg 50 3 s.2.length (ints (flCX s.2))]) w w [.blk bG 46 [vg], .blk bR 34 [.slice (some ⟨gr, 0, none⟩) n cr], .own (.slice (some ⟨gr, 0, none⟩) n cr) 3 1 n (ints s.1), .own vg 50 3 s.2.length (ints (flCX s.2))]) :
    Calls Try.prog 76 #[.int .i64 (u : Int), .int .i64 (t : Int), .pointer (some ⟨bR, 0, none⟩), .pointer (some ⟨bG, 0, none⟩)] w (Post (Of [.blk bG 46 [vg], .blk bR 34 [.slice (some ⟨gr, 0, none⟩) n cr], .own (.slice (some ⟨gr, 0, none⟩) n cr) 3 1 n (ints s.1), .own vg 50 3 s.2.length (ints (flCX s.2))]) w fun v H => ∃ b, v = .tuple #[] ∧
      H = [.blk bG 46 [b], .blk bR 34 [.slice (some ⟨gr, 0, none⟩) n cr], .own (.slice (some ⟨gr, 0, none⟩) n cr) 3 1 n (ints (addR s t u).1), .own b 50 3 (addR s t u).2.length (ints (flCX (addR s t u).2))]) := by
  refine enter (n := 22) (args := [.int .i64 (((u : Nat) : Int)), .int .i64 (((t : Nat) : Int)), .pointer (some ⟨bR, 0, none⟩), .pointer (some ⟨bG, 0, none⟩)]) Try.func76 rfl rfl (h) ?_
  refine Run.seq ?_
  refine Run.lastly [10] (by kernel_rfl) ?_
  refine DL.take (i := 0) (v := .slice (some ⟨gr, 0, none⟩) n cr) rfl (by kernel_rfl) (by kernel_rfl) (by kernel_rfl) (by kernel_rfl) (fun _ _ _ h => h) (Some'.weak (.take (.take (.take (.take (.nil _)))))) rfl (OpY.load1 Tone_34 rfl (Cells.blk (.tail _ (List.Mem.head _)) ⟨rfl, trivial⟩)) ?_
  refine DL.takeP (i := 1) (v := .int .i64 (((t : Nat) : Int))) rfl (by kernel_rfl) (by kernel_rfl) (by kernel_rfl) (fun _ _ _ h => h) rfl (fun _ => OpY.pure rfl) ?_
  refine DL.takeP (i := 2) (v := .pointer (some ⟨gr, t, none⟩)) rfl (by kernel_rfl) (by kernel_rfl) (by kernel_rfl) (fun _ _ _ h => h) rfl (fun _ => OpY.index (kk := t) Tsl_34 rfl rfl (by omega) (by omega) (by first | rfl | omega)) ?_
  refine DL.take (i := 3) (v := .int .i64 (ix s.1 (t))) rfl (by kernel_rfl) (by kernel_rfl) (by kernel_rfl) (by kernel_rfl) (fun _ _ _ h => h) (Some'.weak (.take (.take (.take (.take (.nil _)))))) rfl (OpY.load1 Tone_3 rfl (Cells.own0 (.tail _ (.tail _ (List.Mem.head _))) (pre1 (by omega)))) ?_
  refine DL.take (i := 4) (v := .slice (some ⟨gr, 0, none⟩) n cr) rfl (by kernel_rfl) (by kernel_rfl) (by kernel_rfl) (by kernel_rfl) (fun _ _ _ h => h) (Some'.weak (.take (.take (.take (.take (.nil _)))))) rfl (OpY.load1 Tone_34 rfl (Cells.blk (.tail _ (List.Mem.head _)) ⟨rfl, trivial⟩)) ?_
  refine DL.takeP (i := 5) (v := .int .i64 (((u : Nat) : Int))) rfl (by kernel_rfl) (by kernel_rfl) (by kernel_rfl) (fun _ _ _ h => h) rfl (fun _ => OpY.pure rfl) ?_
  refine DL.takeP (i := 6) (v := .pointer (some ⟨gr, u, none⟩)) rfl (by kernel_rfl) (by kernel_rfl) (by kernel_rfl) (fun _ _ _ h => h) rfl (fun _ => OpY.index (kk := u) Tsl_34 rfl rfl (by omega) (by omega) (by first | rfl | omega)) ?_
  refine DL.take (i := 7) (v := .int .i64 (ix s.1 (u))) rfl (by kernel_rfl) (by kernel_rfl) (by kernel_rfl) (by kernel_rfl) (fun _ _ _ h => h) (Some'.weak (.take (.take (.take (.take (.nil _)))))) rfl (OpY.load1 Tone_3 rfl (Cells.own0 (.tail _ (.tail _ (List.Mem.head _))) (pre1 (by omega)))) ?_
  refine DL.takeP (i := 8) (v := .int .i64 (bits .xor .i64 (ix s.1 (t)) (ix s.1 (u)))) rfl (by kernel_rfl) (by kernel_rfl) (by kernel_rfl) (fun _ _ _ h => h) rfl (fun _ => OpY.xor rfl rfl) ?_
  refine DL.takeP (i := 9) (v := .pointer (some ⟨gr, t, none⟩)) rfl (by kernel_rfl) (by kernel_rfl) (by kernel_rfl) (fun _ _ _ h => h) rfl (fun _ => OpY.index (kk := t) Tsl_34 rfl rfl (by omega) (by omega) (by first | rfl | omega)) ?_
  refine DL.step (i := 10) (by kernel_rfl) (by kernel_rfl) rfl rfl (OpStep.storeOwnInt (o := t) (a := bits .xor .i64 (ix s.1 (t)) (ix s.1 (u))) Tsize_3 rfl rfl (.there _ (.there _ (.here _))) (by omega) ?_)
  refine DL.done (by kernel_rfl) ?_
  refine Run.region ?_
  refine Run.q (v := vg) rfl (OpQ.y (OpY.load1 Tone_46 rfl (Cells.blk (.head _) ⟨rfl, trivial⟩))) ?_
  refine Run.q (v := .int .i64 (((t : Nat) : Int))) rfl (OpQ.y (OpY.pure rfl)) ?_
  refine Run.q (v := .int .i64 (((u : Nat) : Int))) rfl (OpQ.y (OpY.pure rfl)) ?_
  refine Run.q (v := .agg #[.int .i64 9, .int .i64 (((t : Nat) : Int)), .int .i64 (((u : Nat) : Int))]) rfl (OpQ.y (OpY.build (cs := [.int .i64 9, .int .i64 (((t : Nat) : Int)), .int .i64 (((u : Nat) : Int))]) (by kernel_rfl))) ?_
  refine Run.step rfl (OpStep.buildSlice (us := [.int .i64 9, .int .i64 (((t : Nat) : Int)), .int .i64 (((u : Nat) : Int))]) Tsl_46 (by decide) (by decide) ⟨rfl, [.int .i64 9, .int .i64 (((t : Nat) : Int)), .int .i64 (((u : Nat) : Int))], _, rfl, rfl, rfl, rfl⟩ rfl fun b1 => ?_)
  refine Run.step rfl (OpStep.append (H1 := [.own (.slice (some ⟨b1, 0, none⟩) 1 1) 50 3 1 ([.int .i64 9, .int .i64 (((t : Nat) : Int)), .int .i64 (((u : Nat) : Int))]), .blk bG 46 [vg], .blk bR 34 [.slice (some ⟨gr, 0, none⟩) n cr], .own (.slice (some ⟨gr, 0, none⟩) n cr) 3 1 n (ints (s.1.set t (bits .xor .i64 (ix s.1 (t)) (ix s.1 (u)))))]) (H2 := []) (v := vg) (u := .slice (some ⟨b1, 0, none⟩) 1 1) (n := s.2.length) (m := 1) (xs := ints (flCX s.2)) (ys := [.int .i64 9, .int .i64 (((t : Nat) : Int)), .int .i64 (((u : Nat) : Int))]) Tsl_46 (by decide) rfl rfl rfl rfl (fun w hs => hs.slOwn (.head _)) (by simp [Value.oneCell']) (by omega) (by simp only [maxLen]; omega) fun av1 hnav1 => ?_)
  refine Run.weak (H' := [.own (.slice (some ⟨b1, 0, none⟩) 1 1) 50 3 1 ([.int .i64 9, .int .i64 (((t : Nat) : Int)), .int .i64 (((u : Nat) : Int))]), .blk bG 46 [vg], .blk bR 34 [.slice (some ⟨gr, 0, none⟩) n cr], .own (.slice (some ⟨gr, 0, none⟩) n cr) 3 1 n (ints (s.1.set t (bits .xor .i64 (ix s.1 (t)) (ix s.1 (u))))), .own av1 50 3 ((addR s t u).2.length) (ints (flCX (addR s t u).2))]) (Some'.weak (.take (.take (.take (.take (.takeEq (by rw [show (addR s t u).2 = s.2 ++ [(t, u)] from rfl, ← ints_flCX]; simp) (.nil _))))))) ?_ ⟨_, _, rfl, fun _ => nofun, fun _ => nofun⟩
  refine Run.formOwn (.tail _ (.tail _ (.tail _ (.tail _ (List.Mem.head _))))) (fun A_av11 c_av11 hv hcapc_av11 hmaxc_av11 => ?_) (fun _ _ _ => ⟨nofun, nofun, nofun⟩)
  subst hv
  refine Run.step rfl (OpStep.storeAll (us := [.slice A_av11 ((addR s t u).2.length) c_av11]) Tsize_46 rfl rfl rfl (.there _ (.here _)) rfl ?_)
  refine Run.done ?_
  refine Run.fin ?_
  refine ⟨.tuple #[], [.blk bG 46 [.slice A_av11 ((addR s t u).2.length) c_av11], .blk bR 34 [.slice (some ⟨gr, 0, none⟩) n cr], .own (.slice (some ⟨gr, 0, none⟩) n cr) 3 1 n (ints (addR s t u).1), .own (.slice A_av11 ((addR s t u).2.length) c_av11) 50 3 ((addR s t u).2.length) (ints (flCX (addR s t u).2))], Out.none rfl, (Some'.weak (.skip (.take (.take (.takeEq (by rfl) (.take (.nil _))))))), ?_⟩
  exact ⟨_, rfl, rfl⟩

set_option maxHeartbeats 1000000 in
set_option maxRecDepth 20000 in
theorem l20Eliminate_spec {va : Value} {n : Nat} {xs : List Int} {w : World} (hn1 : 1 ≤ n) (hn5 : n ≤ 5) (ha : Sl w va 1 n (ints xs)) : Calls Try.prog 58 #[va] w (Post No w fun v H => ∃ a b, v = .tuple #[a, b] ∧ H = [.own a 3 1 n (ints (elN n xs 40).1.1), .own b 50 3 (elN n xs 40).1.2.length (ints (flCX (elN n xs 40).1.2))]) := by
  have hxl : xs.length = n := by have := ha.len; omega
  refine enter (n := 80) (args := [va]) Try.func58 rfl rfl (St.empty _ _) ?_
  refine Run.seq ?_
  refine Run.region ?_
  refine Run.q (v := .slice none 0 0) rfl (OpQ.y (OpY.pure rfl)) ?_
  refine Run.q (v := .slice none 0 0) rfl (OpQ.y (OpY.pure rfl)) ?_
  refine Run.done ?_
  refine Run.seq ?_
  refine Run.region ?_
  refine Run.q (v := va) rfl (OpQ.y (OpY.pure rfl)) ?_
  refine Run.step rfl (OpStep.call (vs := [va]) (caps := []) Tcall_68 rfl rfl (fun w hs => l1Own_spec (by omega)  (hs.sl ha)) ?_)
  rintro uo _ rfl
  show Run _ _ (putF _ _ _ uo) [.own uo 3 1 n (ints xs)]
  refine Run.q (v := uo) rfl (OpQ.y (OpY.pure rfl)) ?_
  refine Run.done ?_
  refine Run.seq ?_
  refine Run.region ?_
  refine Run.q (v := .slice none 0 0) rfl (OpQ.y (OpY.pure rfl)) ?_
  refine Run.done ?_
  refine Run.seq ?_
  refine Run.region ?_
  refine Run.q (v := .int .i64 0) rfl (OpQ.y (OpY.pure rfl)) ?_
  refine Run.done ?_
  refine Run.seq ?_
  refine Run.seq ?_
  refine Run.region ?_
  refine Run.q (v := .int .i64 0) rfl (OpQ.y (OpY.pure rfl)) ?_
  refine Run.done ?_
  refine Run.block ?_
  refine Run.loop (ι := Nat × ((List Int × List (Nat × Nat)) × Nat) × Value × Value) ([0, 4, 5, 6, 7, 8, 11, 12, 13, 14, 15, 16, 17, 18, 19, 20, 21, 22, 23, 24, 25, 26, 27, 28, 29, 30, 31, 32, 33, 34, 35, 36, 37, 38, 39, 40, 41, 42, 43, 44, 45, 46, 47, 48, 49, 50, 51, 52, 53, 54] ++ [55, 56, 57, 58, 59, 60, 61, 62, 63, 64, 65, 66, 67, 68, 69, 70, 71, 72, 73, 74, 75, 76, 77]) (fun ⟨j, q, va, vg⟩ => [(0, va), (4, vg), (5, .int .i64 (((q.2 : Nat) : Int))), (6, .int .i64 (((j : Nat) : Int)))]) (fun ⟨j, q, va, vg⟩ => [.own va 3 1 n (ints (q.1.1)), .own vg 50 3 ((q.1.2).length) (ints (flCX (q.1.2)))]) (fun ⟨j, q, va, vg⟩ => elN n xs j = q ∧ j ≤ 40 ∧ q.2 ≤ n) (fun ⟨j, q, va, vg⟩ => 40 - j) (0, ((xs, []), 0), uo, .slice none 0 0) ?_ ?_ ?_ ?_
  · exact ⟨rfl, by omega, Nat.zero_le _⟩
  · exact ⟨rfl, rfl, rfl, rfl, trivial⟩
  · exact ((Weak.nilOwn 50 3).trans ((Weak.of_perm (List.Perm.swap _ _ _)).trans (Some'.weak (.takeEq rfl (.takeEq rfl (.nil _))))))
  · rintro ⟨j, q, va, vg⟩ fr hinv
    show Run _ _ (over _ _ [(0, va), (4, vg), (5, .int .i64 (((q.2 : Nat) : Int))), (6, .int .i64 (((j : Nat) : Int)))] fr) [.own va 3 1 n (ints (q.1.1)), .own vg 50 3 ((q.1.2).length) (ints (flCX (q.1.2)))]
    try dsimp only at hinv
    refine Run.seq ?_
    refine Run.seq ?_
    refine Run.region ?_
    refine Run.q (v := .int .i64 (((j : Nat) : Int))) rfl (OpQ.y (OpY.pure rfl)) ?_
    refine Run.q (v := .bool (decide ((((j : Nat) : Int)) < 40))) rfl (OpQ.y (OpY.pure rfl)) ?_
    refine Run.done ?_
    refine Run.cond (b := decide ((((j : Nat) : Int)) < 40)) rfl (fun h12 => ?_) (fun h12 => ?_)
    · have p12 := h12; try simp only [decide_eq_true_eq, decide_eq_false_iff_not, beq_iff_eq, bne_iff_ne, beq_eq_false_iff_ne, ne_eq, gt_iff_lt, ge_iff_le, Int.not_lt, Int.not_le, bne_eq_false_iff_eq, Bool.not_eq_true', Bool.not_eq_false', Bool.and_eq_true, Bool.and_eq_false_iff, Bool.or_eq_true, Bool.or_eq_false_iff, Decidable.not_not, List.cons.injEq, and_true] at p12
      obtain ⟨hq, hj40, hrn⟩ := hinv
      have hl := elN_len hxl hn5 j
      rw [hq] at hl
      have hj : j < 40 := by omega
      refine Run.skip ?_
      refine Run.seq ?_
      refine Run.block ?_
      refine Run.seq ?_
      refine Run.region ?_
      refine Run.q (v := .int .i64 (((q.2 : Nat) : Int))) rfl (OpQ.y (OpY.pure rfl)) ?_
      refine Run.q (v := .int .i64 (((q.2 : Nat) : Int))) rfl (OpQ.y (OpY.pure rfl)) ?_
      refine Run.done ?_
      refine Run.seq ?_
      refine Run.block ?_
      refine Run.loop (ι := Nat) [7, 16, 17, 18, 19, 20, 21, 22, 23, 24, 25, 26, 27, 28, 29, 30, 31, 32] (fun i => [(7, .int .i64 (((i : Nat) : Int)))]) (fun i => [.own va 3 1 n (ints (q.1.1)), .own vg 50 3 ((q.1.2).length) (ints (flCX (q.1.2)))]) (fun i => q.2 ≤ i ∧ i ≤ n ∧ scanR (fun i => bitI (ix q.1.1 i) j) q.2 (n - q.2) = scanR (fun i => bitI (ix q.1.1 i) j) i (n - i)) (fun i => n - i) q.2 ?_ ?_ ?_ ?_
      · exact ⟨Nat.le_refl _, hrn, rfl⟩
      · exact ⟨rfl, trivial⟩
      · exact (Some'.weak (.take (.take (.nil _))))
      · rintro i fr hinv
        show Run _ _ (over _ _ [(7, .int .i64 (((i : Nat) : Int)))] fr) [.own va 3 1 n (ints (q.1.1)), .own vg 50 3 ((q.1.2).length) (ints (flCX (q.1.2)))]
        try dsimp only at hinv
        refine Run.seq ?_
        refine Run.seq ?_
        refine Run.region ?_
        refine Run.q (v := .int .i64 (((i : Nat) : Int))) rfl (OpQ.y (OpY.pure rfl)) ?_
        refine Run.q (v := va) rfl (OpQ.y (OpY.pure rfl)) ?_
        refine Run.formOwn (.head _) (fun A_va1 c_va1 hv hcapc_va1 hmaxc_va1 => ?_) (fun _ _ _ => ⟨nofun, nofun, nofun⟩)
        subst hv
        refine Run.q (v := .int .i64 (((n : Nat) : Int))) rfl (OpQ.y (OpY.len Tsl_34 rfl)) ?_
        refine Run.q (v := .bool (decide ((((i : Nat) : Int)) < (((n : Nat) : Int))))) rfl (OpQ.y (OpY.pure rfl)) ?_
        rcases Bool.eq_false_or_eq_true (decide ((((i : Nat) : Int)) < (((n : Nat) : Int)))) with h20 | h20
        · refine Run.q (v := .bool true) rfl (OpQ.y (OpY.moveB rfl h20)) ?_
          have p20 := h20; try simp only [decide_eq_true_eq, decide_eq_false_iff_not, beq_iff_eq, bne_iff_ne, beq_eq_false_iff_ne, ne_eq, gt_iff_lt, ge_iff_le, Int.not_lt, Int.not_le, bne_eq_false_iff_eq, Bool.not_eq_true', Bool.not_eq_false', Bool.and_eq_true, Bool.and_eq_false_iff, Bool.or_eq_true, Bool.or_eq_false_iff, Decidable.not_not, List.cons.injEq, and_true] at p20
          have hin : i < n := by omega
          refine Run.openOwn (.head _) (by omega) (fun gr cgr hvgr hcapgr _ => ?_) (fun _ _ _ => ⟨nofun, nofun, nofun⟩)
          injection hvgr with hAgr _ hcgr; subst hAgr; subst hcgr
          refine Run.q (v := .slice (some ⟨gr, 0, none⟩) n c_va1) rfl (OpQ.y (OpY.pure rfl)) ?_
          refine Run.q (v := .int .i64 (((i : Nat) : Int))) rfl (OpQ.y (OpY.pure rfl)) ?_
          refine Run.q (v := .pointer (some ⟨gr, i, none⟩)) rfl (OpQ.y (OpY.index (kk := i) Tsl_34 rfl rfl (by omega) (by omega) (by first | rfl | omega))) ?_
          refine Run.q (v := .int .i64 (ix (q.1.1) (i))) rfl (OpQ.y (OpY.load1 Tone_3 rfl (Cells.own0 (.head _) (pre1 (by omega))))) ?_
          refine Run.q (v := .int .i64 (((j : Nat) : Int))) rfl (OpQ.y (OpY.pure rfl)) ?_
          refine Run.q (v := .int .u64 (((j : Nat) : Int))) rfl (OpQ.y (OpY.convIntEq Tsome_3 Tint_88 rfl (by rw [IntKind.wrap_u64]; omega))) ?_
          refine Run.q (v := .int .i64 ((ix (q.1.1) (i)) >>> j)) rfl (OpQ.y (OpY.shr rfl rfl (by first | rfl | omega) (by omega))) ?_
          refine Run.q (v := .int .i64 (((ix (q.1.1) (i)) >>> j) % 2)) rfl (OpQ.y (OpY.and1 rfl rfl)) ?_
          refine Run.q (v := .bool ((((ix (q.1.1) (i)) >>> j) % 2) == 0)) rfl (OpQ.y (OpY.pure rfl)) ?_
          refine Run.q (v := .bool ((((ix (q.1.1) (i)) >>> j) % 2) == 0)) rfl (OpQ.y (OpY.pure rfl)) ?_
          refine Run.done ?_
          refine Run.cond (b := (((ix (q.1.1) (i)) >>> j) % 2) == 0) rfl (fun h30 => ?_) (fun h30 => ?_)
          · have p30 := h30; try simp only [decide_eq_true_eq, decide_eq_false_iff_not, beq_iff_eq, bne_iff_ne, beq_eq_false_iff_ne, ne_eq, gt_iff_lt, ge_iff_le, Int.not_lt, Int.not_le, bne_eq_false_iff_eq, Bool.not_eq_true', Bool.not_eq_false', Bool.and_eq_true, Bool.and_eq_false_iff, Bool.or_eq_true, Bool.or_eq_false_iff, Decidable.not_not, List.cons.injEq, and_true] at p30
            refine Run.skip ?_
            refine Run.block ?_
            refine Run.region ?_
            refine Run.q (v := .int .i64 (((i : Nat) : Int))) rfl (OpQ.y (OpY.pure rfl)) ?_
            refine Run.q (v := .int .i64 ((((i : Nat) : Int)) + 1)) rfl (OpQ.y (OpY.add rfl rfl rfl (by omega) (by omega))) ?_
            refine Run.q (v := .int .i64 ((((i : Nat) : Int)) + 1)) rfl (OpQ.y (OpY.pure rfl)) ?_
            refine Run.done ?_
            refine Run.blockEnd ?_
            refine Run.goal ⟨(by repeat (first | exact Same.refl _ _ | refine Same.put rfl ?_ | refine Same.over rfl rfl ?_)), i + 1, ?_, ?_, ?_, ?_⟩
            · exact ⟨by omega, hin, by rw [hinv.2.2, scanR_miss (p := (fun i => bitI (ix q.1.1 i) j)) hin (bitI_false p30)]⟩
            · omega
            · exact ⟨(by first | rfl | (congr 1; omega) | simp), trivial⟩
            · exact (Some'.weak (.takeEq (by first | rfl | simp) (.takeEq (by first | rfl | simp) (.nil _))))
          · have p30 := h30; try simp only [decide_eq_true_eq, decide_eq_false_iff_not, beq_iff_eq, bne_iff_ne, beq_eq_false_iff_ne, ne_eq, gt_iff_lt, ge_iff_le, Int.not_lt, Int.not_le, bne_eq_false_iff_eq, Bool.not_eq_true', Bool.not_eq_false', Bool.and_eq_true, Bool.and_eq_false_iff, Bool.or_eq_true, Bool.or_eq_false_iff, Decidable.not_not, List.cons.injEq, and_true] at p30
            refine Run.exit rfl ?_
            refine Run.seq ?_
            refine Run.seq ?_
            refine Run.region ?_
            refine Run.q (v := .int .i64 (((i : Nat) : Int))) rfl (OpQ.y (OpY.pure rfl)) ?_
            refine Run.q (v := .slice (some ⟨gr, 0, none⟩) n c_va1) rfl (OpQ.y (OpY.pure rfl)) ?_
            refine Run.q (v := .int .i64 (((n : Nat) : Int))) rfl (OpQ.y (OpY.len Tsl_34 rfl)) ?_
            refine Run.q (v := .bool ((((i : Nat) : Int)) == (((n : Nat) : Int)))) rfl (OpQ.y (OpY.pure rfl)) ?_
            refine Run.done ?_
            refine Run.cond (b := (((i : Nat) : Int)) == (((n : Nat) : Int))) rfl (fun h36 => ?_) (fun h36 => ?_)
            · have p36 := h36; try simp only [decide_eq_true_eq, decide_eq_false_iff_not, beq_iff_eq, bne_iff_ne, beq_eq_false_iff_ne, ne_eq, gt_iff_lt, ge_iff_le, Int.not_lt, Int.not_le, bne_eq_false_iff_eq, Bool.not_eq_true', Bool.not_eq_false', Bool.and_eq_true, Bool.and_eq_false_iff, Bool.or_eq_true, Bool.or_eq_false_iff, Decidable.not_not, List.cons.injEq, and_true] at p36
              exfalso; omega --DONE
            · have p36 := h36; try simp only [decide_eq_true_eq, decide_eq_false_iff_not, beq_iff_eq, bne_iff_ne, beq_eq_false_iff_ne, ne_eq, gt_iff_lt, ge_iff_le, Int.not_lt, Int.not_le, bne_eq_false_iff_eq, Bool.not_eq_true', Bool.not_eq_false', Bool.and_eq_true, Bool.and_eq_false_iff, Bool.or_eq_true, Bool.or_eq_false_iff, Decidable.not_not, List.cons.injEq, and_true] at p36
              have hsc : scanR (fun i => bitI (ix q.1.1 i) j) q.2 (n - q.2) = i := by rw [hinv.2.2]; exact scanR_hit (p := (fun i => bitI (ix q.1.1 i) j)) hin (bitI_ne p30)
              have hsn : ¬ scanR (fun i => bitI (ix q.1.1 i) j) q.2 (n - q.2) = n := by omega
              refine Run.skip ?_
              refine Run.seq ?_
              refine Run.seq ?_
              refine Run.region ?_
              refine Run.q (v := .int .i64 (((i : Nat) : Int))) rfl (OpQ.y (OpY.pure rfl)) ?_
              refine Run.q (v := .int .i64 (((q.2 : Nat) : Int))) rfl (OpQ.y (OpY.pure rfl)) ?_
              refine Run.q (v := .bool ((((i : Nat) : Int)) != (((q.2 : Nat) : Int)))) rfl (OpQ.y (OpY.pure rfl)) ?_
              refine Run.done ?_
              refine Run.cond (b := (((i : Nat) : Int)) != (((q.2 : Nat) : Int))) rfl (fun h39 => ?_) (fun h39 => ?_)
              · have p39 := h39; try simp only [decide_eq_true_eq, decide_eq_false_iff_not, beq_iff_eq, bne_iff_ne, beq_eq_false_iff_ne, ne_eq, gt_iff_lt, ge_iff_le, Int.not_lt, Int.not_le, bne_eq_false_iff_eq, Bool.not_eq_true', Bool.not_eq_false', Bool.and_eq_true, Bool.and_eq_false_iff, Bool.or_eq_true, Bool.or_eq_false_iff, Decidable.not_not, List.cons.injEq, and_true] at p39
                have hstep : ∀ z, clrR j q.2 n (addR q.1 q.2 i) = z → elN n xs (j + 1) = (z, q.2 + 1) := by
                  intro z hz
                  rw [elN, hq, el1, if_neg hsn, hsc, if_neg (by omega), hz]
                have hsl : (addR q.1 q.2 i).1.length = n ∧ (addR q.1 q.2 i).2.length = q.1.2.length + 1 := by simp [addR, hl.1]
                refine Run.region ?_
                refine Run.q (v := .slice (some ⟨gr, 0, none⟩) n c_va1) rfl (OpQ.y (OpY.pure rfl)) ?_
                refine Run.q (v := vg) rfl (OpQ.y (OpY.pure rfl)) ?_
                refine Run.q (v := .int .i64 (((q.2 : Nat) : Int))) rfl (OpQ.y (OpY.pure rfl)) ?_
                refine Run.q (v := .int .i64 (((i : Nat) : Int))) rfl (OpQ.y (OpY.pure rfl)) ?_
                refine Run.step rfl (OpStep.callM (H1 := [.own (.slice (some ⟨gr, 0, none⟩) n c_va1) 3 1 n (ints (q.1.1)), .own vg 50 3 ((q.1.2).length) (ints (flCX (q.1.2)))]) (H2 := []) (vs := [.slice (some ⟨gr, 0, none⟩) n c_va1, vg, .int .i64 (((q.2 : Nat) : Int)), .int .i64 (((i : Nat) : Int))]) (caps := []) Tcall_77 rfl rfl ((Weak.front [.own (.slice (some ⟨gr, 0, none⟩) n c_va1) 3 1 n (ints (q.1.1))] (.own vg 50 3 ((q.1.2).length) (ints (flCX (q.1.2)))) []).trans (Weak.front [.own vg 50 3 ((q.1.2).length) (ints (flCX (q.1.2)))] (.own (.slice (some ⟨gr, 0, none⟩) n c_va1) 3 1 n (ints (q.1.1))) [])) (fun w hs => l20Add_spec (s := q.1) (by omega) (by omega) (by omega) (by omega) (by omega) (hs.sub (List.sublist_append_left _ _)).self) ?_)
                rintro _ _ ⟨ra1, rb1, rfl, rfl⟩
                show Run _ _ (putF _ _ _ (.tuple #[ra1, rb1])) [.own ra1 3 1 n (ints ((addR q.1 q.2 i).1)), .own rb1 50 3 (((addR q.1 q.2 i).2).length) (ints (flCX ((addR q.1 q.2 i).2)))]
                refine Run.q (v := .tuple #[ra1, rb1]) rfl (OpQ.y (OpY.pure rfl)) ?_
                refine Run.q (v := ra1) rfl (OpQ.y (OpY.pure rfl)) ?_
                refine Run.q (v := rb1) rfl (OpQ.y (OpY.pure rfl)) ?_
                refine Run.q (v := ra1) rfl (OpQ.y (OpY.pure rfl)) ?_
                refine Run.q (v := rb1) rfl (OpQ.y (OpY.pure rfl)) ?_
                refine Run.done ?_
                refine Run.seq ?_
                refine Run.seq ?_
                refine Run.region ?_
                refine Run.q (v := ra1) rfl (OpQ.y (OpY.pure rfl)) ?_
                refine Run.formOwn (.head _) (fun A_ra11 c_ra11 hv hcapc_ra11 hmaxc_ra11 => ?_) (fun _ _ _ => ⟨nofun, nofun, nofun⟩)
                subst hv
                refine Run.q (v := .int .i64 (((n : Nat) : Int))) rfl (OpQ.y (OpY.len Tsl_34 rfl)) ?_
                refine Run.q (v := .int .i64 0) rfl (OpQ.y (OpY.pure rfl)) ?_
                refine Run.done ?_
                refine Run.block ?_
                refine Run.loop (ι := Nat × Value × Value) [0, 4, 8, 50, 51, 52, 53, 54, 55, 56, 57, 58, 59, 60, 61, 62, 63, 64, 65, 66, 67, 68, 69, 70, 71, 72, 73, 74, 75] (fun ⟨k, v1, v2⟩ => [(0, v1), (4, v2), (50, .int .i64 (((k : Nat) : Int)))]) (fun ⟨k, v1, v2⟩ => [.own v1 3 1 n (ints ((clrR j q.2 k (addR q.1 q.2 i)).1)), .own v2 50 3 (((clrR j q.2 k (addR q.1 q.2 i)).2).length) (ints (flCX ((clrR j q.2 k (addR q.1 q.2 i)).2)))]) (fun ⟨k, v1, v2⟩ => k ≤ n) (fun ⟨k, v1, v2⟩ => n - k) (0, .slice A_ra11 n c_ra11, rb1) ?_ ?_ ?_ ?_
                · exact Nat.zero_le _
                · exact ⟨rfl, rfl, rfl, trivial⟩
                · exact (Some'.weak (.takeEq rfl (.takeEq rfl (.nil _))))
                · rintro ⟨k, v1, v2⟩ fr hinv
                  show Run _ _ (over _ _ [(0, v1), (4, v2), (50, .int .i64 (((k : Nat) : Int)))] fr) [.own v1 3 1 n (ints ((clrR j q.2 k (addR q.1 q.2 i)).1)), .own v2 50 3 (((clrR j q.2 k (addR q.1 q.2 i)).2).length) (ints (flCX ((clrR j q.2 k (addR q.1 q.2 i)).2)))]
                  try dsimp only at hinv
                  refine Run.seq ?_
                  refine Run.region ?_
                  refine Run.q (v := .bool (decide ((((k : Nat) : Int)) < (((n : Nat) : Int))))) rfl (OpQ.y (OpY.pure rfl)) ?_
                  refine Run.done ?_
                  refine Run.seq ?_
                  refine Run.cond (b := decide ((((k : Nat) : Int)) < (((n : Nat) : Int)))) rfl (fun h51 => ?_) (fun h51 => ?_)
                  · have p51 := h51; try simp only [decide_eq_true_eq, decide_eq_false_iff_not, beq_iff_eq, bne_iff_ne, beq_eq_false_iff_ne, ne_eq, gt_iff_lt, ge_iff_le, Int.not_lt, Int.not_le, bne_eq_false_iff_eq, Bool.not_eq_true', Bool.not_eq_false', Bool.and_eq_true, Bool.and_eq_false_iff, Bool.or_eq_true, Bool.or_eq_false_iff, Decidable.not_not, List.cons.injEq, and_true] at p51
                    have hkn : k < n := by omega
                    have hcl := clrR_len j q.2 (addR q.1 q.2 i) k
                    refine Run.skip ?_
                    refine Run.seq ?_
                    refine Run.block ?_
                    refine Run.seq ?_
                    refine Run.region ?_
                    refine Run.q (v := .int .i64 (((k : Nat) : Int))) rfl (OpQ.y (OpY.pure rfl)) ?_
                    refine Run.q (v := .int .i64 (((k : Nat) : Int))) rfl (OpQ.y (OpY.pure rfl)) ?_
                    refine Run.done ?_
                    refine Run.seq ?_
                    refine Run.region ?_
                    refine Run.q (v := .int .i64 (((k : Nat) : Int))) rfl (OpQ.y (OpY.pure rfl)) ?_
                    refine Run.q (v := .int .i64 (((q.2 : Nat) : Int))) rfl (OpQ.y (OpY.pure rfl)) ?_
                    refine Run.q (v := .bool ((((k : Nat) : Int)) != (((q.2 : Nat) : Int)))) rfl (OpQ.y (OpY.pure rfl)) ?_
                    rcases Bool.eq_false_or_eq_true ((((k : Nat) : Int)) != (((q.2 : Nat) : Int))) with h56 | h56
                    · refine Run.q (v := .bool true) rfl (OpQ.y (OpY.moveB rfl h56)) ?_
                      have p56 := h56; try simp only [decide_eq_true_eq, decide_eq_false_iff_not, beq_iff_eq, bne_iff_ne, beq_eq_false_iff_ne, ne_eq, gt_iff_lt, ge_iff_le, Int.not_lt, Int.not_le, bne_eq_false_iff_eq, Bool.not_eq_true', Bool.not_eq_false', Bool.and_eq_true, Bool.and_eq_false_iff, Bool.or_eq_true, Bool.or_eq_false_iff, Decidable.not_not, List.cons.injEq, and_true] at p56
                      refine Run.openOwn (.head _) (by omega) (fun gr cgr hvgr hcapgr _ => ?_) (fun _ _ _ => ⟨nofun, nofun, nofun⟩)
                      subst hvgr
                      refine Run.q (v := .slice (some ⟨gr, 0, none⟩) n cgr) rfl (OpQ.y (OpY.pure rfl)) ?_
                      refine Run.q (v := .int .i64 (((k : Nat) : Int))) rfl (OpQ.y (OpY.pure rfl)) ?_
                      refine Run.q (v := .pointer (some ⟨gr, k, none⟩)) rfl (OpQ.y (OpY.index (kk := k) Tsl_34 rfl rfl (by omega) (by omega) (by first | rfl | omega))) ?_
                      refine Run.q (v := .int .i64 (ix ((clrR j q.2 k (addR q.1 q.2 i)).1) (k))) rfl (OpQ.y (OpY.load1 Tone_3 rfl (Cells.own0 (.head _) (pre1 (by omega))))) ?_
                      refine Run.q (v := .int .i64 (((j : Nat) : Int))) rfl (OpQ.y (OpY.pure rfl)) ?_
                      refine Run.q (v := .int .u64 (((j : Nat) : Int))) rfl (OpQ.y (OpY.convIntEq Tsome_3 Tint_88 rfl (by rw [IntKind.wrap_u64]; omega))) ?_
                      refine Run.q (v := .int .i64 ((ix ((clrR j q.2 k (addR q.1 q.2 i)).1) (k)) >>> j)) rfl (OpQ.y (OpY.shr rfl rfl (by first | rfl | omega) (by omega))) ?_
                      refine Run.q (v := .int .i64 (((ix ((clrR j q.2 k (addR q.1 q.2 i)).1) (k)) >>> j) % 2)) rfl (OpQ.y (OpY.and1 rfl rfl)) ?_
                      refine Run.q (v := .bool ((((ix ((clrR j q.2 k (addR q.1 q.2 i)).1) (k)) >>> j) % 2) == 1)) rfl (OpQ.y (OpY.pure rfl)) ?_
                      refine Run.q (v := .bool ((((ix ((clrR j q.2 k (addR q.1 q.2 i)).1) (k)) >>> j) % 2) == 1)) rfl (OpQ.y (OpY.pure rfl)) ?_
                      refine Run.done ?_
                      refine Run.cond (b := (((ix ((clrR j q.2 k (addR q.1 q.2 i)).1) (k)) >>> j) % 2) == 1) rfl (fun h66 => ?_) (fun h66 => ?_)
                      · have p66 := h66; try simp only [decide_eq_true_eq, decide_eq_false_iff_not, beq_iff_eq, bne_iff_ne, beq_eq_false_iff_ne, ne_eq, gt_iff_lt, ge_iff_le, Int.not_lt, Int.not_le, bne_eq_false_iff_eq, Bool.not_eq_true', Bool.not_eq_false', Bool.and_eq_true, Bool.and_eq_false_iff, Bool.or_eq_true, Bool.or_eq_false_iff, Decidable.not_not, List.cons.injEq, and_true] at p66
                        refine Run.region ?_
                        refine Run.q (v := .slice (some ⟨gr, 0, none⟩) n cgr) rfl (OpQ.y (OpY.pure rfl)) ?_
                        refine Run.q (v := v2) rfl (OpQ.y (OpY.pure rfl)) ?_
                        refine Run.q (v := .int .i64 (((k : Nat) : Int))) rfl (OpQ.y (OpY.pure rfl)) ?_
                        refine Run.q (v := .int .i64 (((q.2 : Nat) : Int))) rfl (OpQ.y (OpY.pure rfl)) ?_
                        refine Run.step rfl (OpStep.callM (H1 := [.own (.slice (some ⟨gr, 0, none⟩) n cgr) 3 1 n (ints ((clrR j q.2 k (addR q.1 q.2 i)).1)), .own v2 50 3 (((clrR j q.2 k (addR q.1 q.2 i)).2).length) (ints (flCX ((clrR j q.2 k (addR q.1 q.2 i)).2)))]) (H2 := []) (vs := [.slice (some ⟨gr, 0, none⟩) n cgr, v2, .int .i64 (((k : Nat) : Int)), .int .i64 (((q.2 : Nat) : Int))]) (caps := []) Tcall_77 rfl rfl ((Weak.front [.own (.slice (some ⟨gr, 0, none⟩) n cgr) 3 1 n (ints ((clrR j q.2 k (addR q.1 q.2 i)).1))] (.own v2 50 3 (((clrR j q.2 k (addR q.1 q.2 i)).2).length) (ints (flCX ((clrR j q.2 k (addR q.1 q.2 i)).2)))) []).trans (Weak.front [.own v2 50 3 (((clrR j q.2 k (addR q.1 q.2 i)).2).length) (ints (flCX ((clrR j q.2 k (addR q.1 q.2 i)).2)))] (.own (.slice (some ⟨gr, 0, none⟩) n cgr) 3 1 n (ints ((clrR j q.2 k (addR q.1 q.2 i)).1))) [])) (fun w hs => l20Add_spec (s := (clrR j q.2 k (addR q.1 q.2 i))) (by omega) (by omega) (by omega) (by omega) (by omega) (hs.sub (List.sublist_append_left _ _)).self) ?_)
                        rintro _ _ ⟨ra2, rb2, rfl, rfl⟩
                        show Run _ _ (putF _ _ _ (.tuple #[ra2, rb2])) [.own ra2 3 1 n (ints ((addR (clrR j q.2 k (addR q.1 q.2 i)) k q.2).1)), .own rb2 50 3 (((addR (clrR j q.2 k (addR q.1 q.2 i)) k q.2).2).length) (ints (flCX ((addR (clrR j q.2 k (addR q.1 q.2 i)) k q.2).2)))]
                        refine Run.q (v := .tuple #[ra2, rb2]) rfl (OpQ.y (OpY.pure rfl)) ?_
                        refine Run.q (v := ra2) rfl (OpQ.y (OpY.pure rfl)) ?_
                        refine Run.q (v := rb2) rfl (OpQ.y (OpY.pure rfl)) ?_
                        refine Run.q (v := ra2) rfl (OpQ.y (OpY.pure rfl)) ?_
                        refine Run.q (v := rb2) rfl (OpQ.y (OpY.pure rfl)) ?_
                        refine Run.done ?_
                        refine Run.blockEnd ?_
                        refine Run.region ?_
                        refine Run.q (v := .int .i64 ((((k : Nat) : Int)) + 1)) rfl (OpQ.y (OpY.add rfl rfl rfl (by omega) (by omega))) ?_
                        refine Run.q (v := .int .i64 ((((k : Nat) : Int)) + 1)) rfl (OpQ.y (OpY.pure rfl)) ?_
                        refine Run.done ?_
                        have hX : clrR j q.2 (k + 1) (addR q.1 q.2 i) = addR (clrR j q.2 k (addR q.1 q.2 i)) k q.2 := by rw [clrR, if_pos ⟨by omega, bitI_true p66⟩]
                        refine Run.goal ⟨(by repeat (first | exact Same.refl _ _ | refine Same.put rfl ?_ | refine Same.over rfl rfl ?_)), (k + 1, ra2, rb2), ?_, ?_, ?_, ?_⟩
                        · show k + 1 ≤ n; omega
                        · show n - (k + 1) < n - k; omega
                        · exact ⟨(by first | rfl | (congr 1; omega) | simp), (by first | rfl | (congr 1; omega) | simp), (by first | rfl | (congr 1; omega) | simp), trivial⟩
                        · exact (Some'.weak (.takeEq (by first | rw [hX] | rfl) (.takeEq (by first | rw [hX] | rfl) (.nil _))))
                      · have p66 := h66; try simp only [decide_eq_true_eq, decide_eq_false_iff_not, beq_iff_eq, bne_iff_ne, beq_eq_false_iff_ne, ne_eq, gt_iff_lt, ge_iff_le, Int.not_lt, Int.not_le, bne_eq_false_iff_eq, Bool.not_eq_true', Bool.not_eq_false', Bool.and_eq_true, Bool.and_eq_false_iff, Bool.or_eq_true, Bool.or_eq_false_iff, Decidable.not_not, List.cons.injEq, and_true] at p66
                        refine Run.skip ?_
                        refine Run.blockEnd ?_
                        refine Run.region ?_
                        refine Run.q (v := .int .i64 ((((k : Nat) : Int)) + 1)) rfl (OpQ.y (OpY.add rfl rfl rfl (by omega) (by omega))) ?_
                        refine Run.q (v := .int .i64 ((((k : Nat) : Int)) + 1)) rfl (OpQ.y (OpY.pure rfl)) ?_
                        refine Run.done ?_
                        have hX : clrR j q.2 (k + 1) (addR q.1 q.2 i) = clrR j q.2 k (addR q.1 q.2 i) := by rw [clrR, if_neg (fun h => by rw [bitI_ne1 p66] at h; exact absurd h.2 (by decide))]
                        refine Run.goal ⟨(by repeat (first | exact Same.refl _ _ | refine Same.put rfl ?_ | refine Same.over rfl rfl ?_)), (k + 1, .slice (some ⟨gr, 0, none⟩) n cgr, v2), ?_, ?_, ?_, ?_⟩
                        · show k + 1 ≤ n; omega
                        · show n - (k + 1) < n - k; omega
                        · exact ⟨(by first | rfl | (congr 1; omega) | simp), (by first | rfl | (congr 1; omega) | simp), (by first | rfl | (congr 1; omega) | simp), trivial⟩
                        · exact (Some'.weak (.takeEq (by first | rw [hX] | rfl) (.takeEq (by first | rw [hX] | rfl) (.nil _))))
                    · refine Run.q (v := .bool false) rfl (OpQ.y (OpY.moveB rfl h56)) ?_
                      have p56 := h56; try simp only [decide_eq_true_eq, decide_eq_false_iff_not, beq_iff_eq, bne_iff_ne, beq_eq_false_iff_ne, ne_eq, gt_iff_lt, ge_iff_le, Int.not_lt, Int.not_le, bne_eq_false_iff_eq, Bool.not_eq_true', Bool.not_eq_false', Bool.and_eq_true, Bool.and_eq_false_iff, Bool.or_eq_true, Bool.or_eq_false_iff, Decidable.not_not, List.cons.injEq, and_true] at p56
                      refine Run.pass rfl ?_
                      refine Run.pass rfl ?_
                      refine Run.pass rfl ?_
                      refine Run.pass rfl ?_
                      refine Run.pass rfl ?_
                      refine Run.pass rfl ?_
                      refine Run.pass rfl ?_
                      refine Run.pass rfl ?_
                      refine Run.pass rfl ?_
                      refine Run.q (v := .bool false) rfl (OpQ.y (OpY.pure rfl)) ?_
                      refine Run.done ?_
                      refine Run.cond (b := false) rfl (fun h => nomatch h) (fun _ => ?_)
                      refine Run.skip ?_
                      refine Run.blockEnd ?_
                      refine Run.region ?_
                      refine Run.q (v := .int .i64 ((((k : Nat) : Int)) + 1)) rfl (OpQ.y (OpY.add rfl rfl rfl (by omega) (by omega))) ?_
                      refine Run.q (v := .int .i64 ((((k : Nat) : Int)) + 1)) rfl (OpQ.y (OpY.pure rfl)) ?_
                      refine Run.done ?_
                      have hX : clrR j q.2 (k + 1) (addR q.1 q.2 i) = clrR j q.2 k (addR q.1 q.2 i) := by rw [clrR, if_neg (fun h => h.1 (by omega))]
                      refine Run.goal ⟨(by repeat (first | exact Same.refl _ _ | refine Same.put rfl ?_ | refine Same.over rfl rfl ?_)), (k + 1, v1, v2), ?_, ?_, ?_, ?_⟩
                      · show k + 1 ≤ n; omega
                      · show n - (k + 1) < n - k; omega
                      · exact ⟨(by first | rfl | (congr 1; omega) | simp), (by first | rfl | (congr 1; omega) | simp), (by first | rfl | (congr 1; omega) | simp), trivial⟩
                      · exact (Some'.weak (.takeEq (by first | rw [hX] | rfl) (.takeEq (by first | rw [hX] | rfl) (.nil _))))
                  · have p51 := h51; try simp only [decide_eq_true_eq, decide_eq_false_iff_not, beq_iff_eq, bne_iff_ne, beq_eq_false_iff_ne, ne_eq, gt_iff_lt, ge_iff_le, Int.not_lt, Int.not_le, bne_eq_false_iff_eq, Bool.not_eq_true', Bool.not_eq_false', Bool.and_eq_true, Bool.and_eq_false_iff, Bool.or_eq_true, Bool.or_eq_false_iff, Decidable.not_not, List.cons.injEq, and_true] at p51
                    have hkn : k = n := by omega
                    have hst2 := hstep (clrR j q.2 k (addR q.1 q.2 i)) (by rw [hkn])
                    refine Run.exit rfl ?_
                    refine Run.region ?_
                    refine Run.q (v := .int .i64 (((q.2 : Nat) : Int))) rfl (OpQ.y (OpY.pure rfl)) ?_
                    refine Run.q (v := .int .i64 ((((q.2 : Nat) : Int)) + 1)) rfl (OpQ.y (OpY.add rfl rfl rfl (by omega) (by omega))) ?_
                    refine Run.q (v := .int .i64 ((((q.2 : Nat) : Int)) + 1)) rfl (OpQ.y (OpY.pure rfl)) ?_
                    refine Run.done ?_
                    refine Run.blockEnd ?_
                    refine Run.region ?_
                    refine Run.q (v := .int .i64 (((j : Nat) : Int))) rfl (OpQ.y (OpY.pure rfl)) ?_
                    refine Run.q (v := .int .i64 ((((j : Nat) : Int)) + 1)) rfl (OpQ.y (OpY.add rfl rfl rfl (by omega) (by omega))) ?_
                    refine Run.q (v := .int .i64 ((((j : Nat) : Int)) + 1)) rfl (OpQ.y (OpY.pure rfl)) ?_
                    refine Run.done ?_
                    refine Run.goal ⟨(by repeat (first | exact Same.refl _ _ | refine Same.put rfl ?_ | refine Same.over rfl rfl ?_)), (j + 1, (clrR j q.2 k (addR q.1 q.2 i), q.2 + 1), v1, v2), ?_, ?_, ?_, ?_⟩
                    · first | exact ⟨hstep, by omega, by omega⟩ | exact ⟨hst2, by omega, by show q.2 + 1 ≤ n; omega⟩
                    · show 40 - (j + 1) < 40 - j; omega
                    · exact ⟨(by first | rfl | (congr 1; omega) | simp), (by first | rfl | (congr 1; omega) | simp), (by first | rfl | (congr 1; omega) | simp), (by first | rfl | (congr 1; omega) | simp), trivial⟩
                    · exact (Some'.weak (.takeEq (by rfl) (.takeEq (by rfl) (.nil _))))
              · have p39 := h39; try simp only [decide_eq_true_eq, decide_eq_false_iff_not, beq_iff_eq, bne_iff_ne, beq_eq_false_iff_ne, ne_eq, gt_iff_lt, ge_iff_le, Int.not_lt, Int.not_le, bne_eq_false_iff_eq, Bool.not_eq_true', Bool.not_eq_false', Bool.and_eq_true, Bool.and_eq_false_iff, Bool.or_eq_true, Bool.or_eq_false_iff, Decidable.not_not, List.cons.injEq, and_true] at p39
                have hstep : ∀ z, clrR j q.2 n q.1 = z → elN n xs (j + 1) = (z, q.2 + 1) := by
                  intro z hz
                  rw [elN, hq, el1, if_neg hsn, hsc, if_pos (by omega), hz]
                have hsl : q.1.1.length = n ∧ q.1.2.length ≤ q.1.2.length + 1 := ⟨hl.1, by omega⟩
                refine Run.skip ?_
                refine Run.seq ?_
                refine Run.seq ?_
                refine Run.region ?_
                refine Run.q (v := .slice (some ⟨gr, 0, none⟩) n c_va1) rfl (OpQ.y (OpY.pure rfl)) ?_
                refine Run.q (v := .int .i64 (((n : Nat) : Int))) rfl (OpQ.y (OpY.len Tsl_34 rfl)) ?_
                refine Run.q (v := .int .i64 0) rfl (OpQ.y (OpY.pure rfl)) ?_
                refine Run.done ?_
                refine Run.block ?_
                refine Run.loop (ι := Nat × Value × Value) [0, 4, 8, 50, 51, 52, 53, 54, 55, 56, 57, 58, 59, 60, 61, 62, 63, 64, 65, 66, 67, 68, 69, 70, 71, 72, 73, 74, 75] (fun ⟨k, v1, v2⟩ => [(0, v1), (4, v2), (50, .int .i64 (((k : Nat) : Int)))]) (fun ⟨k, v1, v2⟩ => [.own v1 3 1 n (ints ((clrR j q.2 k q.1).1)), .own v2 50 3 (((clrR j q.2 k q.1).2).length) (ints (flCX ((clrR j q.2 k q.1).2)))]) (fun ⟨k, v1, v2⟩ => k ≤ n) (fun ⟨k, v1, v2⟩ => n - k) (0, .slice (some ⟨gr, 0, none⟩) n c_va1, vg) ?_ ?_ ?_ ?_
                · exact Nat.zero_le _
                · exact ⟨rfl, rfl, rfl, trivial⟩
                · exact (Some'.weak (.takeEq rfl (.takeEq rfl (.nil _))))
                · rintro ⟨k, v1, v2⟩ fr hinv
                  show Run _ _ (over _ _ [(0, v1), (4, v2), (50, .int .i64 (((k : Nat) : Int)))] fr) [.own v1 3 1 n (ints ((clrR j q.2 k q.1).1)), .own v2 50 3 (((clrR j q.2 k q.1).2).length) (ints (flCX ((clrR j q.2 k q.1).2)))]
                  try dsimp only at hinv
                  refine Run.seq ?_
                  refine Run.region ?_
                  refine Run.q (v := .bool (decide ((((k : Nat) : Int)) < (((n : Nat) : Int))))) rfl (OpQ.y (OpY.pure rfl)) ?_
                  refine Run.done ?_
                  refine Run.seq ?_
                  refine Run.cond (b := decide ((((k : Nat) : Int)) < (((n : Nat) : Int)))) rfl (fun h51 => ?_) (fun h51 => ?_)
                  · have p51 := h51; try simp only [decide_eq_true_eq, decide_eq_false_iff_not, beq_iff_eq, bne_iff_ne, beq_eq_false_iff_ne, ne_eq, gt_iff_lt, ge_iff_le, Int.not_lt, Int.not_le, bne_eq_false_iff_eq, Bool.not_eq_true', Bool.not_eq_false', Bool.and_eq_true, Bool.and_eq_false_iff, Bool.or_eq_true, Bool.or_eq_false_iff, Decidable.not_not, List.cons.injEq, and_true] at p51
                    have hkn : k < n := by omega
                    have hcl := clrR_len j q.2 q.1 k
                    refine Run.skip ?_
                    refine Run.seq ?_
                    refine Run.block ?_
                    refine Run.seq ?_
                    refine Run.region ?_
                    refine Run.q (v := .int .i64 (((k : Nat) : Int))) rfl (OpQ.y (OpY.pure rfl)) ?_
                    refine Run.q (v := .int .i64 (((k : Nat) : Int))) rfl (OpQ.y (OpY.pure rfl)) ?_
                    refine Run.done ?_
                    refine Run.seq ?_
                    refine Run.region ?_
                    refine Run.q (v := .int .i64 (((k : Nat) : Int))) rfl (OpQ.y (OpY.pure rfl)) ?_
                    refine Run.q (v := .int .i64 (((q.2 : Nat) : Int))) rfl (OpQ.y (OpY.pure rfl)) ?_
                    refine Run.q (v := .bool ((((k : Nat) : Int)) != (((q.2 : Nat) : Int)))) rfl (OpQ.y (OpY.pure rfl)) ?_
                    rcases Bool.eq_false_or_eq_true ((((k : Nat) : Int)) != (((q.2 : Nat) : Int))) with h56 | h56
                    · refine Run.q (v := .bool true) rfl (OpQ.y (OpY.moveB rfl h56)) ?_
                      have p56 := h56; try simp only [decide_eq_true_eq, decide_eq_false_iff_not, beq_iff_eq, bne_iff_ne, beq_eq_false_iff_ne, ne_eq, gt_iff_lt, ge_iff_le, Int.not_lt, Int.not_le, bne_eq_false_iff_eq, Bool.not_eq_true', Bool.not_eq_false', Bool.and_eq_true, Bool.and_eq_false_iff, Bool.or_eq_true, Bool.or_eq_false_iff, Decidable.not_not, List.cons.injEq, and_true] at p56
                      refine Run.openOwn (.head _) (by omega) (fun gr cgr hvgr hcapgr _ => ?_) (fun _ _ _ => ⟨nofun, nofun, nofun⟩)
                      subst hvgr
                      refine Run.q (v := .slice (some ⟨gr, 0, none⟩) n cgr) rfl (OpQ.y (OpY.pure rfl)) ?_
                      refine Run.q (v := .int .i64 (((k : Nat) : Int))) rfl (OpQ.y (OpY.pure rfl)) ?_
                      refine Run.q (v := .pointer (some ⟨gr, k, none⟩)) rfl (OpQ.y (OpY.index (kk := k) Tsl_34 rfl rfl (by omega) (by omega) (by first | rfl | omega))) ?_
                      refine Run.q (v := .int .i64 (ix ((clrR j q.2 k q.1).1) (k))) rfl (OpQ.y (OpY.load1 Tone_3 rfl (Cells.own0 (.head _) (pre1 (by omega))))) ?_
                      refine Run.q (v := .int .i64 (((j : Nat) : Int))) rfl (OpQ.y (OpY.pure rfl)) ?_
                      refine Run.q (v := .int .u64 (((j : Nat) : Int))) rfl (OpQ.y (OpY.convIntEq Tsome_3 Tint_88 rfl (by rw [IntKind.wrap_u64]; omega))) ?_
                      refine Run.q (v := .int .i64 ((ix ((clrR j q.2 k q.1).1) (k)) >>> j)) rfl (OpQ.y (OpY.shr rfl rfl (by first | rfl | omega) (by omega))) ?_
                      refine Run.q (v := .int .i64 (((ix ((clrR j q.2 k q.1).1) (k)) >>> j) % 2)) rfl (OpQ.y (OpY.and1 rfl rfl)) ?_
                      refine Run.q (v := .bool ((((ix ((clrR j q.2 k q.1).1) (k)) >>> j) % 2) == 1)) rfl (OpQ.y (OpY.pure rfl)) ?_
                      refine Run.q (v := .bool ((((ix ((clrR j q.2 k q.1).1) (k)) >>> j) % 2) == 1)) rfl (OpQ.y (OpY.pure rfl)) ?_
                      refine Run.done ?_
                      refine Run.cond (b := (((ix ((clrR j q.2 k q.1).1) (k)) >>> j) % 2) == 1) rfl (fun h66 => ?_) (fun h66 => ?_)
                      · have p66 := h66; try simp only [decide_eq_true_eq, decide_eq_false_iff_not, beq_iff_eq, bne_iff_ne, beq_eq_false_iff_ne, ne_eq, gt_iff_lt, ge_iff_le, Int.not_lt, Int.not_le, bne_eq_false_iff_eq, Bool.not_eq_true', Bool.not_eq_false', Bool.and_eq_true, Bool.and_eq_false_iff, Bool.or_eq_true, Bool.or_eq_false_iff, Decidable.not_not, List.cons.injEq, and_true] at p66
                        refine Run.region ?_
                        refine Run.q (v := .slice (some ⟨gr, 0, none⟩) n cgr) rfl (OpQ.y (OpY.pure rfl)) ?_
                        refine Run.q (v := v2) rfl (OpQ.y (OpY.pure rfl)) ?_
                        refine Run.q (v := .int .i64 (((k : Nat) : Int))) rfl (OpQ.y (OpY.pure rfl)) ?_
                        refine Run.q (v := .int .i64 (((q.2 : Nat) : Int))) rfl (OpQ.y (OpY.pure rfl)) ?_
                        refine Run.step rfl (OpStep.callM (H1 := [.own (.slice (some ⟨gr, 0, none⟩) n cgr) 3 1 n (ints ((clrR j q.2 k q.1).1)), .own v2 50 3 (((clrR j q.2 k q.1).2).length) (ints (flCX ((clrR j q.2 k q.1).2)))]) (H2 := []) (vs := [.slice (some ⟨gr, 0, none⟩) n cgr, v2, .int .i64 (((k : Nat) : Int)), .int .i64 (((q.2 : Nat) : Int))]) (caps := []) Tcall_77 rfl rfl ((Weak.front [.own (.slice (some ⟨gr, 0, none⟩) n cgr) 3 1 n (ints ((clrR j q.2 k q.1).1))] (.own v2 50 3 (((clrR j q.2 k q.1).2).length) (ints (flCX ((clrR j q.2 k q.1).2)))) []).trans (Weak.front [.own v2 50 3 (((clrR j q.2 k q.1).2).length) (ints (flCX ((clrR j q.2 k q.1).2)))] (.own (.slice (some ⟨gr, 0, none⟩) n cgr) 3 1 n (ints ((clrR j q.2 k q.1).1))) [])) (fun w hs => l20Add_spec (s := (clrR j q.2 k q.1)) (by omega) (by omega) (by omega) (by omega) (by omega) (hs.sub (List.sublist_append_left _ _)).self) ?_)
                        rintro _ _ ⟨ra3, rb3, rfl, rfl⟩
                        show Run _ _ (putF _ _ _ (.tuple #[ra3, rb3])) [.own ra3 3 1 n (ints ((addR (clrR j q.2 k q.1) k q.2).1)), .own rb3 50 3 (((addR (clrR j q.2 k q.1) k q.2).2).length) (ints (flCX ((addR (clrR j q.2 k q.1) k q.2).2)))]
                        refine Run.q (v := .tuple #[ra3, rb3]) rfl (OpQ.y (OpY.pure rfl)) ?_
                        refine Run.q (v := ra3) rfl (OpQ.y (OpY.pure rfl)) ?_
                        refine Run.q (v := rb3) rfl (OpQ.y (OpY.pure rfl)) ?_
                        refine Run.q (v := ra3) rfl (OpQ.y (OpY.pure rfl)) ?_
                        refine Run.q (v := rb3) rfl (OpQ.y (OpY.pure rfl)) ?_
                        refine Run.done ?_
                        refine Run.blockEnd ?_
                        refine Run.region ?_
                        refine Run.q (v := .int .i64 ((((k : Nat) : Int)) + 1)) rfl (OpQ.y (OpY.add rfl rfl rfl (by omega) (by omega))) ?_
                        refine Run.q (v := .int .i64 ((((k : Nat) : Int)) + 1)) rfl (OpQ.y (OpY.pure rfl)) ?_
                        refine Run.done ?_
                        have hX : clrR j q.2 (k + 1) q.1 = addR (clrR j q.2 k q.1) k q.2 := by rw [clrR, if_pos ⟨by omega, bitI_true p66⟩]
                        refine Run.goal ⟨(by repeat (first | exact Same.refl _ _ | refine Same.put rfl ?_ | refine Same.over rfl rfl ?_)), (k + 1, ra3, rb3), ?_, ?_, ?_, ?_⟩
                        · show k + 1 ≤ n; omega
                        · show n - (k + 1) < n - k; omega
                        · exact ⟨(by first | rfl | (congr 1; omega) | simp), (by first | rfl | (congr 1; omega) | simp), (by first | rfl | (congr 1; omega) | simp), trivial⟩
                        · exact (Some'.weak (.takeEq (by first | rw [hX] | rfl) (.takeEq (by first | rw [hX] | rfl) (.nil _))))
                      · have p66 := h66; try simp only [decide_eq_true_eq, decide_eq_false_iff_not, beq_iff_eq, bne_iff_ne, beq_eq_false_iff_ne, ne_eq, gt_iff_lt, ge_iff_le, Int.not_lt, Int.not_le, bne_eq_false_iff_eq, Bool.not_eq_true', Bool.not_eq_false', Bool.and_eq_true, Bool.and_eq_false_iff, Bool.or_eq_true, Bool.or_eq_false_iff, Decidable.not_not, List.cons.injEq, and_true] at p66
                        refine Run.skip ?_
                        refine Run.blockEnd ?_
                        refine Run.region ?_
                        refine Run.q (v := .int .i64 ((((k : Nat) : Int)) + 1)) rfl (OpQ.y (OpY.add rfl rfl rfl (by omega) (by omega))) ?_
                        refine Run.q (v := .int .i64 ((((k : Nat) : Int)) + 1)) rfl (OpQ.y (OpY.pure rfl)) ?_
                        refine Run.done ?_
                        have hX : clrR j q.2 (k + 1) q.1 = clrR j q.2 k q.1 := by rw [clrR, if_neg (fun h => by rw [bitI_ne1 p66] at h; exact absurd h.2 (by decide))]
                        refine Run.goal ⟨(by repeat (first | exact Same.refl _ _ | refine Same.put rfl ?_ | refine Same.over rfl rfl ?_)), (k + 1, .slice (some ⟨gr, 0, none⟩) n cgr, v2), ?_, ?_, ?_, ?_⟩
                        · show k + 1 ≤ n; omega
                        · show n - (k + 1) < n - k; omega
                        · exact ⟨(by first | rfl | (congr 1; omega) | simp), (by first | rfl | (congr 1; omega) | simp), (by first | rfl | (congr 1; omega) | simp), trivial⟩
                        · exact (Some'.weak (.takeEq (by first | rw [hX] | rfl) (.takeEq (by first | rw [hX] | rfl) (.nil _))))
                    · refine Run.q (v := .bool false) rfl (OpQ.y (OpY.moveB rfl h56)) ?_
                      have p56 := h56; try simp only [decide_eq_true_eq, decide_eq_false_iff_not, beq_iff_eq, bne_iff_ne, beq_eq_false_iff_ne, ne_eq, gt_iff_lt, ge_iff_le, Int.not_lt, Int.not_le, bne_eq_false_iff_eq, Bool.not_eq_true', Bool.not_eq_false', Bool.and_eq_true, Bool.and_eq_false_iff, Bool.or_eq_true, Bool.or_eq_false_iff, Decidable.not_not, List.cons.injEq, and_true] at p56
                      refine Run.pass rfl ?_
                      refine Run.pass rfl ?_
                      refine Run.pass rfl ?_
                      refine Run.pass rfl ?_
                      refine Run.pass rfl ?_
                      refine Run.pass rfl ?_
                      refine Run.pass rfl ?_
                      refine Run.pass rfl ?_
                      refine Run.pass rfl ?_
                      refine Run.q (v := .bool false) rfl (OpQ.y (OpY.pure rfl)) ?_
                      refine Run.done ?_
                      refine Run.cond (b := false) rfl (fun h => nomatch h) (fun _ => ?_)
                      refine Run.skip ?_
                      refine Run.blockEnd ?_
                      refine Run.region ?_
                      refine Run.q (v := .int .i64 ((((k : Nat) : Int)) + 1)) rfl (OpQ.y (OpY.add rfl rfl rfl (by omega) (by omega))) ?_
                      refine Run.q (v := .int .i64 ((((k : Nat) : Int)) + 1)) rfl (OpQ.y (OpY.pure rfl)) ?_
                      refine Run.done ?_
                      have hX : clrR j q.2 (k + 1) q.1 = clrR j q.2 k q.1 := by rw [clrR, if_neg (fun h => h.1 (by omega))]
                      refine Run.goal ⟨(by repeat (first | exact Same.refl _ _ | refine Same.put rfl ?_ | refine Same.over rfl rfl ?_)), (k + 1, v1, v2), ?_, ?_, ?_, ?_⟩
                      · show k + 1 ≤ n; omega
                      · show n - (k + 1) < n - k; omega
                      · exact ⟨(by first | rfl | (congr 1; omega) | simp), (by first | rfl | (congr 1; omega) | simp), (by first | rfl | (congr 1; omega) | simp), trivial⟩
                      · exact (Some'.weak (.takeEq (by first | rw [hX] | rfl) (.takeEq (by first | rw [hX] | rfl) (.nil _))))
                  · have p51 := h51; try simp only [decide_eq_true_eq, decide_eq_false_iff_not, beq_iff_eq, bne_iff_ne, beq_eq_false_iff_ne, ne_eq, gt_iff_lt, ge_iff_le, Int.not_lt, Int.not_le, bne_eq_false_iff_eq, Bool.not_eq_true', Bool.not_eq_false', Bool.and_eq_true, Bool.and_eq_false_iff, Bool.or_eq_true, Bool.or_eq_false_iff, Decidable.not_not, List.cons.injEq, and_true] at p51
                    have hkn : k = n := by omega
                    have hst2 := hstep (clrR j q.2 k q.1) (by rw [hkn])
                    refine Run.exit rfl ?_
                    refine Run.region ?_
                    refine Run.q (v := .int .i64 (((q.2 : Nat) : Int))) rfl (OpQ.y (OpY.pure rfl)) ?_
                    refine Run.q (v := .int .i64 ((((q.2 : Nat) : Int)) + 1)) rfl (OpQ.y (OpY.add rfl rfl rfl (by omega) (by omega))) ?_
                    refine Run.q (v := .int .i64 ((((q.2 : Nat) : Int)) + 1)) rfl (OpQ.y (OpY.pure rfl)) ?_
                    refine Run.done ?_
                    refine Run.blockEnd ?_
                    refine Run.region ?_
                    refine Run.q (v := .int .i64 (((j : Nat) : Int))) rfl (OpQ.y (OpY.pure rfl)) ?_
                    refine Run.q (v := .int .i64 ((((j : Nat) : Int)) + 1)) rfl (OpQ.y (OpY.add rfl rfl rfl (by omega) (by omega))) ?_
                    refine Run.q (v := .int .i64 ((((j : Nat) : Int)) + 1)) rfl (OpQ.y (OpY.pure rfl)) ?_
                    refine Run.done ?_
                    refine Run.goal ⟨(by repeat (first | exact Same.refl _ _ | refine Same.put rfl ?_ | refine Same.over rfl rfl ?_)), (j + 1, (clrR j q.2 k q.1, q.2 + 1), v1, v2), ?_, ?_, ?_, ?_⟩
                    · first | exact ⟨hstep, by omega, by omega⟩ | exact ⟨hst2, by omega, by show q.2 + 1 ≤ n; omega⟩
                    · show 40 - (j + 1) < 40 - j; omega
                    · exact ⟨(by first | rfl | (congr 1; omega) | simp), (by first | rfl | (congr 1; omega) | simp), (by first | rfl | (congr 1; omega) | simp), (by first | rfl | (congr 1; omega) | simp), trivial⟩
                    · exact (Some'.weak (.takeEq (by rfl) (.takeEq (by rfl) (.nil _))))
        · refine Run.q (v := .bool false) rfl (OpQ.y (OpY.moveB rfl h20)) ?_
          have p20 := h20; try simp only [decide_eq_true_eq, decide_eq_false_iff_not, beq_iff_eq, bne_iff_ne, beq_eq_false_iff_ne, ne_eq, gt_iff_lt, ge_iff_le, Int.not_lt, Int.not_le, bne_eq_false_iff_eq, Bool.not_eq_true', Bool.not_eq_false', Bool.and_eq_true, Bool.and_eq_false_iff, Bool.or_eq_true, Bool.or_eq_false_iff, Decidable.not_not, List.cons.injEq, and_true] at p20
          refine Run.pass rfl ?_
          refine Run.pass rfl ?_
          refine Run.pass rfl ?_
          refine Run.pass rfl ?_
          refine Run.pass rfl ?_
          refine Run.pass rfl ?_
          refine Run.pass rfl ?_
          refine Run.pass rfl ?_
          refine Run.pass rfl ?_
          refine Run.q (v := .bool false) rfl (OpQ.y (OpY.pure rfl)) ?_
          refine Run.done ?_
          refine Run.cond (b := false) rfl (fun h => nomatch h) (fun _ => ?_)
          refine Run.exit rfl ?_
          refine Run.seq ?_
          refine Run.seq ?_
          refine Run.region ?_
          refine Run.q (v := .int .i64 (((i : Nat) : Int))) rfl (OpQ.y (OpY.pure rfl)) ?_
          refine Run.q (v := .slice A_va1 n c_va1) rfl (OpQ.y (OpY.pure rfl)) ?_
          refine Run.q (v := .int .i64 (((n : Nat) : Int))) rfl (OpQ.y (OpY.len Tsl_34 rfl)) ?_
          refine Run.q (v := .bool ((((i : Nat) : Int)) == (((n : Nat) : Int)))) rfl (OpQ.y (OpY.pure rfl)) ?_
          refine Run.done ?_
          refine Run.cond (b := (((i : Nat) : Int)) == (((n : Nat) : Int))) rfl (fun h36 => ?_) (fun h36 => ?_)
          · have p36 := h36; try simp only [decide_eq_true_eq, decide_eq_false_iff_not, beq_iff_eq, bne_iff_ne, beq_eq_false_iff_ne, ne_eq, gt_iff_lt, ge_iff_le, Int.not_lt, Int.not_le, bne_eq_false_iff_eq, Bool.not_eq_true', Bool.not_eq_false', Bool.and_eq_true, Bool.and_eq_false_iff, Bool.or_eq_true, Bool.or_eq_false_iff, Decidable.not_not, List.cons.injEq, and_true] at p36
            have hstep : elN n xs (j + 1) = q := by
              rw [elN, hq, el1, if_pos (by rw [hinv.2.2, show i = n by omega]; exact scanR_end)]
            refine Run.exit rfl ?_
            refine Run.region ?_
            refine Run.q (v := .int .i64 (((j : Nat) : Int))) rfl (OpQ.y (OpY.pure rfl)) ?_
            refine Run.q (v := .int .i64 ((((j : Nat) : Int)) + 1)) rfl (OpQ.y (OpY.add rfl rfl rfl (by omega) (by omega))) ?_
            refine Run.q (v := .int .i64 ((((j : Nat) : Int)) + 1)) rfl (OpQ.y (OpY.pure rfl)) ?_
            refine Run.done ?_
            refine Run.goal ⟨(by repeat (first | exact Same.refl _ _ | refine Same.put rfl ?_ | refine Same.over rfl rfl ?_)), (j + 1, q, .slice A_va1 n c_va1, vg), ?_, ?_, ?_, ?_⟩
            · first | exact ⟨hstep, by omega, by omega⟩ | exact ⟨hst2, by omega, by show q.2 + 1 ≤ n; omega⟩
            · show 40 - (j + 1) < 40 - j; omega
            · exact ⟨(by first | rfl | (congr 1; omega) | simp), (by first | rfl | (congr 1; omega) | simp), (by first | rfl | (congr 1; omega) | simp), (by first | rfl | (congr 1; omega) | simp), trivial⟩
            · exact (Some'.weak (.takeEq (by rfl) (.takeEq (by rfl) (.nil _))))
          · have p36 := h36; try simp only [decide_eq_true_eq, decide_eq_false_iff_not, beq_iff_eq, bne_iff_ne, beq_eq_false_iff_ne, ne_eq, gt_iff_lt, ge_iff_le, Int.not_lt, Int.not_le, bne_eq_false_iff_eq, Bool.not_eq_true', Bool.not_eq_false', Bool.and_eq_true, Bool.and_eq_false_iff, Bool.or_eq_true, Bool.or_eq_false_iff, Decidable.not_not, List.cons.injEq, and_true] at p36
            exfalso; omega --DONE
    · have p12 := h12; try simp only [decide_eq_true_eq, decide_eq_false_iff_not, beq_iff_eq, bne_iff_ne, beq_eq_false_iff_ne, ne_eq, gt_iff_lt, ge_iff_le, Int.not_lt, Int.not_le, bne_eq_false_iff_eq, Bool.not_eq_true', Bool.not_eq_false', Bool.and_eq_true, Bool.and_eq_false_iff, Bool.or_eq_true, Bool.or_eq_false_iff, Decidable.not_not, List.cons.injEq, and_true] at p12
      obtain ⟨hq, hj40, hrn⟩ := hinv
      have hend : elN n xs 40 = q := by
        rw [← hq]
        first | (rw [show (40 : Nat) = j by omega]; done) | (rw [show (40 : Nat) = j + (40 - j) by omega]; exact elN_stop (by rw [hq]; omega) _)
      refine Run.exit rfl ?_
      refine Run.seq ?_
      refine Run.region ?_
      refine Run.q (v := va) rfl (OpQ.y (OpY.pure rfl)) ?_
      refine Run.q (v := vg) rfl (OpQ.y (OpY.pure rfl)) ?_
      refine Run.q (v := va) rfl (OpQ.y (OpY.pure rfl)) ?_
      refine Run.q (v := vg) rfl (OpQ.y (OpY.pure rfl)) ?_
      refine Run.done ?_
      refine Run.ret ?_
      refine ⟨.tuple #[va, vg], [.own va 3 1 n (ints ((elN n xs 40).1.1)), .own vg 50 3 ((elN n xs 40).1.2.length) (ints (flCX ((elN n xs 40).1.2)))], Out.two rfl rfl rfl, (Some'.weak (.takeEq (by rw [hend]) (.takeEq (by rw [hend]) (.nil _)))), ?_⟩
      exact ⟨_, _, rfl, rfl⟩

set_option maxHeartbeats 1000000 in
set_option maxRecDepth 20000 in
theorem eliminateRows_spec {va : Value} {n : Nat} {xs : List Int} {w : World} (hn1 : 1 ≤ n) (hn5 : n ≤ 5) (ha : Sl w va 1 n (ints xs)) : Calls Try.prog 56 #[va] w (Post No w fun v H => ∃ a b, v = .tuple #[a, b] ∧ H = [.own a 3 1 n (ints (elN n xs 40).1.1), .own b 50 3 (elN n xs 40).1.2.length (ints (flCX (elN n xs 40).1.2))]) := by
  have hxl : xs.length = n := by have := ha.len; omega
  refine enter (n := 80) (args := [va]) Try.func56 rfl rfl (St.empty _ _) ?_
  refine Run.seq ?_
  refine Run.region ?_
  refine Run.q (v := .slice none 0 0) rfl (OpQ.y (OpY.pure rfl)) ?_
  refine Run.q (v := .slice none 0 0) rfl (OpQ.y (OpY.pure rfl)) ?_
  refine Run.done ?_
  refine Run.seq ?_
  refine Run.region ?_
  refine Run.q (v := va) rfl (OpQ.y (OpY.pure rfl)) ?_
  refine Run.step rfl (OpStep.call (vs := [va]) (caps := []) Tcall_66 rfl rfl (fun w hs => CloneInt_spec (by omega) (by omega) (hs.sl ha)) ?_)
  rintro uo _ rfl
  show Run _ _ (putF _ _ _ uo) [.own uo 3 1 n (ints xs)]
  refine Run.step rfl (OpStep.buildSlice (us := []) Tsl_46 (by decide) (by decide) rfl rfl fun b1 => ?_)
  refine Run.step rfl (OpStep.alloc (zs := [.slice none 0 0]) Tzero_34 fun b2 => ?_)
  refine Run.step rfl (OpStep.alloc (zs := [.slice none 0 0]) Tzero_46 fun b3 => ?_)
  refine Run.formOwn (.tail _ (.tail _ (.tail _ (List.Mem.head _)))) (fun A_uo1 c_uo1 hv hcapc_uo1 hmaxc_uo1 => ?_) (fun _ _ _ => ⟨nofun, nofun, nofun⟩)
  subst hv
  refine Run.step rfl (OpStep.storeAll (us := [.slice A_uo1 n c_uo1]) Tsize_34 rfl rfl rfl (.there _ (.here _)) rfl ?_)
  refine Run.step rfl (OpStep.storeAll (us := [.slice (some ⟨b1, 0, none⟩) 0 0]) Tsize_46 rfl rfl rfl (.here _) rfl ?_)
  refine Run.q (v := .int .i64 0) rfl (OpQ.y (OpY.pure rfl)) ?_
  refine Run.done ?_
  refine Run.seq ?_
  refine Run.openOwn (.tail _ (.tail _ (.tail _ (List.Mem.head _)))) (by omega) (fun gr cgr hvgr hcapgr _ => ?_) (fun _ _ _ => ⟨nofun, nofun, nofun⟩)
  injection hvgr with hAgr _ hcgr; subst hAgr; subst hcgr
  refine Run.region ?_
  refine Run.q (v := .func (.func 76) #[] #[.pointer (some ⟨b2, 0, none⟩), .pointer (some ⟨b3, 0, none⟩)]) rfl (OpQ.y (OpY.makeFunc (caps := [.pointer (some ⟨b2, 0, none⟩), .pointer (some ⟨b3, 0, none⟩)]) rfl)) ?_
  refine Run.q (v := .func (.func 76) #[] #[.pointer (some ⟨b2, 0, none⟩), .pointer (some ⟨b3, 0, none⟩)]) rfl (OpQ.y (OpY.pure rfl)) ?_
  refine Run.done ?_
  refine Run.seq ?_
  refine Run.seq ?_
  refine Run.region ?_
  refine Run.q (v := .int .i64 0) rfl (OpQ.y (OpY.pure rfl)) ?_
  refine Run.done ?_
  refine Run.block ?_
  refine Run.loop (ι := Nat × ((List Int × List (Nat × Nat)) × Nat) × Value) ([6, 8, 9, 10, 15, 16, 17, 18, 19, 20, 21, 22, 23, 24, 25, 26, 27, 28, 29, 30, 31, 32, 33, 34, 35, 36, 37, 38, 39, 40, 41, 42, 43, 44, 45, 46, 47, 48, 49, 50, 51, 52, 53, 54, 55, 56, 57, 58, 59, 60] ++ [61, 62, 63, 64, 65, 66, 67, 68, 69, 70, 71, 72, 73, 74, 75, 76, 77]) (fun ⟨j, q, vg⟩ => [(6, .int .i64 (((q.2 : Nat) : Int))), (8, .int .i64 (((j : Nat) : Int)))]) (fun ⟨j, q, vg⟩ => [.blk b3 46 [vg], .blk b2 34 [.slice (some ⟨gr, 0, none⟩) n c_uo1], .own (.slice (some ⟨gr, 0, none⟩) n c_uo1) 3 1 n (ints (q.1.1)), .own vg 50 3 ((q.1.2).length) (ints (flCX (q.1.2)))]) (fun ⟨j, q, vg⟩ => elN n xs j = q ∧ j ≤ 40 ∧ q.2 ≤ n) (fun ⟨j, q, vg⟩ => 40 - j) (0, ((xs, []), 0), .slice (some ⟨b1, 0, none⟩) 0 0) ?_ ?_ ?_ ?_
  · exact ⟨rfl, by omega, Nat.zero_le _⟩
  · exact ⟨rfl, rfl, trivial⟩
  · exact ((Weak.of_perm (.cons _ (.cons _ (.swap _ _ _)))).trans (Some'.weak (.takeEq rfl (.takeEq rfl (.takeEq rfl (.takeEq rfl (.nil _)))))))
  · rintro ⟨j, q, vg⟩ fr hinv
    show Run _ _ (over _ _ [(6, .int .i64 (((q.2 : Nat) : Int))), (8, .int .i64 (((j : Nat) : Int)))] fr) [.blk b3 46 [vg], .blk b2 34 [.slice (some ⟨gr, 0, none⟩) n c_uo1], .own (.slice (some ⟨gr, 0, none⟩) n c_uo1) 3 1 n (ints (q.1.1)), .own vg 50 3 ((q.1.2).length) (ints (flCX (q.1.2)))]
    try dsimp only at hinv
    refine Run.seq ?_
    refine Run.seq ?_
    refine Run.region ?_
    refine Run.q (v := .int .i64 (((j : Nat) : Int))) rfl (OpQ.y (OpY.pure rfl)) ?_
    refine Run.q (v := .bool (decide ((((j : Nat) : Int)) < 40))) rfl (OpQ.y (OpY.pure rfl)) ?_
    rcases Bool.eq_false_or_eq_true (decide ((((j : Nat) : Int)) < 40)) with h17 | h17
    · refine Run.q (v := .bool true) rfl (OpQ.y (OpY.moveB rfl h17)) ?_
      have p17 := h17; try simp only [decide_eq_true_eq, decide_eq_false_iff_not, beq_iff_eq, bne_iff_ne, beq_eq_false_iff_ne, ne_eq, gt_iff_lt, ge_iff_le, Int.not_lt, Int.not_le, bne_eq_false_iff_eq, Bool.not_eq_true', Bool.not_eq_false', Bool.and_eq_true, Bool.and_eq_false_iff, Bool.or_eq_true, Bool.or_eq_false_iff, Decidable.not_not, List.cons.injEq, and_true] at p17
      have hjj : j < 40 := by omega
      refine Run.q (v := .int .i64 (((q.2 : Nat) : Int))) rfl (OpQ.y (OpY.pure rfl)) ?_
      refine Run.q (v := .slice (some ⟨gr, 0, none⟩) n c_uo1) rfl (OpQ.y (OpY.load1 Tone_34 rfl (Cells.blk (.tail _ (List.Mem.head _)) ⟨rfl, trivial⟩))) ?_
      refine Run.q (v := .int .i64 (((n : Nat) : Int))) rfl (OpQ.y (OpY.len Tsl_34 rfl)) ?_
      refine Run.q (v := .bool (decide ((((q.2 : Nat) : Int)) < (((n : Nat) : Int))))) rfl (OpQ.y (OpY.pure rfl)) ?_
      refine Run.q (v := .bool (decide ((((q.2 : Nat) : Int)) < (((n : Nat) : Int))))) rfl (OpQ.y (OpY.pure rfl)) ?_
      refine Run.done ?_
      refine Run.cond (b := decide ((((q.2 : Nat) : Int)) < (((n : Nat) : Int)))) rfl (fun h22 => ?_) (fun h22 => ?_)
      · have p22 := h22; try simp only [decide_eq_true_eq, decide_eq_false_iff_not, beq_iff_eq, bne_iff_ne, beq_eq_false_iff_ne, ne_eq, gt_iff_lt, ge_iff_le, Int.not_lt, Int.not_le, bne_eq_false_iff_eq, Bool.not_eq_true', Bool.not_eq_false', Bool.and_eq_true, Bool.and_eq_false_iff, Bool.or_eq_true, Bool.or_eq_false_iff, Decidable.not_not, List.cons.injEq, and_true] at p22
        obtain ⟨hq, hj40, hrn⟩ := hinv
        have hl := elN_len hxl hn5 j
        rw [hq] at hl
        have hj : j < 40 := by omega
        refine Run.skip ?_
        refine Run.seq ?_
        refine Run.block ?_
        refine Run.seq ?_
        refine Run.region ?_
        refine Run.q (v := .int .i64 (((q.2 : Nat) : Int))) rfl (OpQ.y (OpY.pure rfl)) ?_
        refine Run.q (v := .int .i64 (((q.2 : Nat) : Int))) rfl (OpQ.y (OpY.pure rfl)) ?_
        refine Run.done ?_
        refine Run.seq ?_
        refine Run.block ?_
        refine Run.loop (ι := Nat) [9, 26, 27, 28, 29, 30, 31, 32, 33, 34, 35, 36, 37, 38, 39, 40, 41] (fun i => [(9, .int .i64 (((i : Nat) : Int)))]) (fun i => [.blk b3 46 [vg], .blk b2 34 [.slice (some ⟨gr, 0, none⟩) n c_uo1], .own (.slice (some ⟨gr, 0, none⟩) n c_uo1) 3 1 n (ints (q.1.1)), .own vg 50 3 ((q.1.2).length) (ints (flCX (q.1.2)))]) (fun i => q.2 ≤ i ∧ i ≤ n ∧ scanR (fun i => bitI (ix q.1.1 i) j) q.2 (n - q.2) = scanR (fun i => bitI (ix q.1.1 i) j) i (n - i)) (fun i => n - i) q.2 ?_ ?_ ?_ ?_
        · exact ⟨Nat.le_refl _, hrn, rfl⟩
        · exact ⟨rfl, trivial⟩
        · exact (Some'.weak (.take (.take (.take (.take (.nil _))))))
        · rintro i fr hinv
          show Run _ _ (over _ _ [(9, .int .i64 (((i : Nat) : Int)))] fr) [.blk b3 46 [vg], .blk b2 34 [.slice (some ⟨gr, 0, none⟩) n c_uo1], .own (.slice (some ⟨gr, 0, none⟩) n c_uo1) 3 1 n (ints (q.1.1)), .own vg 50 3 ((q.1.2).length) (ints (flCX (q.1.2)))]
          try dsimp only at hinv
          refine Run.seq ?_
          refine Run.seq ?_
          refine Run.region ?_
          refine Run.q (v := .int .i64 (((i : Nat) : Int))) rfl (OpQ.y (OpY.pure rfl)) ?_
          refine Run.q (v := .slice (some ⟨gr, 0, none⟩) n c_uo1) rfl (OpQ.y (OpY.load1 Tone_34 rfl (Cells.blk (.tail _ (List.Mem.head _)) ⟨rfl, trivial⟩))) ?_
          refine Run.q (v := .int .i64 (((n : Nat) : Int))) rfl (OpQ.y (OpY.len Tsl_34 rfl)) ?_
          refine Run.q (v := .bool (decide ((((i : Nat) : Int)) < (((n : Nat) : Int))))) rfl (OpQ.y (OpY.pure rfl)) ?_
          rcases Bool.eq_false_or_eq_true (decide ((((i : Nat) : Int)) < (((n : Nat) : Int)))) with h30 | h30
          · refine Run.q (v := .bool true) rfl (OpQ.y (OpY.moveB rfl h30)) ?_
            have p30 := h30; try simp only [decide_eq_true_eq, decide_eq_false_iff_not, beq_iff_eq, bne_iff_ne, beq_eq_false_iff_ne, ne_eq, gt_iff_lt, ge_iff_le, Int.not_lt, Int.not_le, bne_eq_false_iff_eq, Bool.not_eq_true', Bool.not_eq_false', Bool.and_eq_true, Bool.and_eq_false_iff, Bool.or_eq_true, Bool.or_eq_false_iff, Decidable.not_not, List.cons.injEq, and_true] at p30
            have hin : i < n := by omega
            refine Run.q (v := .slice (some ⟨gr, 0, none⟩) n c_uo1) rfl (OpQ.y (OpY.load1 Tone_34 rfl (Cells.blk (.tail _ (List.Mem.head _)) ⟨rfl, trivial⟩))) ?_
            refine Run.q (v := .int .i64 (((i : Nat) : Int))) rfl (OpQ.y (OpY.pure rfl)) ?_
            refine Run.q (v := .pointer (some ⟨gr, i, none⟩)) rfl (OpQ.y (OpY.index (kk := i) Tsl_34 rfl rfl (by omega) (by omega) (by first | rfl | omega))) ?_
            refine Run.q (v := .int .i64 (ix (q.1.1) (i))) rfl (OpQ.y (OpY.load1 Tone_3 rfl (Cells.own0 (.tail _ (.tail _ (List.Mem.head _))) (pre1 (by omega))))) ?_
            refine Run.q (v := .int .i64 (((j : Nat) : Int))) rfl (OpQ.y (OpY.pure rfl)) ?_
            refine Run.q (v := .int .i64 ((ix (q.1.1) (i)) >>> j)) rfl (OpQ.y (OpY.shr rfl rfl (by first | rfl | omega) (by omega))) ?_
            refine Run.q (v := .int .i64 (((ix (q.1.1) (i)) >>> j) % 2)) rfl (OpQ.y (OpY.and1 rfl rfl)) ?_
            refine Run.q (v := .bool ((((ix (q.1.1) (i)) >>> j) % 2) == 0)) rfl (OpQ.y (OpY.pure rfl)) ?_
            refine Run.q (v := .bool ((((ix (q.1.1) (i)) >>> j) % 2) == 0)) rfl (OpQ.y (OpY.pure rfl)) ?_
            refine Run.done ?_
            refine Run.cond (b := (((ix (q.1.1) (i)) >>> j) % 2) == 0) rfl (fun h39 => ?_) (fun h39 => ?_)
            · have p39 := h39; try simp only [decide_eq_true_eq, decide_eq_false_iff_not, beq_iff_eq, bne_iff_ne, beq_eq_false_iff_ne, ne_eq, gt_iff_lt, ge_iff_le, Int.not_lt, Int.not_le, bne_eq_false_iff_eq, Bool.not_eq_true', Bool.not_eq_false', Bool.and_eq_true, Bool.and_eq_false_iff, Bool.or_eq_true, Bool.or_eq_false_iff, Decidable.not_not, List.cons.injEq, and_true] at p39
              refine Run.skip ?_
              refine Run.block ?_
              refine Run.region ?_
              refine Run.q (v := .int .i64 (((i : Nat) : Int))) rfl (OpQ.y (OpY.pure rfl)) ?_
              refine Run.q (v := .int .i64 ((((i : Nat) : Int)) + 1)) rfl (OpQ.y (OpY.add rfl rfl rfl (by omega) (by omega))) ?_
              refine Run.q (v := .int .i64 ((((i : Nat) : Int)) + 1)) rfl (OpQ.y (OpY.pure rfl)) ?_
              refine Run.done ?_
              refine Run.blockEnd ?_
              refine Run.goal ⟨(by repeat (first | exact Same.refl _ _ | refine Same.put rfl ?_ | refine Same.over rfl rfl ?_)), i + 1, ?_, ?_, ?_, ?_⟩
              · exact ⟨by omega, hin, by rw [hinv.2.2, scanR_miss (p := (fun i => bitI (ix q.1.1 i) j)) hin (bitI_false p39)]⟩
              · omega
              · exact ⟨(by first | rfl | (congr 1; omega) | simp), trivial⟩
              · exact (Some'.weak (.take (.take (.takeEq (by first | rfl | simp) (.takeEq (by first | rfl | simp) (.nil _))))))
            · have p39 := h39; try simp only [decide_eq_true_eq, decide_eq_false_iff_not, beq_iff_eq, bne_iff_ne, beq_eq_false_iff_ne, ne_eq, gt_iff_lt, ge_iff_le, Int.not_lt, Int.not_le, bne_eq_false_iff_eq, Bool.not_eq_true', Bool.not_eq_false', Bool.and_eq_true, Bool.and_eq_false_iff, Bool.or_eq_true, Bool.or_eq_false_iff, Decidable.not_not, List.cons.injEq, and_true] at p39
              refine Run.exit rfl ?_
              refine Run.seq ?_
              refine Run.seq ?_
              refine Run.region ?_
              refine Run.q (v := .int .i64 (((i : Nat) : Int))) rfl (OpQ.y (OpY.pure rfl)) ?_
              refine Run.q (v := .slice (some ⟨gr, 0, none⟩) n c_uo1) rfl (OpQ.y (OpY.load1 Tone_34 rfl (Cells.blk (.tail _ (List.Mem.head _)) ⟨rfl, trivial⟩))) ?_
              refine Run.q (v := .int .i64 (((n : Nat) : Int))) rfl (OpQ.y (OpY.len Tsl_34 rfl)) ?_
              refine Run.q (v := .bool ((((i : Nat) : Int)) == (((n : Nat) : Int)))) rfl (OpQ.y (OpY.pure rfl)) ?_
              refine Run.done ?_
              refine Run.cond (b := (((i : Nat) : Int)) == (((n : Nat) : Int))) rfl (fun h45 => ?_) (fun h45 => ?_)
              · have p45 := h45; try simp only [decide_eq_true_eq, decide_eq_false_iff_not, beq_iff_eq, bne_iff_ne, beq_eq_false_iff_ne, ne_eq, gt_iff_lt, ge_iff_le, Int.not_lt, Int.not_le, bne_eq_false_iff_eq, Bool.not_eq_true', Bool.not_eq_false', Bool.and_eq_true, Bool.and_eq_false_iff, Bool.or_eq_true, Bool.or_eq_false_iff, Decidable.not_not, List.cons.injEq, and_true] at p45
                exfalso; omega --DONE
              · have p45 := h45; try simp only [decide_eq_true_eq, decide_eq_false_iff_not, beq_iff_eq, bne_iff_ne, beq_eq_false_iff_ne, ne_eq, gt_iff_lt, ge_iff_le, Int.not_lt, Int.not_le, bne_eq_false_iff_eq, Bool.not_eq_true', Bool.not_eq_false', Bool.and_eq_true, Bool.and_eq_false_iff, Bool.or_eq_true, Bool.or_eq_false_iff, Decidable.not_not, List.cons.injEq, and_true] at p45
                have hsc : scanR (fun i => bitI (ix q.1.1 i) j) q.2 (n - q.2) = i := by rw [hinv.2.2]; exact scanR_hit (p := (fun i => bitI (ix q.1.1 i) j)) hin (bitI_ne p39)
                have hsn : ¬ scanR (fun i => bitI (ix q.1.1 i) j) q.2 (n - q.2) = n := by omega
                refine Run.skip ?_
                refine Run.seq ?_
                refine Run.seq ?_
                refine Run.region ?_
                refine Run.q (v := .int .i64 (((i : Nat) : Int))) rfl (OpQ.y (OpY.pure rfl)) ?_
                refine Run.q (v := .int .i64 (((q.2 : Nat) : Int))) rfl (OpQ.y (OpY.pure rfl)) ?_
                refine Run.q (v := .bool ((((i : Nat) : Int)) != (((q.2 : Nat) : Int)))) rfl (OpQ.y (OpY.pure rfl)) ?_
                refine Run.done ?_
                refine Run.cond (b := (((i : Nat) : Int)) != (((q.2 : Nat) : Int))) rfl (fun h48 => ?_) (fun h48 => ?_)
                · have p48 := h48; try simp only [decide_eq_true_eq, decide_eq_false_iff_not, beq_iff_eq, bne_iff_ne, beq_eq_false_iff_ne, ne_eq, gt_iff_lt, ge_iff_le, Int.not_lt, Int.not_le, bne_eq_false_iff_eq, Bool.not_eq_true', Bool.not_eq_false', Bool.and_eq_true, Bool.and_eq_false_iff, Bool.or_eq_true, Bool.or_eq_false_iff, Decidable.not_not, List.cons.injEq, and_true] at p48
                  have hstep : ∀ z, clrR j q.2 n (addR q.1 q.2 i) = z → elN n xs (j + 1) = (z, q.2 + 1) := by
                    intro z hz
                    rw [elN, hq, el1, if_neg hsn, hsc, if_neg (by omega), hz]
                  have hsl : (addR q.1 q.2 i).1.length = n ∧ (addR q.1 q.2 i).2.length = q.1.2.length + 1 := by simp [addR, hl.1]
                  refine Run.region ?_
                  refine Run.q (v := .func (.func 76) #[] #[.pointer (some ⟨b2, 0, none⟩), .pointer (some ⟨b3, 0, none⟩)]) rfl (OpQ.y (OpY.pure rfl)) ?_
                  refine Run.q (v := .int .i64 (((i : Nat) : Int))) rfl (OpQ.y (OpY.pure rfl)) ?_
                  refine Run.q (v := .int .i64 (((q.2 : Nat) : Int))) rfl (OpQ.y (OpY.pure rfl)) ?_
                  refine Run.step rfl (OpStep.callM (H1 := [.blk b3 46 [vg], .blk b2 34 [.slice (some ⟨gr, 0, none⟩) n c_uo1], .own (.slice (some ⟨gr, 0, none⟩) n c_uo1) 3 1 n (ints (q.1.1)), .own vg 50 3 ((q.1.2).length) (ints (flCX (q.1.2)))]) (H2 := []) (vs := [.int .i64 (((i : Nat) : Int)), .int .i64 (((q.2 : Nat) : Int)), .pointer (some ⟨b2, 0, none⟩), .pointer (some ⟨b3, 0, none⟩)]) (caps := [.pointer (some ⟨b2, 0, none⟩), .pointer (some ⟨b3, 0, none⟩)]) Tcall_76 rfl rfl ((((Weak.front [.blk b3 46 [vg], .blk b2 34 [.slice (some ⟨gr, 0, none⟩) n c_uo1], .own (.slice (some ⟨gr, 0, none⟩) n c_uo1) 3 1 n (ints (q.1.1))] (.own vg 50 3 ((q.1.2).length) (ints (flCX (q.1.2)))) []).trans (Weak.front [.own vg 50 3 ((q.1.2).length) (ints (flCX (q.1.2))), .blk b3 46 [vg], .blk b2 34 [.slice (some ⟨gr, 0, none⟩) n c_uo1]] (.own (.slice (some ⟨gr, 0, none⟩) n c_uo1) 3 1 n (ints (q.1.1))) [])).trans (Weak.front [.own (.slice (some ⟨gr, 0, none⟩) n c_uo1) 3 1 n (ints (q.1.1)), .own vg 50 3 ((q.1.2).length) (ints (flCX (q.1.2))), .blk b3 46 [vg]] (.blk b2 34 [.slice (some ⟨gr, 0, none⟩) n c_uo1]) [])).trans (Weak.front [.blk b2 34 [.slice (some ⟨gr, 0, none⟩) n c_uo1], .own (.slice (some ⟨gr, 0, none⟩) n c_uo1) 3 1 n (ints (q.1.1)), .own vg 50 3 ((q.1.2).length) (ints (flCX (q.1.2)))] (.blk b3 46 [vg]) [])) (fun w hs => eadd_spec (s := q.1) (by omega) (by omega) (by omega) (by omega) (by omega) (hs.sub (List.sublist_append_left _ _)).self) ?_)
                  rintro _ _ ⟨rb1, rfl, rfl⟩
                  show Run _ _ (putF _ _ _ (.tuple #[])) [.blk b3 46 [rb1], .blk b2 34 [.slice (some ⟨gr, 0, none⟩) n c_uo1], .own (.slice (some ⟨gr, 0, none⟩) n c_uo1) 3 1 n (ints ((addR q.1 q.2 i).1)), .own rb1 50 3 (((addR q.1 q.2 i).2).length) (ints (flCX ((addR q.1 q.2 i).2)))]
                  refine Run.done ?_
                  refine Run.seq ?_
                  refine Run.seq ?_
                  refine Run.region ?_
                  refine Run.q (v := .slice (some ⟨gr, 0, none⟩) n c_uo1) rfl (OpQ.y (OpY.load1 Tone_34 rfl (Cells.blk (.tail _ (List.Mem.head _)) ⟨rfl, trivial⟩))) ?_
                  refine Run.q (v := .int .i64 (((n : Nat) : Int))) rfl (OpQ.y (OpY.len Tsl_34 rfl)) ?_
                  refine Run.q (v := .int .i64 0) rfl (OpQ.y (OpY.pure rfl)) ?_
                  refine Run.done ?_
                  refine Run.block ?_
                  refine Run.loop (ι := Nat × Value) [10, 55, 56, 57, 58, 59, 60, 61, 62, 63, 64, 65, 66, 67, 68, 69, 70, 71, 72, 73, 74, 75] (fun ⟨k, v2⟩ => [(55, .int .i64 (((k : Nat) : Int)))]) (fun ⟨k, v2⟩ => [.blk b3 46 [v2], .blk b2 34 [.slice (some ⟨gr, 0, none⟩) n c_uo1], .own (.slice (some ⟨gr, 0, none⟩) n c_uo1) 3 1 n (ints ((clrR j q.2 k (addR q.1 q.2 i)).1)), .own v2 50 3 (((clrR j q.2 k (addR q.1 q.2 i)).2).length) (ints (flCX ((clrR j q.2 k (addR q.1 q.2 i)).2)))]) (fun ⟨k, v2⟩ => k ≤ n) (fun ⟨k, v2⟩ => n - k) (0, rb1) ?_ ?_ ?_ ?_
                  · exact Nat.zero_le _
                  · exact ⟨rfl, trivial⟩
                  · exact (Some'.weak (.takeEq rfl (.takeEq rfl (.takeEq rfl (.takeEq rfl (.nil _))))))
                  · rintro ⟨k, v2⟩ fr hinv
                    show Run _ _ (over _ _ [(55, .int .i64 (((k : Nat) : Int)))] fr) [.blk b3 46 [v2], .blk b2 34 [.slice (some ⟨gr, 0, none⟩) n c_uo1], .own (.slice (some ⟨gr, 0, none⟩) n c_uo1) 3 1 n (ints ((clrR j q.2 k (addR q.1 q.2 i)).1)), .own v2 50 3 (((clrR j q.2 k (addR q.1 q.2 i)).2).length) (ints (flCX ((clrR j q.2 k (addR q.1 q.2 i)).2)))]
                    try dsimp only at hinv
                    refine Run.seq ?_
                    refine Run.region ?_
                    refine Run.q (v := .bool (decide ((((k : Nat) : Int)) < (((n : Nat) : Int))))) rfl (OpQ.y (OpY.pure rfl)) ?_
                    refine Run.done ?_
                    refine Run.seq ?_
                    refine Run.cond (b := decide ((((k : Nat) : Int)) < (((n : Nat) : Int)))) rfl (fun h56 => ?_) (fun h56 => ?_)
                    · have p56 := h56; try simp only [decide_eq_true_eq, decide_eq_false_iff_not, beq_iff_eq, bne_iff_ne, beq_eq_false_iff_ne, ne_eq, gt_iff_lt, ge_iff_le, Int.not_lt, Int.not_le, bne_eq_false_iff_eq, Bool.not_eq_true', Bool.not_eq_false', Bool.and_eq_true, Bool.and_eq_false_iff, Bool.or_eq_true, Bool.or_eq_false_iff, Decidable.not_not, List.cons.injEq, and_true] at p56
                      have hkn : k < n := by omega
                      have hcl := clrR_len j q.2 (addR q.1 q.2 i) k
                      refine Run.skip ?_
                      refine Run.seq ?_
                      refine Run.block ?_
                      refine Run.seq ?_
                      refine Run.region ?_
                      refine Run.q (v := .int .i64 (((k : Nat) : Int))) rfl (OpQ.y (OpY.pure rfl)) ?_
                      refine Run.q (v := .int .i64 (((k : Nat) : Int))) rfl (OpQ.y (OpY.pure rfl)) ?_
                      refine Run.done ?_
                      refine Run.seq ?_
                      refine Run.region ?_
                      refine Run.q (v := .int .i64 (((k : Nat) : Int))) rfl (OpQ.y (OpY.pure rfl)) ?_
                      refine Run.q (v := .int .i64 (((q.2 : Nat) : Int))) rfl (OpQ.y (OpY.pure rfl)) ?_
                      refine Run.q (v := .bool ((((k : Nat) : Int)) != (((q.2 : Nat) : Int)))) rfl (OpQ.y (OpY.pure rfl)) ?_
                      rcases Bool.eq_false_or_eq_true ((((k : Nat) : Int)) != (((q.2 : Nat) : Int))) with h61 | h61
                      · refine Run.q (v := .bool true) rfl (OpQ.y (OpY.moveB rfl h61)) ?_
                        have p61 := h61; try simp only [decide_eq_true_eq, decide_eq_false_iff_not, beq_iff_eq, bne_iff_ne, beq_eq_false_iff_ne, ne_eq, gt_iff_lt, ge_iff_le, Int.not_lt, Int.not_le, bne_eq_false_iff_eq, Bool.not_eq_true', Bool.not_eq_false', Bool.and_eq_true, Bool.and_eq_false_iff, Bool.or_eq_true, Bool.or_eq_false_iff, Decidable.not_not, List.cons.injEq, and_true] at p61
                        refine Run.q (v := .slice (some ⟨gr, 0, none⟩) n c_uo1) rfl (OpQ.y (OpY.load1 Tone_34 rfl (Cells.blk (.tail _ (List.Mem.head _)) ⟨rfl, trivial⟩))) ?_
                        refine Run.q (v := .int .i64 (((k : Nat) : Int))) rfl (OpQ.y (OpY.pure rfl)) ?_
                        refine Run.q (v := .pointer (some ⟨gr, k, none⟩)) rfl (OpQ.y (OpY.index (kk := k) Tsl_34 rfl rfl (by omega) (by omega) (by first | rfl | omega))) ?_
                        refine Run.q (v := .int .i64 (ix ((clrR j q.2 k (addR q.1 q.2 i)).1) (k))) rfl (OpQ.y (OpY.load1 Tone_3 rfl (Cells.own0 (.tail _ (.tail _ (List.Mem.head _))) (pre1 (by omega))))) ?_
                        refine Run.q (v := .int .i64 (((j : Nat) : Int))) rfl (OpQ.y (OpY.pure rfl)) ?_
                        refine Run.q (v := .int .i64 ((ix ((clrR j q.2 k (addR q.1 q.2 i)).1) (k)) >>> j)) rfl (OpQ.y (OpY.shr rfl rfl (by first | rfl | omega) (by omega))) ?_
                        refine Run.q (v := .int .i64 (((ix ((clrR j q.2 k (addR q.1 q.2 i)).1) (k)) >>> j) % 2)) rfl (OpQ.y (OpY.and1 rfl rfl)) ?_
                        refine Run.q (v := .bool ((((ix ((clrR j q.2 k (addR q.1 q.2 i)).1) (k)) >>> j) % 2) == 1)) rfl (OpQ.y (OpY.pure rfl)) ?_
                        refine Run.q (v := .bool ((((ix ((clrR j q.2 k (addR q.1 q.2 i)).1) (k)) >>> j) % 2) == 1)) rfl (OpQ.y (OpY.pure rfl)) ?_
                        refine Run.done ?_
                        refine Run.cond (b := (((ix ((clrR j q.2 k (addR q.1 q.2 i)).1) (k)) >>> j) % 2) == 1) rfl (fun h70 => ?_) (fun h70 => ?_)
                        · have p70 := h70; try simp only [decide_eq_true_eq, decide_eq_false_iff_not, beq_iff_eq, bne_iff_ne, beq_eq_false_iff_ne, ne_eq, gt_iff_lt, ge_iff_le, Int.not_lt, Int.not_le, bne_eq_false_iff_eq, Bool.not_eq_true', Bool.not_eq_false', Bool.and_eq_true, Bool.and_eq_false_iff, Bool.or_eq_true, Bool.or_eq_false_iff, Decidable.not_not, List.cons.injEq, and_true] at p70
                          refine Run.region ?_
                          refine Run.q (v := .func (.func 76) #[] #[.pointer (some ⟨b2, 0, none⟩), .pointer (some ⟨b3, 0, none⟩)]) rfl (OpQ.y (OpY.pure rfl)) ?_
                          refine Run.q (v := .int .i64 (((q.2 : Nat) : Int))) rfl (OpQ.y (OpY.pure rfl)) ?_
                          refine Run.q (v := .int .i64 (((k : Nat) : Int))) rfl (OpQ.y (OpY.pure rfl)) ?_
                          refine Run.step rfl (OpStep.callM (H1 := [.blk b3 46 [v2], .blk b2 34 [.slice (some ⟨gr, 0, none⟩) n c_uo1], .own (.slice (some ⟨gr, 0, none⟩) n c_uo1) 3 1 n (ints ((clrR j q.2 k (addR q.1 q.2 i)).1)), .own v2 50 3 (((clrR j q.2 k (addR q.1 q.2 i)).2).length) (ints (flCX ((clrR j q.2 k (addR q.1 q.2 i)).2)))]) (H2 := []) (vs := [.int .i64 (((q.2 : Nat) : Int)), .int .i64 (((k : Nat) : Int)), .pointer (some ⟨b2, 0, none⟩), .pointer (some ⟨b3, 0, none⟩)]) (caps := [.pointer (some ⟨b2, 0, none⟩), .pointer (some ⟨b3, 0, none⟩)]) Tcall_76 rfl rfl ((((Weak.front [.blk b3 46 [v2], .blk b2 34 [.slice (some ⟨gr, 0, none⟩) n c_uo1], .own (.slice (some ⟨gr, 0, none⟩) n c_uo1) 3 1 n (ints ((clrR j q.2 k (addR q.1 q.2 i)).1))] (.own v2 50 3 (((clrR j q.2 k (addR q.1 q.2 i)).2).length) (ints (flCX ((clrR j q.2 k (addR q.1 q.2 i)).2)))) []).trans (Weak.front [.own v2 50 3 (((clrR j q.2 k (addR q.1 q.2 i)).2).length) (ints (flCX ((clrR j q.2 k (addR q.1 q.2 i)).2))), .blk b3 46 [v2], .blk b2 34 [.slice (some ⟨gr, 0, none⟩) n c_uo1]] (.own (.slice (some ⟨gr, 0, none⟩) n c_uo1) 3 1 n (ints ((clrR j q.2 k (addR q.1 q.2 i)).1))) [])).trans (Weak.front [.own (.slice (some ⟨gr, 0, none⟩) n c_uo1) 3 1 n (ints ((clrR j q.2 k (addR q.1 q.2 i)).1)), .own v2 50 3 (((clrR j q.2 k (addR q.1 q.2 i)).2).length) (ints (flCX ((clrR j q.2 k (addR q.1 q.2 i)).2))), .blk b3 46 [v2]] (.blk b2 34 [.slice (some ⟨gr, 0, none⟩) n c_uo1]) [])).trans (Weak.front [.blk b2 34 [.slice (some ⟨gr, 0, none⟩) n c_uo1], .own (.slice (some ⟨gr, 0, none⟩) n c_uo1) 3 1 n (ints ((clrR j q.2 k (addR q.1 q.2 i)).1)), .own v2 50 3 (((clrR j q.2 k (addR q.1 q.2 i)).2).length) (ints (flCX ((clrR j q.2 k (addR q.1 q.2 i)).2)))] (.blk b3 46 [v2]) [])) (fun w hs => eadd_spec (s := (clrR j q.2 k (addR q.1 q.2 i))) (by omega) (by omega) (by omega) (by omega) (by omega) (hs.sub (List.sublist_append_left _ _)).self) ?_)
                          rintro _ _ ⟨rb2, rfl, rfl⟩
                          show Run _ _ (putF _ _ _ (.tuple #[])) [.blk b3 46 [rb2], .blk b2 34 [.slice (some ⟨gr, 0, none⟩) n c_uo1], .own (.slice (some ⟨gr, 0, none⟩) n c_uo1) 3 1 n (ints ((addR (clrR j q.2 k (addR q.1 q.2 i)) k q.2).1)), .own rb2 50 3 (((addR (clrR j q.2 k (addR q.1 q.2 i)) k q.2).2).length) (ints (flCX ((addR (clrR j q.2 k (addR q.1 q.2 i)) k q.2).2)))]
                          refine Run.done ?_
                          refine Run.blockEnd ?_
                          refine Run.region ?_
                          refine Run.q (v := .int .i64 ((((k : Nat) : Int)) + 1)) rfl (OpQ.y (OpY.add rfl rfl rfl (by omega) (by omega))) ?_
                          refine Run.q (v := .int .i64 ((((k : Nat) : Int)) + 1)) rfl (OpQ.y (OpY.pure rfl)) ?_
                          refine Run.done ?_
                          have hX : clrR j q.2 (k + 1) (addR q.1 q.2 i) = addR (clrR j q.2 k (addR q.1 q.2 i)) k q.2 := by rw [clrR, if_pos ⟨by omega, bitI_true p70⟩]
                          refine Run.goal ⟨(by repeat (first | exact Same.refl _ _ | refine Same.put rfl ?_ | refine Same.over rfl rfl ?_)), (k + 1, rb2), ?_, ?_, ?_, ?_⟩
                          · show k + 1 ≤ n; omega
                          · show n - (k + 1) < n - k; omega
                          · exact ⟨(by first | rfl | (congr 1; omega) | simp), trivial⟩
                          · exact (Some'.weak (.takeEq (by first | rw [hX] | rfl) (.takeEq (by first | rw [hX] | rfl) (.takeEq (by first | rw [hX] | rfl) (.takeEq (by first | rw [hX] | rfl) (.nil _))))))
                        · have p70 := h70; try simp only [decide_eq_true_eq, decide_eq_false_iff_not, beq_iff_eq, bne_iff_ne, beq_eq_false_iff_ne, ne_eq, gt_iff_lt, ge_iff_le, Int.not_lt, Int.not_le, bne_eq_false_iff_eq, Bool.not_eq_true', Bool.not_eq_false', Bool.and_eq_true, Bool.and_eq_false_iff, Bool.or_eq_true, Bool.or_eq_false_iff, Decidable.not_not, List.cons.injEq, and_true] at p70
                          refine Run.skip ?_
                          refine Run.blockEnd ?_
                          refine Run.region ?_
                          refine Run.q (v := .int .i64 ((((k : Nat) : Int)) + 1)) rfl (OpQ.y (OpY.add rfl rfl rfl (by omega) (by omega))) ?_
                          refine Run.q (v := .int .i64 ((((k : Nat) : Int)) + 1)) rfl (OpQ.y (OpY.pure rfl)) ?_
                          refine Run.done ?_
                          have hX : clrR j q.2 (k + 1) (addR q.1 q.2 i) = clrR j q.2 k (addR q.1 q.2 i) := by rw [clrR, if_neg (fun h => by rw [bitI_ne1 p70] at h; exact absurd h.2 (by decide))]
                          refine Run.goal ⟨(by repeat (first | exact Same.refl _ _ | refine Same.put rfl ?_ | refine Same.over rfl rfl ?_)), (k + 1, v2), ?_, ?_, ?_, ?_⟩
                          · show k + 1 ≤ n; omega
                          · show n - (k + 1) < n - k; omega
                          · exact ⟨(by first | rfl | (congr 1; omega) | simp), trivial⟩
                          · exact (Some'.weak (.takeEq (by first | rw [hX] | rfl) (.takeEq (by first | rw [hX] | rfl) (.takeEq (by first | rw [hX] | rfl) (.takeEq (by first | rw [hX] | rfl) (.nil _))))))
                      · refine Run.q (v := .bool false) rfl (OpQ.y (OpY.moveB rfl h61)) ?_
                        have p61 := h61; try simp only [decide_eq_true_eq, decide_eq_false_iff_not, beq_iff_eq, bne_iff_ne, beq_eq_false_iff_ne, ne_eq, gt_iff_lt, ge_iff_le, Int.not_lt, Int.not_le, bne_eq_false_iff_eq, Bool.not_eq_true', Bool.not_eq_false', Bool.and_eq_true, Bool.and_eq_false_iff, Bool.or_eq_true, Bool.or_eq_false_iff, Decidable.not_not, List.cons.injEq, and_true] at p61
                        refine Run.pass rfl ?_
                        refine Run.pass rfl ?_
                        refine Run.pass rfl ?_
                        refine Run.pass rfl ?_
                        refine Run.pass rfl ?_
                        refine Run.pass rfl ?_
                        refine Run.pass rfl ?_
                        refine Run.pass rfl ?_
                        refine Run.q (v := .bool false) rfl (OpQ.y (OpY.pure rfl)) ?_
                        refine Run.done ?_
                        refine Run.cond (b := false) rfl (fun h => nomatch h) (fun _ => ?_)
                        refine Run.skip ?_
                        refine Run.blockEnd ?_
                        refine Run.region ?_
                        refine Run.q (v := .int .i64 ((((k : Nat) : Int)) + 1)) rfl (OpQ.y (OpY.add rfl rfl rfl (by omega) (by omega))) ?_
                        refine Run.q (v := .int .i64 ((((k : Nat) : Int)) + 1)) rfl (OpQ.y (OpY.pure rfl)) ?_
                        refine Run.done ?_
                        have hX : clrR j q.2 (k + 1) (addR q.1 q.2 i) = clrR j q.2 k (addR q.1 q.2 i) := by rw [clrR, if_neg (fun h => h.1 (by omega))]
                        refine Run.goal ⟨(by repeat (first | exact Same.refl _ _ | refine Same.put rfl ?_ | refine Same.over rfl rfl ?_)), (k + 1, v2), ?_, ?_, ?_, ?_⟩
                        · show k + 1 ≤ n; omega
                        · show n - (k + 1) < n - k; omega
                        · exact ⟨(by first | rfl | (congr 1; omega) | simp), trivial⟩
                        · exact (Some'.weak (.takeEq (by first | rw [hX] | rfl) (.takeEq (by first | rw [hX] | rfl) (.takeEq (by first | rw [hX] | rfl) (.takeEq (by first | rw [hX] | rfl) (.nil _))))))
                    · have p56 := h56; try simp only [decide_eq_true_eq, decide_eq_false_iff_not, beq_iff_eq, bne_iff_ne, beq_eq_false_iff_ne, ne_eq, gt_iff_lt, ge_iff_le, Int.not_lt, Int.not_le, bne_eq_false_iff_eq, Bool.not_eq_true', Bool.not_eq_false', Bool.and_eq_true, Bool.and_eq_false_iff, Bool.or_eq_true, Bool.or_eq_false_iff, Decidable.not_not, List.cons.injEq, and_true] at p56
                      have hkn : k = n := by omega
                      have hst2 := hstep (clrR j q.2 k (addR q.1 q.2 i)) (by rw [hkn])
                      refine Run.exit rfl ?_
                      refine Run.region ?_
                      refine Run.q (v := .int .i64 (((q.2 : Nat) : Int))) rfl (OpQ.y (OpY.pure rfl)) ?_
                      refine Run.q (v := .int .i64 ((((q.2 : Nat) : Int)) + 1)) rfl (OpQ.y (OpY.add rfl rfl rfl (by omega) (by omega))) ?_
                      refine Run.q (v := .int .i64 ((((q.2 : Nat) : Int)) + 1)) rfl (OpQ.y (OpY.pure rfl)) ?_
                      refine Run.done ?_
                      refine Run.blockEnd ?_
                      refine Run.region ?_
                      refine Run.q (v := .int .i64 (((j : Nat) : Int))) rfl (OpQ.y (OpY.pure rfl)) ?_
                      refine Run.q (v := .int .i64 ((((j : Nat) : Int)) + 1)) rfl (OpQ.y (OpY.add rfl rfl rfl (by omega) (by omega))) ?_
                      refine Run.q (v := .int .i64 ((((j : Nat) : Int)) + 1)) rfl (OpQ.y (OpY.pure rfl)) ?_
                      refine Run.done ?_
                      refine Run.goal ⟨(by repeat (first | exact Same.refl _ _ | refine Same.put rfl ?_ | refine Same.over rfl rfl ?_)), (j + 1, (clrR j q.2 k (addR q.1 q.2 i), q.2 + 1), v2), ?_, ?_, ?_, ?_⟩
                      · first | exact ⟨hstep, by omega, by omega⟩ | exact ⟨hst2, by omega, by show q.2 + 1 ≤ n; omega⟩
                      · show 40 - (j + 1) < 40 - j; omega
                      · exact ⟨(by first | rfl | (congr 1; omega) | simp), (by first | rfl | (congr 1; omega) | simp), trivial⟩
                      · exact (Some'.weak (.takeEq (by rfl) (.takeEq (by rfl) (.takeEq (by rfl) (.takeEq (by rfl) (.nil _))))))
                · have p48 := h48; try simp only [decide_eq_true_eq, decide_eq_false_iff_not, beq_iff_eq, bne_iff_ne, beq_eq_false_iff_ne, ne_eq, gt_iff_lt, ge_iff_le, Int.not_lt, Int.not_le, bne_eq_false_iff_eq, Bool.not_eq_true', Bool.not_eq_false', Bool.and_eq_true, Bool.and_eq_false_iff, Bool.or_eq_true, Bool.or_eq_false_iff, Decidable.not_not, List.cons.injEq, and_true] at p48
                  have hstep : ∀ z, clrR j q.2 n q.1 = z → elN n xs (j + 1) = (z, q.2 + 1) := by
                    intro z hz
                    rw [elN, hq, el1, if_neg hsn, hsc, if_pos (by omega), hz]
                  have hsl : q.1.1.length = n ∧ q.1.2.length ≤ q.1.2.length + 1 := ⟨hl.1, by omega⟩
                  refine Run.skip ?_
                  refine Run.seq ?_
                  refine Run.seq ?_
                  refine Run.region ?_
                  refine Run.q (v := .slice (some ⟨gr, 0, none⟩) n c_uo1) rfl (OpQ.y (OpY.load1 Tone_34 rfl (Cells.blk (.tail _ (List.Mem.head _)) ⟨rfl, trivial⟩))) ?_
                  refine Run.q (v := .int .i64 (((n : Nat) : Int))) rfl (OpQ.y (OpY.len Tsl_34 rfl)) ?_
                  refine Run.q (v := .int .i64 0) rfl (OpQ.y (OpY.pure rfl)) ?_
                  refine Run.done ?_
                  refine Run.block ?_
                  refine Run.loop (ι := Nat × Value) [10, 55, 56, 57, 58, 59, 60, 61, 62, 63, 64, 65, 66, 67, 68, 69, 70, 71, 72, 73, 74, 75] (fun ⟨k, v2⟩ => [(55, .int .i64 (((k : Nat) : Int)))]) (fun ⟨k, v2⟩ => [.blk b3 46 [v2], .blk b2 34 [.slice (some ⟨gr, 0, none⟩) n c_uo1], .own (.slice (some ⟨gr, 0, none⟩) n c_uo1) 3 1 n (ints ((clrR j q.2 k q.1).1)), .own v2 50 3 (((clrR j q.2 k q.1).2).length) (ints (flCX ((clrR j q.2 k q.1).2)))]) (fun ⟨k, v2⟩ => k ≤ n) (fun ⟨k, v2⟩ => n - k) (0, vg) ?_ ?_ ?_ ?_
                  · exact Nat.zero_le _
                  · exact ⟨rfl, trivial⟩
                  · exact (Some'.weak (.takeEq rfl (.takeEq rfl (.takeEq rfl (.takeEq rfl (.nil _))))))
                  · rintro ⟨k, v2⟩ fr hinv
                    show Run _ _ (over _ _ [(55, .int .i64 (((k : Nat) : Int)))] fr) [.blk b3 46 [v2], .blk b2 34 [.slice (some ⟨gr, 0, none⟩) n c_uo1], .own (.slice (some ⟨gr, 0, none⟩) n c_uo1) 3 1 n (ints ((clrR j q.2 k q.1).1)), .own v2 50 3 (((clrR j q.2 k q.1).2).length) (ints (flCX ((clrR j q.2 k q.1).2)))]
                    try dsimp only at hinv
                    refine Run.seq ?_
                    refine Run.region ?_
                    refine Run.q (v := .bool (decide ((((k : Nat) : Int)) < (((n : Nat) : Int))))) rfl (OpQ.y (OpY.pure rfl)) ?_
                    refine Run.done ?_
                    refine Run.seq ?_
                    refine Run.cond (b := decide ((((k : Nat) : Int)) < (((n : Nat) : Int)))) rfl (fun h56 => ?_) (fun h56 => ?_)
                    · have p56 := h56; try simp only [decide_eq_true_eq, decide_eq_false_iff_not, beq_iff_eq, bne_iff_ne, beq_eq_false_iff_ne, ne_eq, gt_iff_lt, ge_iff_le, Int.not_lt, Int.not_le, bne_eq_false_iff_eq, Bool.not_eq_true', Bool.not_eq_false', Bool.and_eq_true, Bool.and_eq_false_iff, Bool.or_eq_true, Bool.or_eq_false_iff, Decidable.not_not, List.cons.injEq, and_true] at p56
                      have hkn : k < n := by omega
                      have hcl := clrR_len j q.2 q.1 k
                      refine Run.skip ?_
                      refine Run.seq ?_
                      refine Run.block ?_
                      refine Run.seq ?_
                      refine Run.region ?_
                      refine Run.q (v := .int .i64 (((k : Nat) : Int))) rfl (OpQ.y (OpY.pure rfl)) ?_
                      refine Run.q (v := .int .i64 (((k : Nat) : Int))) rfl (OpQ.y (OpY.pure rfl)) ?_
                      refine Run.done ?_
                      refine Run.seq ?_
                      refine Run.region ?_
                      refine Run.q (v := .int .i64 (((k : Nat) : Int))) rfl (OpQ.y (OpY.pure rfl)) ?_
                      refine Run.q (v := .int .i64 (((q.2 : Nat) : Int))) rfl (OpQ.y (OpY.pure rfl)) ?_
                      refine Run.q (v := .bool ((((k : Nat) : Int)) != (((q.2 : Nat) : Int)))) rfl (OpQ.y (OpY.pure rfl)) ?_
                      rcases Bool.eq_false_or_eq_true ((((k : Nat) : Int)) != (((q.2 : Nat) : Int))) with h61 | h61
                      · refine Run.q (v := .bool true) rfl (OpQ.y (OpY.moveB rfl h61)) ?_
                        have p61 := h61; try simp only [decide_eq_true_eq, decide_eq_false_iff_not, beq_iff_eq, bne_iff_ne, beq_eq_false_iff_ne, ne_eq, gt_iff_lt, ge_iff_le, Int.not_lt, Int.not_le, bne_eq_false_iff_eq, Bool.not_eq_true', Bool.not_eq_false', Bool.and_eq_true, Bool.and_eq_false_iff, Bool.or_eq_true, Bool.or_eq_false_iff, Decidable.not_not, List.cons.injEq, and_true] at p61
                        refine Run.q (v := .slice (some ⟨gr, 0, none⟩) n c_uo1) rfl (OpQ.y (OpY.load1 Tone_34 rfl (Cells.blk (.tail _ (List.Mem.head _)) ⟨rfl, trivial⟩))) ?_
                        refine Run.q (v := .int .i64 (((k : Nat) : Int))) rfl (OpQ.y (OpY.pure rfl)) ?_
                        refine Run.q (v := .pointer (some ⟨gr, k, none⟩)) rfl (OpQ.y (OpY.index (kk := k) Tsl_34 rfl rfl (by omega) (by omega) (by first | rfl | omega))) ?_
                        refine Run.q (v := .int .i64 (ix ((clrR j q.2 k q.1).1) (k))) rfl (OpQ.y (OpY.load1 Tone_3 rfl (Cells.own0 (.tail _ (.tail _ (List.Mem.head _))) (pre1 (by omega))))) ?_
                        refine Run.q (v := .int .i64 (((j : Nat) : Int))) rfl (OpQ.y (OpY.pure rfl)) ?_
                        refine Run.q (v := .int .i64 ((ix ((clrR j q.2 k q.1).1) (k)) >>> j)) rfl (OpQ.y (OpY.shr rfl rfl (by first | rfl | omega) (by omega))) ?_
                        refine Run.q (v := .int .i64 (((ix ((clrR j q.2 k q.1).1) (k)) >>> j) % 2)) rfl (OpQ.y (OpY.and1 rfl rfl)) ?_
                        refine Run.q (v := .bool ((((ix ((clrR j q.2 k q.1).1) (k)) >>> j) % 2) == 1)) rfl (OpQ.y (OpY.pure rfl)) ?_
                        refine Run.q (v := .bool ((((ix ((clrR j q.2 k q.1).1) (k)) >>> j) % 2) == 1)) rfl (OpQ.y (OpY.pure rfl)) ?_
                        refine Run.done ?_
                        refine Run.cond (b := (((ix ((clrR j q.2 k q.1).1) (k)) >>> j) % 2) == 1) rfl (fun h70 => ?_) (fun h70 => ?_)
                        · have p70 := h70; try simp only [decide_eq_true_eq, decide_eq_false_iff_not, beq_iff_eq, bne_iff_ne, beq_eq_false_iff_ne, ne_eq, gt_iff_lt, ge_iff_le, Int.not_lt, Int.not_le, bne_eq_false_iff_eq, Bool.not_eq_true', Bool.not_eq_false', Bool.and_eq_true, Bool.and_eq_false_iff, Bool.or_eq_true, Bool.or_eq_false_iff, Decidable.not_not, List.cons.injEq, and_true] at p70
                          refine Run.region ?_
                          refine Run.q (v := .func (.func 76) #[] #[.pointer (some ⟨b2, 0, none⟩), .pointer (some ⟨b3, 0, none⟩)]) rfl (OpQ.y (OpY.pure rfl)) ?_
                          refine Run.q (v := .int .i64 (((q.2 : Nat) : Int))) rfl (OpQ.y (OpY.pure rfl)) ?_
                          refine Run.q (v := .int .i64 (((k : Nat) : Int))) rfl (OpQ.y (OpY.pure rfl)) ?_
                          refine Run.step rfl (OpStep.callM (H1 := [.blk b3 46 [v2], .blk b2 34 [.slice (some ⟨gr, 0, none⟩) n c_uo1], .own (.slice (some ⟨gr, 0, none⟩) n c_uo1) 3 1 n (ints ((clrR j q.2 k q.1).1)), .own v2 50 3 (((clrR j q.2 k q.1).2).length) (ints (flCX ((clrR j q.2 k q.1).2)))]) (H2 := []) (vs := [.int .i64 (((q.2 : Nat) : Int)), .int .i64 (((k : Nat) : Int)), .pointer (some ⟨b2, 0, none⟩), .pointer (some ⟨b3, 0, none⟩)]) (caps := [.pointer (some ⟨b2, 0, none⟩), .pointer (some ⟨b3, 0, none⟩)]) Tcall_76 rfl rfl ((((Weak.front [.blk b3 46 [v2], .blk b2 34 [.slice (some ⟨gr, 0, none⟩) n c_uo1], .own (.slice (some ⟨gr, 0, none⟩) n c_uo1) 3 1 n (ints ((clrR j q.2 k q.1).1))] (.own v2 50 3 (((clrR j q.2 k q.1).2).length) (ints (flCX ((clrR j q.2 k q.1).2)))) []).trans (Weak.front [.own v2 50 3 (((clrR j q.2 k q.1).2).length) (ints (flCX ((clrR j q.2 k q.1).2))), .blk b3 46 [v2], .blk b2 34 [.slice (some ⟨gr, 0, none⟩) n c_uo1]] (.own (.slice (some ⟨gr, 0, none⟩) n c_uo1) 3 1 n (ints ((clrR j q.2 k q.1).1))) [])).trans (Weak.front [.own (.slice (some ⟨gr, 0, none⟩) n c_uo1) 3 1 n (ints ((clrR j q.2 k q.1).1)), .own v2 50 3 (((clrR j q.2 k q.1).2).length) (ints (flCX ((clrR j q.2 k q.1).2))), .blk b3 46 [v2]] (.blk b2 34 [.slice (some ⟨gr, 0, none⟩) n c_uo1]) [])).trans (Weak.front [.blk b2 34 [.slice (some ⟨gr, 0, none⟩) n c_uo1], .own (.slice (some ⟨gr, 0, none⟩) n c_uo1) 3 1 n (ints ((clrR j q.2 k q.1).1)), .own v2 50 3 (((clrR j q.2 k q.1).2).length) (ints (flCX ((clrR j q.2 k q.1).2)))] (.blk b3 46 [v2]) [])) (fun w hs => eadd_spec (s := (clrR j q.2 k q.1)) (by omega) (by omega) (by omega) (by omega) (by omega) (hs.sub (List.sublist_append_left _ _)).self) ?_)
                          rintro _ _ ⟨rb3, rfl, rfl⟩
                          show Run _ _ (putF _ _ _ (.tuple #[])) [.blk b3 46 [rb3], .blk b2 34 [.slice (some ⟨gr, 0, none⟩) n c_uo1], .own (.slice (some ⟨gr, 0, none⟩) n c_uo1) 3 1 n (ints ((addR (clrR j q.2 k q.1) k q.2).1)), .own rb3 50 3 (((addR (clrR j q.2 k q.1) k q.2).2).length) (ints (flCX ((addR (clrR j q.2 k q.1) k q.2).2)))]
                          refine Run.done ?_
                          refine Run.blockEnd ?_
                          refine Run.region ?_
                          refine Run.q (v := .int .i64 ((((k : Nat) : Int)) + 1)) rfl (OpQ.y (OpY.add rfl rfl rfl (by omega) (by omega))) ?_
                          refine Run.q (v := .int .i64 ((((k : Nat) : Int)) + 1)) rfl (OpQ.y (OpY.pure rfl)) ?_
                          refine Run.done ?_
                          have hX : clrR j q.2 (k + 1) q.1 = addR (clrR j q.2 k q.1) k q.2 := by rw [clrR, if_pos ⟨by omega, bitI_true p70⟩]
                          refine Run.goal ⟨(by repeat (first | exact Same.refl _ _ | refine Same.put rfl ?_ | refine Same.over rfl rfl ?_)), (k + 1, rb3), ?_, ?_, ?_, ?_⟩
                          · show k + 1 ≤ n; omega
                          · show n - (k + 1) < n - k; omega
                          · exact ⟨(by first | rfl | (congr 1; omega) | simp), trivial⟩
                          · exact (Some'.weak (.takeEq (by first | rw [hX] | rfl) (.takeEq (by first | rw [hX] | rfl) (.takeEq (by first | rw [hX] | rfl) (.takeEq (by first | rw [hX] | rfl) (.nil _))))))
                        · have p70 := h70; try simp only [decide_eq_true_eq, decide_eq_false_iff_not, beq_iff_eq, bne_iff_ne, beq_eq_false_iff_ne, ne_eq, gt_iff_lt, ge_iff_le, Int.not_lt, Int.not_le, bne_eq_false_iff_eq, Bool.not_eq_true', Bool.not_eq_false', Bool.and_eq_true, Bool.and_eq_false_iff, Bool.or_eq_true, Bool.or_eq_false_iff, Decidable.not_not, List.cons.injEq, and_true] at p70
                          refine Run.skip ?_
                          refine Run.blockEnd ?_
                          refine Run.region ?_
                          refine Run.q (v := .int .i64 ((((k : Nat) : Int)) + 1)) rfl (OpQ.y (OpY.add rfl rfl rfl (by omega) (by omega))) ?_
                          refine Run.q (v := .int .i64 ((((k : Nat) : Int)) + 1)) rfl (OpQ.y (OpY.pure rfl)) ?_
                          refine Run.done ?_
                          have hX : clrR j q.2 (k + 1) q.1 = clrR j q.2 k q.1 := by rw [clrR, if_neg (fun h => by rw [bitI_ne1 p70] at h; exact absurd h.2 (by decide))]
                          refine Run.goal ⟨(by repeat (first | exact Same.refl _ _ | refine Same.put rfl ?_ | refine Same.over rfl rfl ?_)), (k + 1, v2), ?_, ?_, ?_, ?_⟩
                          · show k + 1 ≤ n; omega
                          · show n - (k + 1) < n - k; omega
                          · exact ⟨(by first | rfl | (congr 1; omega) | simp), trivial⟩
                          · exact (Some'.weak (.takeEq (by first | rw [hX] | rfl) (.takeEq (by first | rw [hX] | rfl) (.takeEq (by first | rw [hX] | rfl) (.takeEq (by first | rw [hX] | rfl) (.nil _))))))
                      · refine Run.q (v := .bool false) rfl (OpQ.y (OpY.moveB rfl h61)) ?_
                        have p61 := h61; try simp only [decide_eq_true_eq, decide_eq_false_iff_not, beq_iff_eq, bne_iff_ne, beq_eq_false_iff_ne, ne_eq, gt_iff_lt, ge_iff_le, Int.not_lt, Int.not_le, bne_eq_false_iff_eq, Bool.not_eq_true', Bool.not_eq_false', Bool.and_eq_true, Bool.and_eq_false_iff, Bool.or_eq_true, Bool.or_eq_false_iff, Decidable.not_not, List.cons.injEq, and_true] at p61
                        refine Run.pass rfl ?_
                        refine Run.pass rfl ?_
                        refine Run.pass rfl ?_
                        refine Run.pass rfl ?_
                        refine Run.pass rfl ?_
                        refine Run.pass rfl ?_
                        refine Run.pass rfl ?_
                        refine Run.pass rfl ?_
                        refine Run.q (v := .bool false) rfl (OpQ.y (OpY.pure rfl)) ?_
                        refine Run.done ?_
                        refine Run.cond (b := false) rfl (fun h => nomatch h) (fun _ => ?_)
                        refine Run.skip ?_
                        refine Run.blockEnd ?_
                        refine Run.region ?_
                        refine Run.q (v := .int .i64 ((((k : Nat) : Int)) + 1)) rfl (OpQ.y (OpY.add rfl rfl rfl (by omega) (by omega))) ?_
                        refine Run.q (v := .int .i64 ((((k : Nat) : Int)) + 1)) rfl (OpQ.y (OpY.pure rfl)) ?_
                        refine Run.done ?_
                        have hX : clrR j q.2 (k + 1) q.1 = clrR j q.2 k q.1 := by rw [clrR, if_neg (fun h => h.1 (by omega))]
                        refine Run.goal ⟨(by repeat (first | exact Same.refl _ _ | refine Same.put rfl ?_ | refine Same.over rfl rfl ?_)), (k + 1, v2), ?_, ?_, ?_, ?_⟩
                        · show k + 1 ≤ n; omega
                        · show n - (k + 1) < n - k; omega
                        · exact ⟨(by first | rfl | (congr 1; omega) | simp), trivial⟩
                        · exact (Some'.weak (.takeEq (by first | rw [hX] | rfl) (.takeEq (by first | rw [hX] | rfl) (.takeEq (by first | rw [hX] | rfl) (.takeEq (by first | rw [hX] | rfl) (.nil _))))))
                    · have p56 := h56; try simp only [decide_eq_true_eq, decide_eq_false_iff_not, beq_iff_eq, bne_iff_ne, beq_eq_false_iff_ne, ne_eq, gt_iff_lt, ge_iff_le, Int.not_lt, Int.not_le, bne_eq_false_iff_eq, Bool.not_eq_true', Bool.not_eq_false', Bool.and_eq_true, Bool.and_eq_false_iff, Bool.or_eq_true, Bool.or_eq_false_iff, Decidable.not_not, List.cons.injEq, and_true] at p56
                      have hkn : k = n := by omega
                      have hst2 := hstep (clrR j q.2 k q.1) (by rw [hkn])
                      refine Run.exit rfl ?_
                      refine Run.region ?_
                      refine Run.q (v := .int .i64 (((q.2 : Nat) : Int))) rfl (OpQ.y (OpY.pure rfl)) ?_
                      refine Run.q (v := .int .i64 ((((q.2 : Nat) : Int)) + 1)) rfl (OpQ.y (OpY.add rfl rfl rfl (by omega) (by omega))) ?_
                      refine Run.q (v := .int .i64 ((((q.2 : Nat) : Int)) + 1)) rfl (OpQ.y (OpY.pure rfl)) ?_
                      refine Run.done ?_
                      refine Run.blockEnd ?_
                      refine Run.region ?_
                      refine Run.q (v := .int .i64 (((j : Nat) : Int))) rfl (OpQ.y (OpY.pure rfl)) ?_
                      refine Run.q (v := .int .i64 ((((j : Nat) : Int)) + 1)) rfl (OpQ.y (OpY.add rfl rfl rfl (by omega) (by omega))) ?_
                      refine Run.q (v := .int .i64 ((((j : Nat) : Int)) + 1)) rfl (OpQ.y (OpY.pure rfl)) ?_
                      refine Run.done ?_
                      refine Run.goal ⟨(by repeat (first | exact Same.refl _ _ | refine Same.put rfl ?_ | refine Same.over rfl rfl ?_)), (j + 1, (clrR j q.2 k q.1, q.2 + 1), v2), ?_, ?_, ?_, ?_⟩
                      · first | exact ⟨hstep, by omega, by omega⟩ | exact ⟨hst2, by omega, by show q.2 + 1 ≤ n; omega⟩
                      · show 40 - (j + 1) < 40 - j; omega
                      · exact ⟨(by first | rfl | (congr 1; omega) | simp), (by first | rfl | (congr 1; omega) | simp), trivial⟩
                      · exact (Some'.weak (.takeEq (by rfl) (.takeEq (by rfl) (.takeEq (by rfl) (.takeEq (by rfl) (.nil _))))))
          · refine Run.q (v := .bool false) rfl (OpQ.y (OpY.moveB rfl h30)) ?_
            have p30 := h30; try simp only [decide_eq_true_eq, decide_eq_false_iff_not, beq_iff_eq, bne_iff_ne, beq_eq_false_iff_ne, ne_eq, gt_iff_lt, ge_iff_le, Int.not_lt, Int.not_le, bne_eq_false_iff_eq, Bool.not_eq_true', Bool.not_eq_false', Bool.and_eq_true, Bool.and_eq_false_iff, Bool.or_eq_true, Bool.or_eq_false_iff, Decidable.not_not, List.cons.injEq, and_true] at p30
            refine Run.pass rfl ?_
            refine Run.pass rfl ?_
            refine Run.pass rfl ?_
            refine Run.pass rfl ?_
            refine Run.pass rfl ?_
            refine Run.pass rfl ?_
            refine Run.pass rfl ?_
            refine Run.pass rfl ?_
            refine Run.q (v := .bool false) rfl (OpQ.y (OpY.pure rfl)) ?_
            refine Run.done ?_
            refine Run.cond (b := false) rfl (fun h => nomatch h) (fun _ => ?_)
            refine Run.exit rfl ?_
            refine Run.seq ?_
            refine Run.seq ?_
            refine Run.region ?_
            refine Run.q (v := .int .i64 (((i : Nat) : Int))) rfl (OpQ.y (OpY.pure rfl)) ?_
            refine Run.q (v := .slice (some ⟨gr, 0, none⟩) n c_uo1) rfl (OpQ.y (OpY.load1 Tone_34 rfl (Cells.blk (.tail _ (List.Mem.head _)) ⟨rfl, trivial⟩))) ?_
            refine Run.q (v := .int .i64 (((n : Nat) : Int))) rfl (OpQ.y (OpY.len Tsl_34 rfl)) ?_
            refine Run.q (v := .bool ((((i : Nat) : Int)) == (((n : Nat) : Int)))) rfl (OpQ.y (OpY.pure rfl)) ?_
            refine Run.done ?_
            refine Run.cond (b := (((i : Nat) : Int)) == (((n : Nat) : Int))) rfl (fun h45 => ?_) (fun h45 => ?_)
            · have p45 := h45; try simp only [decide_eq_true_eq, decide_eq_false_iff_not, beq_iff_eq, bne_iff_ne, beq_eq_false_iff_ne, ne_eq, gt_iff_lt, ge_iff_le, Int.not_lt, Int.not_le, bne_eq_false_iff_eq, Bool.not_eq_true', Bool.not_eq_false', Bool.and_eq_true, Bool.and_eq_false_iff, Bool.or_eq_true, Bool.or_eq_false_iff, Decidable.not_not, List.cons.injEq, and_true] at p45
              have hstep : elN n xs (j + 1) = q := by
                rw [elN, hq, el1, if_pos (by rw [hinv.2.2, show i = n by omega]; exact scanR_end)]
              refine Run.exit rfl ?_
              refine Run.region ?_
              refine Run.q (v := .int .i64 (((j : Nat) : Int))) rfl (OpQ.y (OpY.pure rfl)) ?_
              refine Run.q (v := .int .i64 ((((j : Nat) : Int)) + 1)) rfl (OpQ.y (OpY.add rfl rfl rfl (by omega) (by omega))) ?_
              refine Run.q (v := .int .i64 ((((j : Nat) : Int)) + 1)) rfl (OpQ.y (OpY.pure rfl)) ?_
              refine Run.done ?_
              refine Run.goal ⟨(by repeat (first | exact Same.refl _ _ | refine Same.put rfl ?_ | refine Same.over rfl rfl ?_)), (j + 1, q, vg), ?_, ?_, ?_, ?_⟩
              · first | exact ⟨hstep, by omega, by omega⟩ | exact ⟨hst2, by omega, by show q.2 + 1 ≤ n; omega⟩
              · show 40 - (j + 1) < 40 - j; omega
              · exact ⟨(by first | rfl | (congr 1; omega) | simp), (by first | rfl | (congr 1; omega) | simp), trivial⟩
              · exact (Some'.weak (.takeEq (by rfl) (.takeEq (by rfl) (.takeEq (by rfl) (.takeEq (by rfl) (.nil _))))))
            · have p45 := h45; try simp only [decide_eq_true_eq, decide_eq_false_iff_not, beq_iff_eq, bne_iff_ne, beq_eq_false_iff_ne, ne_eq, gt_iff_lt, ge_iff_le, Int.not_lt, Int.not_le, bne_eq_false_iff_eq, Bool.not_eq_true', Bool.not_eq_false', Bool.and_eq_true, Bool.and_eq_false_iff, Bool.or_eq_true, Bool.or_eq_false_iff, Decidable.not_not, List.cons.injEq, and_true] at p45
              exfalso; omega --DONE
      · have p22 := h22; try simp only [decide_eq_true_eq, decide_eq_false_iff_not, beq_iff_eq, bne_iff_ne, beq_eq_false_iff_ne, ne_eq, gt_iff_lt, ge_iff_le, Int.not_lt, Int.not_le, bne_eq_false_iff_eq, Bool.not_eq_true', Bool.not_eq_false', Bool.and_eq_true, Bool.and_eq_false_iff, Bool.or_eq_true, Bool.or_eq_false_iff, Decidable.not_not, List.cons.injEq, and_true] at p22
        obtain ⟨hq, hj40, hrn⟩ := hinv
        have hend : elN n xs 40 = q := by
          rw [← hq]
          first | (rw [show (40 : Nat) = j by omega]; done) | (rw [show (40 : Nat) = j + (40 - j) by omega]; exact elN_stop (by rw [hq]; omega) _)
        refine Run.exit rfl ?_
        refine Run.seq ?_
        refine Run.draws (by kernel_rfl) (by kernel_rfl) ?_
        refine Lex.q (v := .slice (some ⟨gr, 0, none⟩) n c_uo1) rfl (OpQ.y (OpY.load1 Tone_34 rfl (Cells.blk (.tail _ (List.Mem.head _)) ⟨rfl, trivial⟩))) ?_
        refine Lex.q (v := vg) rfl (OpQ.y (OpY.load1 Tone_46 rfl (Cells.blk (.head _) ⟨rfl, trivial⟩))) ?_
        refine Lex.q (v := .slice (some ⟨gr, 0, none⟩) n c_uo1) rfl (OpQ.y (OpY.pure rfl)) ?_
        refine Lex.q (v := vg) rfl (OpQ.y (OpY.pure rfl)) ?_
        refine Lex.done ?_
        refine Run.ret ?_
        refine ⟨.tuple #[.slice (some ⟨gr, 0, none⟩) n c_uo1, vg], [.own (.slice (some ⟨gr, 0, none⟩) n c_uo1) 3 1 n (ints ((elN n xs 40).1.1)), .own vg 50 3 ((elN n xs 40).1.2.length) (ints (flCX ((elN n xs 40).1.2)))], Out.two rfl rfl rfl, (Some'.weak (.skip (.skip (.takeEq (by rw [hend]) (.takeEq (by rw [hend]) (.nil _)))))), ?_⟩
        exact ⟨_, _, rfl, rfl⟩
    · refine Run.q (v := .bool false) rfl (OpQ.y (OpY.moveB rfl h17)) ?_
      have p17 := h17; try simp only [decide_eq_true_eq, decide_eq_false_iff_not, beq_iff_eq, bne_iff_ne, beq_eq_false_iff_ne, ne_eq, gt_iff_lt, ge_iff_le, Int.not_lt, Int.not_le, bne_eq_false_iff_eq, Bool.not_eq_true', Bool.not_eq_false', Bool.and_eq_true, Bool.and_eq_false_iff, Bool.or_eq_true, Bool.or_eq_false_iff, Decidable.not_not, List.cons.injEq, and_true] at p17
      obtain ⟨hq, hj40, hrn⟩ := hinv
      have hend : elN n xs 40 = q := by
        rw [← hq]
        first | (rw [show (40 : Nat) = j by omega]; done) | (rw [show (40 : Nat) = j + (40 - j) by omega]; exact elN_stop (by rw [hq]; omega) _)
      refine Run.pass rfl ?_
      refine Run.pass rfl ?_
      refine Run.pass rfl ?_
      refine Run.pass rfl ?_
      refine Run.q (v := .bool false) rfl (OpQ.y (OpY.pure rfl)) ?_
      refine Run.done ?_
      refine Run.cond (b := false) rfl (fun h => nomatch h) (fun _ => ?_)
      refine Run.exit rfl ?_
      refine Run.seq ?_
      refine Run.draws (by kernel_rfl) (by kernel_rfl) ?_
      refine Lex.q (v := .slice (some ⟨gr, 0, none⟩) n c_uo1) rfl (OpQ.y (OpY.load1 Tone_34 rfl (Cells.blk (.tail _ (List.Mem.head _)) ⟨rfl, trivial⟩))) ?_
      refine Lex.q (v := vg) rfl (OpQ.y (OpY.load1 Tone_46 rfl (Cells.blk (.head _) ⟨rfl, trivial⟩))) ?_
      refine Lex.q (v := .slice (some ⟨gr, 0, none⟩) n c_uo1) rfl (OpQ.y (OpY.pure rfl)) ?_
      refine Lex.q (v := vg) rfl (OpQ.y (OpY.pure rfl)) ?_
      refine Lex.done ?_
      refine Run.ret ?_
      refine ⟨.tuple #[.slice (some ⟨gr, 0, none⟩) n c_uo1, vg], [.own (.slice (some ⟨gr, 0, none⟩) n c_uo1) 3 1 n (ints ((elN n xs 40).1.1)), .own vg 50 3 ((elN n xs 40).1.2.length) (ints (flCX ((elN n xs 40).1.2)))], Out.two rfl rfl rfl, (Some'.weak (.skip (.skip (.takeEq (by rw [hend]) (.takeEq (by rw [hend]) (.nil _)))))), ?_⟩
      exact ⟨_, _, rfl, rfl⟩


theorem elR_le (n : Nat) (xs : List Int) (hx : xs.length = n) : (elR n xs).length ≤ 5 ∧ (elG n xs).length ≤ 240 := by
  unfold elR elG
  split
  · rename_i h
    simp only [rowsOk, Bool.and_eq_true] at h
    have h5 := within_iff.1 h.1
    have := elN_len hx (by omega) 40
    exact ⟨by omega, by omega⟩
  · simp

set_option maxHeartbeats 1000000 in
set_option maxRecDepth 20000 in
theorem sEliminateRows_spec {va : Value} {n : Nat} {xs : List Int} {w : World} (ha : Sl w va 1 n (ints xs)) : Calls Try.prog 27 #[va] w (Post No w fun v H => ∃ a b, ((elR n xs).length ≤ 5 ∧ (elG n xs).length ≤ 240) ∧ v = .tuple #[a, b, .bool (rowsOk xs n)] ∧ H = [.own a 3 1 (elR n xs).length (ints (elR n xs)), .own b 50 3 (elG n xs).length (ints (flCX (elG n xs)))]) := by
  have hxl : xs.length = n := by have := ha.len; omega
  obtain ⟨A, c, rfl, _, _⟩ := ha.form0
  have hle := elR_le n xs hxl
  refine enter (n := 23) (args := [.slice A n c]) Try.func27 rfl rfl (St.empty _ _) ?_
  refine Run.seq ?_
  refine Run.region ?_
  refine Run.q (v := .slice none 0 0) rfl (OpQ.y (OpY.pure rfl)) ?_
  refine Run.q (v := .slice none 0 0) rfl (OpQ.y (OpY.pure rfl)) ?_
  refine Run.q (v := .bool false) rfl (OpQ.y (OpY.pure rfl)) ?_
  refine Run.done ?_
  refine Run.seq ?_
  refine Run.seq ?_
  refine Run.region ?_
  refine Run.q (v := .slice A n c) rfl (OpQ.y (OpY.pure rfl)) ?_
  refine Run.q (v := .int .i64 (((n : Nat) : Int))) rfl (OpQ.y (OpY.len Tsl_34 rfl)) ?_
  refine Run.q (v := .bool (within (n : Int) 1 5)) rfl (OpQ.call (vs := [.int .i64 (((n : Nat) : Int)), .int .i64 1, .int .i64 5]) (caps := []) Tcall_41 rfl rfl (fun w hs => l1In_spec _ _ _ w)) ?_
  refine Run.q (v := .bool (!(within (n : Int) 1 5))) rfl (OpQ.y (OpY.pure rfl)) ?_
  rcases Bool.eq_false_or_eq_true (!(within (n : Int) 1 5)) with h11 | h11
  · refine Run.q (v := .bool true) rfl (OpQ.y (OpY.moveB rfl h11)) ?_
    have p11 := h11; try simp only [decide_eq_true_eq, decide_eq_false_iff_not, beq_iff_eq, bne_iff_ne, beq_eq_false_iff_ne, ne_eq, gt_iff_lt, ge_iff_le, Int.not_lt, Int.not_le, bne_eq_false_iff_eq, Bool.not_eq_true', Bool.not_eq_false', Bool.and_eq_true, Bool.and_eq_false_iff, Bool.or_eq_true, Bool.or_eq_false_iff, Decidable.not_not, List.cons.injEq, and_true] at p11
    refine Run.pass rfl ?_
    refine Run.pass rfl ?_
    refine Run.pass rfl ?_
    refine Run.q (v := .bool true) rfl (OpQ.y (OpY.pure rfl)) ?_
    refine Run.done ?_
    refine Run.cond (b := true) rfl (fun _ => ?_) (fun h => nomatch h)
    refine Run.seq ?_
    have hok : rowsOk xs n = false := by simp_all [rowsOk]
    have hr : elR n xs = [] := by rw [elR, hok]; rfl
    have hg : elG n xs = [] := by rw [elG, hok]; rfl
    refine Run.region ?_
    refine Run.q (v := .slice none 0 0) rfl (OpQ.y (OpY.pure rfl)) ?_
    refine Run.q (v := .slice none 0 0) rfl (OpQ.y (OpY.pure rfl)) ?_
    refine Run.q (v := .bool false) rfl (OpQ.y (OpY.pure rfl)) ?_
    refine Run.done ?_
    refine Run.ret ?_
    refine ⟨.tuple #[.slice none 0 0, .slice none 0 0, .bool false], [.own (.slice none 0 0) 3 1 ((elR n xs).length) (ints (elR n xs)), .own (.slice none 0 0) 50 3 ((elG n xs).length) (ints (flCX (elG n xs)))], Out.three rfl rfl rfl rfl, ((Weak.nilOwn 50 3).trans ((Weak.nilOwn 3 1).trans (Some'.weak (.takeEq (by first | (rw [hr, hln]; done) | (rw [hr]; done) | (rw [hg]; done) | (simp only [hr]; rfl) | (simp only [hg]; rfl)) (.takeEq (by first | (rw [hr, hln]; done) | (rw [hr]; done) | (rw [hg]; done) | (simp only [hr]; rfl) | (simp only [hg]; rfl)) (.nil _)))))), ?_⟩
    exact ⟨_, _, hle, by rw [hok], rfl⟩
  · refine Run.q (v := .bool false) rfl (OpQ.y (OpY.moveB rfl h11)) ?_
    have p11 := h11; try simp only [decide_eq_true_eq, decide_eq_false_iff_not, beq_iff_eq, bne_iff_ne, beq_eq_false_iff_ne, ne_eq, gt_iff_lt, ge_iff_le, Int.not_lt, Int.not_le, bne_eq_false_iff_eq, Bool.not_eq_true', Bool.not_eq_false', Bool.and_eq_true, Bool.and_eq_false_iff, Bool.or_eq_true, Bool.or_eq_false_iff, Decidable.not_not, List.cons.injEq, and_true] at p11
    refine Run.q (v := .slice A n c) rfl (OpQ.y (OpY.pure rfl)) ?_
    refine Run.q (v := .bool (!anyI (fun i => !within (ix xs i) 0 1099511627775) n)) rfl (OpQ.call (vs := [.slice A n c, .int .i64 0, .int .i64 1099511627775]) (caps := []) Tcall_57 rfl rfl (fun w hs => l1All_spec (hs.sl ha))) ?_
    refine Run.q (v := .bool (!(!anyI (fun i => !within (ix xs i) 0 1099511627775) n))) rfl (OpQ.y (OpY.pure rfl)) ?_
    refine Run.q (v := .bool (!(!anyI (fun i => !within (ix xs i) 0 1099511627775) n))) rfl (OpQ.y (OpY.pure rfl)) ?_
    refine Run.done ?_
    refine Run.cond (b := !(!anyI (fun i => !within (ix xs i) 0 1099511627775) n)) rfl (fun h15 => ?_) (fun h15 => ?_)
    · have p15 := h15; try simp only [decide_eq_true_eq, decide_eq_false_iff_not, beq_iff_eq, bne_iff_ne, beq_eq_false_iff_ne, ne_eq, gt_iff_lt, ge_iff_le, Int.not_lt, Int.not_le, bne_eq_false_iff_eq, Bool.not_eq_true', Bool.not_eq_false', Bool.and_eq_true, Bool.and_eq_false_iff, Bool.or_eq_true, Bool.or_eq_false_iff, Decidable.not_not, List.cons.injEq, and_true] at p15
      refine Run.seq ?_
      have hok : rowsOk xs n = false := by simp_all [rowsOk]
      have hr : elR n xs = [] := by rw [elR, hok]; rfl
      have hg : elG n xs = [] := by rw [elG, hok]; rfl
      refine Run.region ?_
      refine Run.q (v := .slice none 0 0) rfl (OpQ.y (OpY.pure rfl)) ?_
      refine Run.q (v := .slice none 0 0) rfl (OpQ.y (OpY.pure rfl)) ?_
      refine Run.q (v := .bool false) rfl (OpQ.y (OpY.pure rfl)) ?_
      refine Run.done ?_
      refine Run.ret ?_
      refine ⟨.tuple #[.slice none 0 0, .slice none 0 0, .bool false], [.own (.slice none 0 0) 3 1 ((elR n xs).length) (ints (elR n xs)), .own (.slice none 0 0) 50 3 ((elG n xs).length) (ints (flCX (elG n xs)))], Out.three rfl rfl rfl rfl, ((Weak.nilOwn 50 3).trans ((Weak.nilOwn 3 1).trans (Some'.weak (.takeEq (by first | (rw [hr, hln]; done) | (rw [hr]; done) | (rw [hg]; done) | (simp only [hr]; rfl) | (simp only [hg]; rfl)) (.takeEq (by first | (rw [hr, hln]; done) | (rw [hr]; done) | (rw [hg]; done) | (simp only [hr]; rfl) | (simp only [hg]; rfl)) (.nil _)))))), ?_⟩
      exact ⟨_, _, hle, by rw [hok], rfl⟩
    · have p15 := h15; try simp only [decide_eq_true_eq, decide_eq_false_iff_not, beq_iff_eq, bne_iff_ne, beq_eq_false_iff_ne, ne_eq, gt_iff_lt, ge_iff_le, Int.not_lt, Int.not_le, bne_eq_false_iff_eq, Bool.not_eq_true', Bool.not_eq_false', Bool.and_eq_true, Bool.and_eq_false_iff, Bool.or_eq_true, Bool.or_eq_false_iff, Decidable.not_not, List.cons.injEq, and_true] at p15
      refine Run.skip ?_
      refine Run.seq ?_
      have hok : rowsOk xs n = true := by simp_all [rowsOk]
      have hwn : within (n : Int) 1 5 = true := by simp_all [rowsOk]
      have hwn2 := within_iff.1 hwn
      have hr : elR n xs = (elN n xs 40).1.1 := by rw [elR, if_pos hok]
      have hg : elG n xs = (elN n xs 40).1.2 := by rw [elG, if_pos hok]
      have hln := (elN_len hxl (by omega) 40).1
      refine Run.region ?_
      refine Run.q (v := .slice A n c) rfl (OpQ.y (OpY.pure rfl)) ?_
      refine Run.step rfl (OpStep.call (vs := [.slice A n c]) (caps := []) Tcall_58 rfl rfl (fun w hs => l20Eliminate_spec (by omega) (by omega) (hs.sl ha)) ?_)
      rintro _ _ ⟨a1, b1, rfl, rfl⟩
      show Run _ _ (putF _ _ _ (.tuple #[a1, b1])) [.own a1 3 1 n (ints (elN n xs 40).1.1), .own b1 50 3 ((elN n xs 40).1.2.length) (ints (flCX (elN n xs 40).1.2))]
      refine Run.q (v := .tuple #[a1, b1]) rfl (OpQ.y (OpY.pure rfl)) ?_
      refine Run.q (v := a1) rfl (OpQ.y (OpY.pure rfl)) ?_
      refine Run.q (v := b1) rfl (OpQ.y (OpY.pure rfl)) ?_
      refine Run.q (v := a1) rfl (OpQ.y (OpY.pure rfl)) ?_
      refine Run.q (v := b1) rfl (OpQ.y (OpY.pure rfl)) ?_
      refine Run.done ?_
      refine Run.seq ?_
      refine Run.region ?_
      refine Run.q (v := a1) rfl (OpQ.y (OpY.pure rfl)) ?_
      refine Run.q (v := b1) rfl (OpQ.y (OpY.pure rfl)) ?_
      refine Run.q (v := a1) rfl (OpQ.y (OpY.pure rfl)) ?_
      refine Run.q (v := b1) rfl (OpQ.y (OpY.pure rfl)) ?_
      refine Run.q (v := .bool true) rfl (OpQ.y (OpY.pure rfl)) ?_
      refine Run.done ?_
      refine Run.ret ?_
      refine ⟨.tuple #[a1, b1, .bool true], [.own a1 3 1 ((elR n xs).length) (ints (elR n xs)), .own b1 50 3 ((elG n xs).length) (ints (flCX (elG n xs)))], Out.three rfl rfl rfl rfl, (Some'.weak (.takeEq (by first | (rw [hr, hln]; done) | (rw [hr]; done) | (rw [hg]; done) | (simp only [hr]; rfl) | (simp only [hg]; rfl)) (.takeEq (by first | (rw [hr, hln]; done) | (rw [hr]; done) | (rw [hg]; done) | (simp only [hr]; rfl) | (simp only [hg]; rfl)) (.nil _)))), ?_⟩
      exact ⟨_, _, hle, by rw [hok], rfl⟩

set_option maxHeartbeats 1000000 in
set_option maxRecDepth 20000 in
theorem EliminateRows_spec {va : Value} {n : Nat} {xs : List Int} {w : World} (ha : Sl w va 1 n (ints xs)) : Calls Try.prog 26 #[va] w (Post No w fun v H => ∃ a b, ((elR n xs).length ≤ 5 ∧ (elG n xs).length ≤ 240) ∧ v = .tuple #[a, b, .bool (rowsOk xs n)] ∧ H = [.own a 3 1 (elR n xs).length (ints (elR n xs)), .own b 50 3 (elG n xs).length (ints (flCX (elG n xs)))]) := by
  have hxl : xs.length = n := by have := ha.len; omega
  obtain ⟨A, c, rfl, _, _⟩ := ha.form0
  have hle := elR_le n xs hxl
  refine enter (n := 22) (args := [.slice A n c]) Try.func26 rfl rfl (St.empty _ _) ?_
  refine Run.seq ?_
  refine Run.region ?_
  refine Run.q (v := .slice none 0 0) rfl (OpQ.y (OpY.pure rfl)) ?_
  refine Run.q (v := .slice none 0 0) rfl (OpQ.y (OpY.pure rfl)) ?_
  refine Run.q (v := .bool false) rfl (OpQ.y (OpY.pure rfl)) ?_
  refine Run.done ?_
  refine Run.seq ?_
  refine Run.seq ?_
  refine Run.region ?_
  refine Run.q (v := .slice A n c) rfl (OpQ.y (OpY.pure rfl)) ?_
  refine Run.q (v := .int .i64 (((n : Nat) : Int))) rfl (OpQ.y (OpY.len Tsl_34 rfl)) ?_
  refine Run.q (v := .bool (within (n : Int) 1 5)) rfl (OpQ.call (vs := [.int .i64 (((n : Nat) : Int)), .int .i64 1, .int .i64 5]) (caps := []) Tcall_39 rfl rfl (fun w hs => within_spec _ _ _ w)) ?_
  refine Run.q (v := .bool (!(within (n : Int) 1 5))) rfl (OpQ.y (OpY.pure rfl)) ?_
  rcases Bool.eq_false_or_eq_true (!(within (n : Int) 1 5)) with h11 | h11
  · refine Run.q (v := .bool true) rfl (OpQ.y (OpY.moveB rfl h11)) ?_
    have p11 := h11; try simp only [decide_eq_true_eq, decide_eq_false_iff_not, beq_iff_eq, bne_iff_ne, beq_eq_false_iff_ne, ne_eq, gt_iff_lt, ge_iff_le, Int.not_lt, Int.not_le, bne_eq_false_iff_eq, Bool.not_eq_true', Bool.not_eq_false', Bool.and_eq_true, Bool.and_eq_false_iff, Bool.or_eq_true, Bool.or_eq_false_iff, Decidable.not_not, List.cons.injEq, and_true] at p11
    refine Run.pass rfl ?_
    refine Run.pass rfl ?_
    refine Run.q (v := .bool true) rfl (OpQ.y (OpY.pure rfl)) ?_
    refine Run.done ?_
    refine Run.cond (b := true) rfl (fun _ => ?_) (fun h => nomatch h)
    refine Run.seq ?_
    have hok : rowsOk xs n = false := by simp_all [rowsOk]
    have hr : elR n xs = [] := by rw [elR, hok]; rfl
    have hg : elG n xs = [] := by rw [elG, hok]; rfl
    refine Run.region ?_
    refine Run.q (v := .slice none 0 0) rfl (OpQ.y (OpY.pure rfl)) ?_
    refine Run.q (v := .slice none 0 0) rfl (OpQ.y (OpY.pure rfl)) ?_
    refine Run.q (v := .bool false) rfl (OpQ.y (OpY.pure rfl)) ?_
    refine Run.done ?_
    refine Run.ret ?_
    refine ⟨.tuple #[.slice none 0 0, .slice none 0 0, .bool false], [.own (.slice none 0 0) 3 1 ((elR n xs).length) (ints (elR n xs)), .own (.slice none 0 0) 50 3 ((elG n xs).length) (ints (flCX (elG n xs)))], Out.three rfl rfl rfl rfl, ((Weak.nilOwn 50 3).trans ((Weak.nilOwn 3 1).trans (Some'.weak (.takeEq (by first | (rw [hr, hln]; done) | (rw [hr]; done) | (rw [hg]; done) | (simp only [hr]; rfl) | (simp only [hg]; rfl)) (.takeEq (by first | (rw [hr, hln]; done) | (rw [hr]; done) | (rw [hg]; done) | (simp only [hr]; rfl) | (simp only [hg]; rfl)) (.nil _)))))), ?_⟩
    exact ⟨_, _, hle, by rw [hok], rfl⟩
  · refine Run.q (v := .bool false) rfl (OpQ.y (OpY.moveB rfl h11)) ?_
    have p11 := h11; try simp only [decide_eq_true_eq, decide_eq_false_iff_not, beq_iff_eq, bne_iff_ne, beq_eq_false_iff_ne, ne_eq, gt_iff_lt, ge_iff_le, Int.not_lt, Int.not_le, bne_eq_false_iff_eq, Bool.not_eq_true', Bool.not_eq_false', Bool.and_eq_true, Bool.and_eq_false_iff, Bool.or_eq_true, Bool.or_eq_false_iff, Decidable.not_not, List.cons.injEq, and_true] at p11
    refine Run.q (v := .slice A n c) rfl (OpQ.y (OpY.pure rfl)) ?_
    refine Run.q (v := .bool (anyI (fun i => !within (ix xs i) 0 1099511627775) n)) rfl (OpQ.call (vs := [.slice A n c, .func (.func 55) #[] #[]]) (caps := []) Tcall_54 rfl rfl (fun w hs => ContainsFuncRowBad_spec (hs.sl ha))) ?_
    refine Run.q (v := .bool (anyI (fun i => !within (ix xs i) 0 1099511627775) n)) rfl (OpQ.y (OpY.pure rfl)) ?_
    refine Run.done ?_
    refine Run.cond (b := anyI (fun i => !within (ix xs i) 0 1099511627775) n) rfl (fun h14 => ?_) (fun h14 => ?_)
    · have p14 := h14; try simp only [decide_eq_true_eq, decide_eq_false_iff_not, beq_iff_eq, bne_iff_ne, beq_eq_false_iff_ne, ne_eq, gt_iff_lt, ge_iff_le, Int.not_lt, Int.not_le, bne_eq_false_iff_eq, Bool.not_eq_true', Bool.not_eq_false', Bool.and_eq_true, Bool.and_eq_false_iff, Bool.or_eq_true, Bool.or_eq_false_iff, Decidable.not_not, List.cons.injEq, and_true] at p14
      refine Run.seq ?_
      have hok : rowsOk xs n = false := by simp_all [rowsOk]
      have hr : elR n xs = [] := by rw [elR, hok]; rfl
      have hg : elG n xs = [] := by rw [elG, hok]; rfl
      refine Run.region ?_
      refine Run.q (v := .slice none 0 0) rfl (OpQ.y (OpY.pure rfl)) ?_
      refine Run.q (v := .slice none 0 0) rfl (OpQ.y (OpY.pure rfl)) ?_
      refine Run.q (v := .bool false) rfl (OpQ.y (OpY.pure rfl)) ?_
      refine Run.done ?_
      refine Run.ret ?_
      refine ⟨.tuple #[.slice none 0 0, .slice none 0 0, .bool false], [.own (.slice none 0 0) 3 1 ((elR n xs).length) (ints (elR n xs)), .own (.slice none 0 0) 50 3 ((elG n xs).length) (ints (flCX (elG n xs)))], Out.three rfl rfl rfl rfl, ((Weak.nilOwn 50 3).trans ((Weak.nilOwn 3 1).trans (Some'.weak (.takeEq (by first | (rw [hr, hln]; done) | (rw [hr]; done) | (rw [hg]; done) | (simp only [hr]; rfl) | (simp only [hg]; rfl)) (.takeEq (by first | (rw [hr, hln]; done) | (rw [hr]; done) | (rw [hg]; done) | (simp only [hr]; rfl) | (simp only [hg]; rfl)) (.nil _)))))), ?_⟩
      exact ⟨_, _, hle, by rw [hok], rfl⟩
    · have p14 := h14; try simp only [decide_eq_true_eq, decide_eq_false_iff_not, beq_iff_eq, bne_iff_ne, beq_eq_false_iff_ne, ne_eq, gt_iff_lt, ge_iff_le, Int.not_lt, Int.not_le, bne_eq_false_iff_eq, Bool.not_eq_true', Bool.not_eq_false', Bool.and_eq_true, Bool.and_eq_false_iff, Bool.or_eq_true, Bool.or_eq_false_iff, Decidable.not_not, List.cons.injEq, and_true] at p14
      refine Run.skip ?_
      refine Run.seq ?_
      have hok : rowsOk xs n = true := by simp_all [rowsOk]
      have hwn : within (n : Int) 1 5 = true := by simp_all [rowsOk]
      have hwn2 := within_iff.1 hwn
      have hr : elR n xs = (elN n xs 40).1.1 := by rw [elR, if_pos hok]
      have hg : elG n xs = (elN n xs 40).1.2 := by rw [elG, if_pos hok]
      have hln := (elN_len hxl (by omega) 40).1
      refine Run.region ?_
      refine Run.q (v := .slice A n c) rfl (OpQ.y (OpY.pure rfl)) ?_
      refine Run.step rfl (OpStep.call (vs := [.slice A n c]) (caps := []) Tcall_56 rfl rfl (fun w hs => eliminateRows_spec (by omega) (by omega) (hs.sl ha)) ?_)
      rintro _ _ ⟨a1, b1, rfl, rfl⟩
      show Run _ _ (putF _ _ _ (.tuple #[a1, b1])) [.own a1 3 1 n (ints (elN n xs 40).1.1), .own b1 50 3 ((elN n xs 40).1.2.length) (ints (flCX (elN n xs 40).1.2))]
      refine Run.q (v := .tuple #[a1, b1]) rfl (OpQ.y (OpY.pure rfl)) ?_
      refine Run.q (v := a1) rfl (OpQ.y (OpY.pure rfl)) ?_
      refine Run.q (v := b1) rfl (OpQ.y (OpY.pure rfl)) ?_
      refine Run.q (v := a1) rfl (OpQ.y (OpY.pure rfl)) ?_
      refine Run.q (v := b1) rfl (OpQ.y (OpY.pure rfl)) ?_
      refine Run.done ?_
      refine Run.seq ?_
      refine Run.region ?_
      refine Run.q (v := a1) rfl (OpQ.y (OpY.pure rfl)) ?_
      refine Run.q (v := b1) rfl (OpQ.y (OpY.pure rfl)) ?_
      refine Run.q (v := a1) rfl (OpQ.y (OpY.pure rfl)) ?_
      refine Run.q (v := b1) rfl (OpQ.y (OpY.pure rfl)) ?_
      refine Run.q (v := .bool true) rfl (OpQ.y (OpY.pure rfl)) ?_
      refine Run.done ?_
      refine Run.ret ?_
      refine ⟨.tuple #[a1, b1, .bool true], [.own a1 3 1 ((elR n xs).length) (ints (elR n xs)), .own b1 50 3 ((elG n xs).length) (ints (flCX (elG n xs)))], Out.three rfl rfl rfl rfl, (Some'.weak (.takeEq (by first | (rw [hr, hln]; done) | (rw [hr]; done) | (rw [hg]; done) | (simp only [hr]; rfl) | (simp only [hg]; rfl)) (.takeEq (by first | (rw [hr, hln]; done) | (rw [hr]; done) | (rw [hg]; done) | (simp only [hr]; rfl) | (simp only [hg]; rfl)) (.nil _)))), ?_⟩
      exact ⟨_, _, hle, by rw [hok], rfl⟩

end Go.Proofs.Ytgghmjijjdboeaa
