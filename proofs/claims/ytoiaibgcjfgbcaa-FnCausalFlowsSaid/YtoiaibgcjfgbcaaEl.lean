/- Walks: the elimination of rows. -/
import Derived.Test.YtoiaibgcjfgbcaaCg3
import Derived.Test.YtoiaibgcjfgbcaaInts
import Derived.Test.YtoiaibgcjfgbcaaProg
set_option linter.unusedSimpArgs false
set_option linter.unusedVariables false
namespace Go.Proofs.Ytoiaibgcjfgbcaa
open Go Go.RowKit
namespace ElT
theorem Tcall_55 : callable Try.prog 55 = true := by kernel_rfl
theorem Tone_3 : oneOf Try.prog 3 = true := by kernel_rfl
theorem Tsl_24 : sliceOf Try.prog 24 = some (3, 1, 8, [.int .i64 0]) := by kernel_rfl
end ElT
open ElT

/-- Bit j of a number. -/
def bitI (x : Int) (j : Nat) : Bool := decide ((x >>> j) % 2 = 1)
theorem bitI_true {x : Int} {j : Nat} (h : (x >>> j) % 2 = 1) : bitI x j = true := decide_eq_true h
theorem bitI_false {x : Int} {j : Nat} (h : (x >>> j) % 2 = 0) : bitI x j = false := decide_eq_false (by omega)
theorem bitI_ne {x : Int} {j : Nat} (h : ¬ (x >>> j) % 2 = 0) : bitI x j = true := decide_eq_true (by omega)
theorem bitI_ne1 {x : Int} {j : Nat} (h : ¬ (x >>> j) % 2 = 1) : bitI x j = false := decide_eq_false h
/-- The first number from i on with the property, among m; else i + m. -/
def scanR (p : Nat → Bool) : Nat → Nat → Nat
  | i, 0 => i
  | i, m + 1 => if p i then i else scanR p (i + 1) m
theorem scanR_hit {p : Nat → Bool} {i n : Nat} (h : i < n) (hp : p i = true) : scanR p i (n - i) = i := by
  obtain ⟨m, hm⟩ : ∃ m, n - i = m + 1 := ⟨n - i - 1, by omega⟩
  rw [hm, scanR, if_pos hp]
theorem scanR_miss {p : Nat → Bool} {i n : Nat} (h : i < n) (hp : p i = false) : scanR p i (n - i) = scanR p (i + 1) (n - (i + 1)) := by
  obtain ⟨m, hm⟩ : ∃ m, n - i = m + 1 := ⟨n - i - 1, by omega⟩
  rw [hm, scanR, if_neg (by rw [hp]; decide), show n - (i + 1) = m by omega]
theorem scanR_end {p : Nat → Bool} {n : Nat} : scanR p n (n - n) = n := by rw [Nat.sub_self]; rfl
/-- Additions of rows as gates. -/
def flCX : List (Nat × Nat) → List Int
  | [] => []
  | (a, b) :: l => 9 :: (a : Int) :: (b : Int) :: flCX l
@[simp] theorem flCX_length : ∀ l : List (Nat × Nat), (flCX l).length = l.length * 3
  | [] => rfl
  | (_, _) :: l => by simp only [flCX, List.length_cons, flCX_length l]; omega
theorem flCX_append : ∀ l m : List (Nat × Nat), flCX (l ++ m) = flCX l ++ flCX m
  | [], _ => rfl
  | (a, b) :: l, m => by simp only [List.cons_append, flCX, flCX_append l m]
theorem ints_flCX (l : List (Nat × Nat)) (a b : Nat) : ints (flCX l) ++ [.int .i64 9, .int .i64 (a : Int), .int .i64 (b : Int)] = ints (flCX (l ++ [(a, b)])) := by
  rw [flCX_append, ints_append]; rfl
/-- Row u is added to row t. -/
def addR (s : List Int × List (Nat × Nat)) (t u : Nat) : List Int × List (Nat × Nat) := (s.1.set t (bits .xor .i64 (ix s.1 t) (ix s.1 u)), s.2 ++ [(t, u)])
def clrR (j r : Nat) : Nat → List Int × List (Nat × Nat) → List Int × List (Nat × Nat)
  | 0, s => s
  | k + 1, s => if k ≠ r ∧ bitI (ix (clrR j r k s).1 k) j = true then addR (clrR j r k s) k r else clrR j r k s
theorem clrR_len (j r : Nat) (s : List Int × List (Nat × Nat)) : ∀ k, (clrR j r k s).1.length = s.1.length ∧ (clrR j r k s).2.length ≤ s.2.length + k
  | 0 => ⟨rfl, Nat.le_refl _⟩
  | k + 1 => by
    have ih := clrR_len j r s k
    simp only [clrR]
    split
    · exact ⟨by simp [addR, ih.1], by simp [addR]; omega⟩
    · exact ⟨ih.1, by omega⟩
/-- The column j. -/
def el1 (n j : Nat) (q : (List Int × List (Nat × Nat)) × Nat) : (List Int × List (Nat × Nat)) × Nat :=
  if scanR (fun i => bitI (ix q.1.1 i) j) q.2 (n - q.2) = n then q
  else (clrR j q.2 n (if scanR (fun i => bitI (ix q.1.1 i) j) q.2 (n - q.2) = q.2 then q.1 else addR q.1 q.2 (scanR (fun i => bitI (ix q.1.1 i) j) q.2 (n - q.2))), q.2 + 1)
def elN (n : Nat) (xs : List Int) : Nat → (List Int × List (Nat × Nat)) × Nat
  | 0 => ((xs, []), 0)
  | j + 1 => el1 n j (elN n xs j)
theorem elN_stop {n : Nat} {xs : List Int} {j : Nat} (h : (elN n xs j).2 = n) : ∀ m, elN n xs (j + m) = elN n xs j
  | 0 => rfl
  | m + 1 => by
    rw [← Nat.add_assoc, elN, elN_stop h m, el1, h, scanR_end, if_pos rfl]
def addN (s : List Int × List (Nat × Nat)) (n : Nat) : Prop := s.1.length = n
theorem elN_len {n : Nat} {xs : List Int} (hx : xs.length = n) (h5 : n ≤ 5) : ∀ j, (elN n xs j).1.1.length = n ∧ (elN n xs j).1.2.length ≤ 6 * j
  | 0 => ⟨hx, Nat.le_refl _⟩
  | j + 1 => by
    have ih := elN_len hx h5 j
    simp only [elN, el1]
    split
    · exact ⟨ih.1, by omega⟩
    · split
      · have := clrR_len j (elN n xs j).2 (elN n xs j).1 n
        refine ⟨?_, ?_⟩ <;> dsimp only <;> omega
      · have := clrR_len j (elN n xs j).2 (addR (elN n xs j).1 (elN n xs j).2 (scanR (fun i => bitI (ix (elN n xs j).1.1 i) j) (elN n xs j).2 (n - (elN n xs j).2))) n
        simp only [addR, List.length_set, List.length_append, List.length_cons, List.length_nil] at this ⊢
        refine ⟨?_, ?_⟩ <;> omega
def rowsOk (xs : List Int) (n : Nat) : Bool := within (n : Int) 1 5 && !anyI (fun i => !within (ix xs i) 0 1099511627775) n
def elR (n : Nat) (xs : List Int) : List Int := if rowsOk xs n then (elN n xs 40).1.1 else []
def elG (n : Nat) (xs : List Int) : List (Nat × Nat) := if rowsOk xs n then (elN n xs 40).1.2 else []
theorem allI_any (p : Nat → Bool) (n : Nat) : anyI (fun i => !p i) n = false ↔ ∀ i, i < n → p i = true := by
  constructor
  · intro h i hi
    cases hp : p i with
    | true => rfl
    | false => rw [anyI_true hi (by simp [hp])] at h; cases h
  · intro h
    exact anyI_false fun i hi => by simp [h i hi]

set_option maxHeartbeats 1000000 in
set_option maxRecDepth 20000 in
theorem l1Own_spec {va : Value} {n : Nat} {xs : List Int} {w : World} (hb : n ≤ 1048576) (ha : Sl w va 1 n (ints xs)) : Calls Try.prog 59 #[va] w (Post No w fun v H => H = [.own v 3 1 n (ints xs)]) := by
 have hxl := ha.len
 refine enter (n := 6) (args := [va]) Try.func59 rfl rfl (St.empty _ _) ?_
 refine Run.sr ?_
 refine Run.p (.slice none 0 0) rfl rfl ?_
 refine Run.dsr ?_
 refine Run.step rfl (OpStep.buildSlice (us := []) Tsl_24 (by decide) (by decide) rfl rfl fun b1 => ?_)
 refine Run.p (va) rfl rfl ?_
 refine Run.step rfl (OpStep.append (H1 := []) (H2 := []) (v := .slice (some ⟨b1, 0, none⟩) 0 0) (u := va) (n := 0) (m := n) (xs := []) (ys := ints xs) Tsl_24 (by decide) rfl rfl rfl rfl (fun w hs => hs.sl ha) (by exact ints_all xs) (by omega) (by simp only [maxLen]; omega) fun av1 hnav1 => ?_)
 refine Run.weak (H' := [.own av1 3 1 n (ints xs)]) (Some'.weak (.takeEq (by simp) (.nil _))) ?_ ⟨_, _, rfl, fun _ => nofun, fun _ => nofun⟩
 refine Run.p (av1) rfl rfl ?_
 refine Run.done ?_
 refine Run.ret ?_
 refine ⟨av1, [.own av1 3 1 n (ints xs)], Out.one rfl rfl, (Some'.weak (.take (.nil _))), ?_⟩
 rfl

set_option maxHeartbeats 1000000 in
set_option maxRecDepth 20000 in
theorem CloneInt_spec {va : Value} {n : Nat} {xs : List Int} {w : World} (hb : n ≤ 1048576) (h0 : 0 < n) (ha : Sl w va 1 n (ints xs)) : Calls Try.prog 28 #[va] w (Post No w fun v H => H = [.own v 3 1 n (ints xs)]) := by
 have hxl := ha.len
 obtain ⟨A, c, rfl, _, _⟩ := ha.form0
 obtain ⟨b, o, rfl⟩ := ha.opn h0
 refine enter (n := 8) (args := [.slice (some ⟨b, o, none⟩) n c]) Try.func28 rfl rfl (St.empty _ _) ?_
 refine Run.sr ?_
 refine Run.p (.slice none 0 0) rfl rfl ?_
 refine Run.done ?_
 refine Run.seq ?_
 refine Run.sr ?_
 refine Run.p (.slice (some ⟨b, o, none⟩) n c) rfl rfl ?_
 refine Run.y (.bool false) rfl (OpY.eqNilSome Tsl_24 rfl rfl) ?_
 refine Run.done ?_
 refine Run.cond (b := false) rfl (fun h => nomatch h) (fun _ => ?_)
 refine Run.skip ?_
 refine Run.sr ?_
 refine Run.step rfl (OpStep.buildSlice (us := []) Tsl_24 (by decide) (by decide) rfl rfl fun b1 => ?_)
 refine Run.p (.slice (some ⟨b, o, none⟩) n c) rfl rfl ?_
 refine Run.step rfl (OpStep.append (H1 := []) (H2 := []) (v := .slice (some ⟨b1, 0, none⟩) 0 0) (u := .slice (some ⟨b, o, none⟩) n c) (n := 0) (m := n) (xs := []) (ys := ints xs) Tsl_24 (by decide) rfl rfl rfl rfl (fun w hs => hs.sl ha) (by exact ints_all xs) (by omega) (by simp only [maxLen]; omega) fun av1 hnav1 => ?_)
 refine Run.weak (H' := [.own av1 3 1 n (ints xs)]) (Some'.weak (.takeEq (by simp) (.nil _))) ?_ ⟨_, _, rfl, fun _ => nofun, fun _ => nofun⟩
 refine Run.p (av1) rfl rfl ?_
 refine Run.done ?_
 refine Run.ret ?_
 refine ⟨av1, [.own av1 3 1 n (ints xs)], Out.one rfl rfl, (Some'.weak (.take (.nil _))), ?_⟩
 rfl

set_option maxHeartbeats 1000000 in
set_option maxRecDepth 20000 in
theorem l1All_spec {va : Value} {n : Nat} {xs : List Int} {lo hi : Int} {w : World} (ha : Sl w va 1 n (ints xs)) : Calls Try.prog 66 #[va, .int .i64 lo, .int .i64 hi] w (Post No w fun v _ => v = .bool (!anyI (fun i => !within (ix xs i) lo hi) n)) := by
 have hxl := ha.len
 have hn := ha.le
 obtain ⟨A, c, rfl, _, _⟩ := ha.form0
 refine enter (n := 21) (args := [.slice A n c, .int .i64 lo, .int .i64 hi]) Try.func66 rfl rfl (St.empty _ _) ?_
 refine Run.sr ?_
 refine Run.p (.bool false) rfl rfl ?_
 refine Run.done ?_
 refine Run.seq ?_
 refine Run.sr ?_
 refine Run.p (.slice A n c) rfl rfl ?_
 refine Run.y (.int .i64 (((n : Nat) : Int))) rfl (OpY.len Tsl_24 rfl) ?_
 refine Run.p (.int .i64 0) rfl rfl ?_
 refine Run.done ?_
 refine Run.block ?_
 refine Run.loop (ι := Nat) [6, 8, 11, 12, 13, 14, 15, 16, 17, 18, 19, 20] (fun k => [(11, .int .i64 (((k : Nat) : Int)))]) (fun k => []) (fun k => k ≤ n ∧ (∀ i, i < k → (!within (ix xs i) lo hi) = false)) (fun k => n - k) 0 ?_ ?_ ?_ ?_
 ·exact ⟨Nat.zero_le _, by first | trivial | (intro i hi; omega)⟩
 ·exact ⟨rfl, trivial⟩
 ·exact (Some'.weak (.nil _))
 ·rintro k fr hinv
  show Run _ _ (over _ _ [(11, .int .i64 (((k : Nat) : Int)))] fr) []
  try dsimp only at hinv
  refine Run.sr ?_
  refine Run.p (.bool (decide ((((k : Nat) : Int)) < (((n : Nat) : Int))))) rfl rfl ?_
  refine Run.done ?_
  refine Run.seq ?_
  refine Run.cond (b := decide ((((k : Nat) : Int)) < (((n : Nat) : Int)))) rfl (fun h12 => ?_) (fun h12 => ?_)
  ·have p12 := h12; try simp only [bs] at p12
   have hltk : k < n := by omega
   obtain ⟨b, o, rfl⟩ := ha.opn (by omega)
   refine Run.skip ?_
   refine Run.seq ?_
   refine Run.block ?_
   refine Run.sr ?_
   refine Run.y (.pointer (some ⟨b, o + k, none⟩)) rfl (OpY.index (kk := k) Tsl_24 rfl rfl (by omega) (by omega) (by first | rfl | omega)) ?_
   refine Run.y (.int .i64 (ix xs (k))) rfl (OpY.load1 Tone_3 rfl (Cells.arg (k := k) ha rfl (by omega) (pre1 (by omega)))) ?_
   refine Run.p (.int .i64 (ix xs (k))) rfl rfl ?_
   refine Run.dsr ?_
   refine Run.p (.int .i64 (ix xs (k))) rfl rfl ?_
   refine Run.p (.int .i64 lo) rfl rfl ?_
   refine Run.p (.int .i64 hi) rfl rfl ?_
   refine Run.q (v := .bool (within (ix xs k) lo hi)) rfl (OpQ.call (vs := [.int .i64 (ix xs (k)), .int .i64 lo, .int .i64 hi]) (caps := []) Tcall_55 rfl rfl (fun w hs => l1In_spec _ _ _ w)) ?_
   refine Run.p (.bool (!(within (ix xs k) lo hi))) rfl rfl ?_
   refine Run.done ?_
   refine Run.cond (b := !(within (ix xs k) lo hi)) rfl (fun h19 => ?_) (fun h19 => ?_)
   ·have p19 := h19; try simp only [bs] at p19
    refine Run.seq ?_
    have hres : anyI (fun i => !within (ix xs i) lo hi) n = true := anyI_true hltk h19
    refine Run.region ?_
    refine Run.p (.bool false) rfl rfl ?_
    refine Run.done ?_
    refine Run.ret ?_
    refine ⟨.bool false, [], Out.one rfl rfl, (Some'.weak (.nil _)), ?_⟩
    show _ = _; rw [hres]; rfl
   ·have p19 := h19; try simp only [bs] at p19
    refine Run.skip ?_
    refine Run.blockEnd ?_
    have hgood : (!within (ix xs k) lo hi) = false := h19
    refine Run.region ?_
    refine Run.y (.int .i64 ((((k : Nat) : Int)) + 1)) rfl (OpY.add rfl rfl rfl (by omega) (by omega)) ?_
    refine Run.p (.int .i64 ((((k : Nat) : Int)) + 1)) rfl rfl ?_
    refine Run.done ?_
    refine Run.goal ⟨(by repeat (first | exact Same.refl _ _ | refine Same.put rfl ?_ | refine Same.over rfl rfl ?_)), k + 1, ?_, ?_, ?_, ?_⟩
    ·refine ⟨by omega, ?_⟩
     intro i hi
     rcases Nat.lt_succ_iff_lt_or_eq.1 hi with h | h
     ·exact hinv.2 i h
     ·rw [h]; exact hgood
    ·omega
    ·exact ⟨(by first | rfl | (congr 1; omega) | simp), trivial⟩
    ·exact (Some'.weak (.nil _))
  ·have p12 := h12; try simp only [bs] at p12
   have hknk : k = n := by omega
   have hres : anyI (fun i => !within (ix xs i) lo hi) n = false := by rw [← hknk]; exact anyI_false hinv.2
   refine Run.exit rfl ?_
   refine Run.sr ?_
   refine Run.p (.bool true) rfl rfl ?_
   refine Run.done ?_
   refine Run.ret ?_
   refine ⟨.bool true, [], Out.one rfl rfl, (Some'.weak (.nil _)), ?_⟩
   show _ = _; rw [hres]; rfl


theorem elR_le (n : Nat) (xs : List Int) (hx : xs.length = n) : (elR n xs).length ≤ 5 ∧ (elG n xs).length ≤ 240 := by
  unfold elR elG
  split
  · rename_i h
    simp only [rowsOk, Bool.and_eq_true] at h
    have h5 := within_iff.1 h.1
    have := elN_len hx (by omega) 40
    exact ⟨by omega, by omega⟩
  · simp

end Go.Proofs.Ytoiaibgcjfgbcaa
