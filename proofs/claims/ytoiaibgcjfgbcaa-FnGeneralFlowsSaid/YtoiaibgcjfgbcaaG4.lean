/- Walks: the laws' own functions on slices of int. -/
import Derived.Test.YtoiaibgcjfgbcaaG2
import Derived.Test.YtoiaibgcjfgbcaaProg
import Derived.Test.YtoiaibgcjfgbcaaG3
set_option linter.unusedSimpArgs false
set_option linter.unusedVariables false
namespace Go.Proofs.Ytoiaibgcjfgbcaa
open Go Go.RowKit
end Go.Proofs.Ytoiaibgcjfgbcaa
/- Walks: the elimination of rows. -/
set_option linter.unusedSimpArgs false
set_option linter.unusedVariables false
namespace Go.Proofs.Ytoiaibgcjfgbcaa
open Go Go.RowKit
namespace ElT
theorem Tcall_55 : callable Try.prog 55 = true := by kernel_rfl
theorem Tone_3 : oneOf Try.prog 3 = true := by kernel_rfl
theorem Tsl_24 : sliceOf Try.prog 24 = some (3, 1, 8, [.int .i64 0]) := by kernel_rfl
end ElT
open ElT
/-- Bit j of a number. -/
def bitI (x : Int) (j : Nat) : Bool := decide ((x >>> j) % 2 = 1)
theorem bitI_true {x : Int} {j : Nat} (h : (x >>> j) % 2 = 1) : bitI x j = true := decide_eq_true h
theorem bitI_false {x : Int} {j : Nat} (h : (x >>> j) % 2 = 0) : bitI x j = false := decide_eq_false (by omega)
theorem bitI_ne {x : Int} {j : Nat} (h : ¬ (x >>> j) % 2 = 0) : bitI x j = true := decide_eq_true (by omega)
theorem bitI_ne1 {x : Int} {j : Nat} (h : ¬ (x >>> j) % 2 = 1) : bitI x j = false := decide_eq_false h
/-- Additions of rows as gates. -/
def flCX : List (Nat × Nat) → List Int
  | [] => []
  | (a, b) :: l => 9 :: (a : Int) :: (b : Int) :: flCX l
@[simp] theorem flCX_length : ∀ l : List (Nat × Nat), (flCX l).length = l.length * 3
  | [] => rfl
  | (_, _) :: l => by simp only [flCX, List.length_cons, flCX_length l]; omega
theorem allI_any (p : Nat → Bool) (n : Nat) : anyI (fun i => !p i) n = false ↔ ∀ i, i < n → p i = true := by
  constructor
  · intro h i hi
    cases hp : p i with
    | true => rfl
    | false => rw [anyI_true hi (by simp [hp])] at h; cases h
  · intro h
    exact anyI_false fun i hi => by simp [h i hi]

set_option maxHeartbeats 1000000 in
set_option maxRecDepth 20000 in
theorem l1All_spec {va : Value} {n : Nat} {xs : List Int} {lo hi : Int} {w : World} (ha : Sl w va 1 n (ints xs)) : Calls Try.prog 66 #[va, .int .i64 lo, .int .i64 hi] w (Post No w fun v _ => v = .bool (!anyI (fun i => !within (ix xs i) lo hi) n)) := by
 have hxl := ha.len
 have hn := ha.le
 obtain ⟨A, c, rfl, _, _⟩ := ha.form0
 refine enter (n := 21) (args := [.slice A n c, .int .i64 lo, .int .i64 hi]) Try.func66 rfl rfl (St.empty _ _) ?_
 refine Run.sr ?_
 refine Run.p (.bool false) rfl rfl ?_
 refine Run.done ?_
 refine Run.seq ?_
 refine Run.sr ?_
 refine Run.p (.slice A n c) rfl rfl ?_
 refine Run.y (.int .i64 (((n : Nat) : Int))) rfl (OpY.len Tsl_24 rfl) ?_
 refine Run.p (.int .i64 0) rfl rfl ?_
 refine Run.done ?_
 refine Run.block ?_
 refine Run.loop (ι := Nat) [6, 8, 11, 12, 13, 14, 15, 16, 17, 18, 19, 20] (fun k => [(11, .int .i64 (((k : Nat) : Int)))]) (fun k => []) (fun k => k ≤ n ∧ (∀ i, i < k → (!within (ix xs i) lo hi) = false)) (fun k => n - k) 0 ?_ ?_ ?_ ?_
 ·exact ⟨Nat.zero_le _, by first | trivial | (intro i hi; omega)⟩
 ·exact ⟨rfl, trivial⟩
 ·exact (Some'.weak (.nil _))
 ·rintro k fr hinv
  show Run _ _ (over _ _ [(11, .int .i64 (((k : Nat) : Int)))] fr) []
  try dsimp only at hinv
  refine Run.sr ?_
  refine Run.p (.bool (decide ((((k : Nat) : Int)) < (((n : Nat) : Int))))) rfl rfl ?_
  refine Run.done ?_
  refine Run.seq ?_
  refine Run.cond (b := decide ((((k : Nat) : Int)) < (((n : Nat) : Int)))) rfl (fun h12 => ?_) (fun h12 => ?_)
  ·have p12 := h12; try simp only [bs] at p12
   have hltk : k < n := by omega
   obtain ⟨b, o, rfl⟩ := ha.opn (by omega)
   refine Run.skip ?_
   refine Run.seq ?_
   refine Run.block ?_
   refine Run.sr ?_
   refine Run.y (.pointer (some ⟨b, o + k, none⟩)) rfl (OpY.index (kk := k) Tsl_24 rfl rfl (by omega) (by omega) (by first | rfl | omega)) ?_
   refine Run.y (.int .i64 (ix xs (k))) rfl (OpY.load1 Tone_3 rfl (Cells.arg (k := k) ha rfl (by omega) (pre1 (by omega)))) ?_
   refine Run.p (.int .i64 (ix xs (k))) rfl rfl ?_
   refine Run.dsr ?_
   refine Run.p (.int .i64 (ix xs (k))) rfl rfl ?_
   refine Run.p (.int .i64 lo) rfl rfl ?_
   refine Run.p (.int .i64 hi) rfl rfl ?_
   refine Run.q (v := .bool (within (ix xs k) lo hi)) rfl (OpQ.call (vs := [.int .i64 (ix xs (k)), .int .i64 lo, .int .i64 hi]) (caps := []) Tcall_55 rfl rfl (fun w hs => l1In_spec _ _ _ w)) ?_
   refine Run.p (.bool (!(within (ix xs k) lo hi))) rfl rfl ?_
   refine Run.done ?_
   refine Run.cond (b := !(within (ix xs k) lo hi)) rfl (fun h19 => ?_) (fun h19 => ?_)
   ·have p19 := h19; try simp only [bs] at p19
    refine Run.seq ?_
    have hres : anyI (fun i => !within (ix xs i) lo hi) n = true := anyI_true hltk h19
    refine Run.region ?_
    refine Run.p (.bool false) rfl rfl ?_
    refine Run.done ?_
    refine Run.ret ?_
    refine ⟨.bool false, [], Out.one rfl rfl, (Some'.weak (.nil _)), ?_⟩
    show _ = _; rw [hres]; rfl
   ·have p19 := h19; try simp only [bs] at p19
    refine Run.skip ?_
    refine Run.blockEnd ?_
    have hgood : (!within (ix xs k) lo hi) = false := h19
    refine Run.region ?_
    refine Run.y (.int .i64 ((((k : Nat) : Int)) + 1)) rfl (OpY.add rfl rfl rfl (by omega) (by omega)) ?_
    refine Run.p (.int .i64 ((((k : Nat) : Int)) + 1)) rfl rfl ?_
    refine Run.done ?_
    refine Run.goal ⟨(by repeat (first | exact Same.refl _ _ | refine Same.put rfl ?_ | refine Same.over rfl rfl ?_)), k + 1, ?_, ?_, ?_, ?_⟩
    ·refine ⟨by omega, ?_⟩
     intro i hi
     rcases Nat.lt_succ_iff_lt_or_eq.1 hi with h | h
     ·exact hinv.2 i h
     ·rw [h]; exact hgood
    ·omega
    ·exact ⟨(by first | rfl | (congr 1; omega) | simp), trivial⟩
    ·exact (Some'.weak (.nil _))
  ·have p12 := h12; try simp only [bs] at p12
   have hknk : k = n := by omega
   have hres : anyI (fun i => !within (ix xs i) lo hi) n = false := by rw [← hknk]; exact anyI_false hinv.2
   refine Run.exit rfl ?_
   refine Run.sr ?_
   refine Run.p (.bool true) rfl rfl ?_
   refine Run.done ?_
   refine Run.ret ?_
   refine ⟨.bool true, [], Out.one rfl rfl, (Some'.weak (.nil _)), ?_⟩
   show _ = _; rw [hres]; rfl


end Go.Proofs.Ytoiaibgcjfgbcaa
/- Plain laws: distances in a graph. -/
set_option linter.unusedSimpArgs false
set_option linter.unusedVariables false
namespace Go.Proofs.Ytoiaibgcjfgbcaa
open Go Go.RowKit
/-- How many numbers below n have the property. -/
def cntP (p : Nat → Bool) : Nat → Nat
  | 0 => 0
  | n + 1 => cntP p n + (if p n then 1 else 0)
theorem cntP_le (p : Nat → Bool) : ∀ n, cntP p n ≤ n
  | 0 => Nat.le_refl _
  | n + 1 => by have := cntP_le p n; simp only [cntP]; split <;> omega
theorem cntP_mono {p q : Nat → Bool} : ∀ {n}, (∀ i, i < n → p i = true → q i = true) → cntP p n ≤ cntP q n
  | 0, _ => Nat.le_refl _
  | n + 1, h => by
    have ih := cntP_mono (n := n) fun i hi => h i (by omega)
    have h1 := h n (by omega)
    simp only [cntP]
    cases hp : p n
    · simp; omega
    · simp [h1 hp]; exact ih
theorem cntP_congr {p q : Nat → Bool} {n : Nat} (h : ∀ i, i < n → p i = q i) : cntP p n = cntP q n :=
  Nat.le_antisymm (cntP_mono fun i hi hp => by rw [← h i hi]; exact hp) (cntP_mono fun i hi hp => by rw [h i hi]; exact hp)
/-- One number more has the property. -/
theorem cntP_add {p q : Nat → Bool} {x : Nat} : ∀ {n}, x < n → (∀ i, i < n → i ≠ x → p i = q i) → p x = false → q x = true → cntP q n = cntP p n + 1
  | 0, h, _, _, _ => by omega
  | n + 1, hx, h, hp, hq => by
    simp only [cntP]
    by_cases e : x = n
    · subst e
      rw [cntP_congr (p := q) (q := p) fun i hi => (h i (by omega) (by omega)).symm]; simp [hp, hq]
    · rw [cntP_add (n := n) (by omega) (fun i hi hne => h i (by omega) hne) hp hq, h n (by omega) (by omega)]; omega

/-- The distances of all nodes from node s: 0 at s; each other one that is reached has a neighbour one step nearer; neighbours of reached nodes are reached, at most one step further; -1 elsewhere. -/
structure IsDist (A : Nat → Nat → Bool) (N s : Nat) (o : List Int) : Prop where
  len : o.length = N
  src : ix o s = 0
  low : ∀ v, v < N → -1 ≤ ix o v
  par : ∀ v, v < N → 0 ≤ ix o v → v = s ∨ ∃ u, u < N ∧ A u v = true ∧ 0 ≤ ix o u ∧ ix o v = ix o u + 1
  rel : ∀ u, u < N → ∀ v, v < N → 0 ≤ ix o u → A u v = true → 0 ≤ ix o v ∧ ix o v ≤ ix o u + 1
theorem IsDist.key {A : Nat → Nat → Bool} {N s : Nat} {o o' : List Int} (h : IsDist A N s o) (h' : IsDist A N s o') : ∀ (d : Nat) (v : Nat), v < N → ix o v = d → 0 ≤ ix o' v ∧ ix o' v ≤ d := by
  intro d
  induction d with
  | zero =>
    intro v hv e
    rcases h.par v hv (by omega) with rfl | ⟨u, hu, ha, h0, h1⟩
    · have := h'.src; omega
    · omega
  | succ d ih =>
    intro v hv e
    rcases h.par v hv (by omega) with rfl | ⟨u, hu, ha, h0, h1⟩
    · have := h'.src; omega
    · have h2 := ih u hu (by omega)
      have h3 := h'.rel u hu v hv h2.1 ha
      omega
/-! ### The reference: level by level -/
/-- The first d levels are right. -/
structure IsLev (A : Nat → Nat → Bool) (N s d : Nat) (o : List Int) : Prop where
  len : o.length = N
  src : ix o s = 0
  low : ∀ v, v < N → -1 ≤ ix o v ∧ ix o v ≤ d
  par : ∀ v, v < N → 0 ≤ ix o v → v = s ∨ ∃ u, u < N ∧ A u v = true ∧ 0 ≤ ix o u ∧ ix o v = ix o u + 1
  rel : ∀ u, u < N → ∀ v, v < N → 0 ≤ ix o u → ix o u < d → A u v = true → 0 ≤ ix o v ∧ ix o v ≤ ix o u + 1
/-- In round d, behind all pairs (u, v) with u below i, or u = i and v below k. -/
structure InRound (A : Nat → Nat → Bool) (N d i k : Nat) (o0 o : List Int) : Prop where
  len : o.length = N
  old : ∀ v, v < N → 0 ≤ ix o0 v → ix o v = ix o0 v
  new : ∀ v, v < N → ix o0 v < 0 → (ix o v = ix o0 v ∨ (ix o v = d + 1 ∧ ∃ u, u < N ∧ ix o0 u = d ∧ A u v = true))
  done : ∀ u, u < i → u < N → ∀ v, v < N → ix o0 u = d → A u v = true → 0 ≤ ix o v
  part : ∀ v, v < k → v < N → ix o0 i = d → A i v = true → 0 ≤ ix o v
theorem InRound.start {A : Nat → Nat → Bool} {N d : Nat} {o : List Int} (h : o.length = N) : InRound A N d 0 0 o o :=
  ⟨h, fun _ _ _ => rfl, fun _ _ _ => .inl rfl, fun _ h => by omega, fun _ h => by omega⟩
theorem InRound.next {A : Nat → Nat → Bool} {N d i : Nat} {o0 o : List Int} (h : InRound A N d i N o0 o) : InRound A N d (i + 1) 0 o0 o :=
  ⟨h.len, h.old, h.new, fun u hu huN v hv h0 ha => by
    by_cases e : u = i
    · subst e; exact h.part v hv hv h0 ha
    · exact h.done u (by omega) huN v hv h0 ha, fun _ h => by omega⟩
/-- Nothing is to be set. -/
theorem InRound.keep {A : Nat → Nat → Bool} {N d i k : Nat} {o0 o : List Int} (h : InRound A N d i k o0 o) (hc : ix o0 i = d → A i k = true → 0 ≤ ix o k) : InRound A N d i (k + 1) o0 o :=
  ⟨h.len, h.old, h.new, h.done, fun v hv hvN h0 ha => by
    by_cases e : v = k
    · subst e; exact hc h0 ha
    · exact h.part v (by omega) hvN h0 ha⟩
theorem InRound.set {A : Nat → Nat → Bool} {N d i k : Nat} {o0 o : List Int} (h : InRound A N d i k o0 o) (hi : i < N) (hk : k < N) (h0 : ix o0 i = d) (ha : A i k = true) (hneg : ix o k < 0) : InRound A N d i (k + 1) o0 (o.set k (d + 1)) := by
  have hx : ∀ v, v < N → ix (o.set k ((d : Int) + 1)) v = if k = v then (d : Int) + 1 else ix o v := fun v hv => ix_set (by rw [h.len]; exact hv)
  refine ⟨by simp [h.len], fun v hv h1 => ?_, fun v hv h1 => ?_, fun u hu huN v hv h1 h2 => ?_, fun v hv hvN h1 h2 => ?_⟩
  · rw [hx v hv]
    have := h.old v hv h1
    by_cases e : k = v
    · subst e; omega
    · rw [if_neg e]; exact this
  · rw [hx v hv]
    by_cases e : k = v
    · subst e; rw [if_pos rfl]; exact .inr ⟨rfl, i, hi, h0, ha⟩
    · rw [if_neg e]; exact h.new v hv h1
  · rw [hx v hv]; split
    · omega
    · exact h.done u hu huN v hv h1 h2
  · rw [hx v hvN]; split
    · omega
    · exact h.part v (by omega) hvN h1 h2
theorem IsLev.start {A : Nat → Nat → Bool} {N s : Nat} (hs : s < N) : IsLev A N s 0 ((List.replicate N (-1 : Int)).set s 0) := by
  have hx : ∀ v, v < N → ix ((List.replicate N (-1 : Int)).set s 0) v = if s = v then 0 else -1 := fun v hv => by
    rw [ix_set (by simpa using hv)]; split
    · rfl
    · simp [ix, List.getD, hv]
  refine ⟨by simp, by rw [hx s hs]; simp, fun v hv => by rw [hx v hv]; split <;> omega, fun v hv h => ?_, fun u hu v hv h1 h2 => ?_⟩
  · rw [hx v hv] at h
    by_cases e : s = v
    · exact .inl e.symm
    · rw [if_neg e] at h; omega
  · omega

/-! ### The program: a queue -/
/-- The queue q behind the nodes before at and the neighbours before position k of ns of the node at at. -/
structure InQ (A : Nat → Nat → Bool) (N s : Nat) (q : List Int) (at_ : Nat) (o : List Int) : Prop where
  slt : s < N
  len : o.length = N
  src : ix o s = 0
  low : ∀ v, v < N → -1 ≤ ix o v
  node : ∀ i, i < q.length → 0 ≤ ix q i ∧ ix q i < N
  val : ∀ i, i < q.length → 0 ≤ ix o (ix q i).toNat
  mem : ∀ v, v < N → 0 ≤ ix o v → ∃ i, i < q.length ∧ ix q i = v
  par : ∀ v, v < N → 0 ≤ ix o v → v = s ∨ ∃ u, u < N ∧ A u v = true ∧ 0 ≤ ix o u ∧ ix o v = ix o u + 1
  cnt : q.length = cntP (fun v => decide (0 ≤ ix o v)) N
  mono : ∀ i j, i ≤ j → j < q.length → ix o (ix q i).toNat ≤ ix o (ix q j).toNat
  last : at_ < q.length → ∀ i, i < q.length → ix o (ix q i).toNat ≤ ix o (ix q at_).toNat + 1
  rel : ∀ i, i < at_ → i < q.length → ∀ v, v < N → A (ix q i).toNat v = true → 0 ≤ ix o v ∧ ix o v ≤ ix o (ix q i).toNat + 1
theorem InQ.start {A : Nat → Nat → Bool} {N s : Nat} (hs : s < N) : InQ A N s [(s : Int)] 0 ((List.replicate N (-1 : Int)).set s 0) := by
  have hx : ∀ v, v < N → ix ((List.replicate N (-1 : Int)).set s 0) v = if s = v then 0 else -1 := fun v hv => by
    rw [ix_set (by simpa using hv)]; split
    · rfl
    · simp [ix, List.getD, hv]
  have h0 : ∀ i, i < [(s : Int)].length → i = 0 := fun i hi => by simp at hi; omega
  have e0 : ix [(s : Int)] 0 = s := rfl
  refine ⟨hs, by simp, by rw [hx s hs]; simp, fun v hv => by rw [hx v hv]; split <;> omega, fun i hi => ?_, fun i hi => ?_, fun v hv h => ?_, fun v hv h => ?_, ?_, fun i j hij hj => ?_, fun _ i hi => ?_, fun i hi => by omega⟩
  · rw [h0 i hi, e0]; omega
  · rw [h0 i hi, e0, Int.toNat_natCast, hx s hs]; simp
  · rw [hx v hv] at h
    by_cases e : s = v
    · exact ⟨0, by simp, by rw [e0, e]⟩
    · rw [if_neg e] at h; omega
  · rw [hx v hv] at h
    by_cases e : s = v
    · exact .inl e.symm
    · rw [if_neg e] at h; omega
  · have := cntP_add (p := fun _ => false) (q := fun v => decide (0 ≤ ix ((List.replicate N (-1 : Int)).set s 0) v)) (x := s) (n := N) hs (fun i hi hne => by rw [hx i hi, if_neg (by omega)]; simp) rfl (by rw [hx s hs]; simp)
    have h1 : ∀ n, cntP (fun _ => false) n = 0 := fun n => by induction n with
      | zero => rfl
      | succ n ih => simp [cntP, ih]
    rw [this, h1]; rfl
  · rw [h0 j hj, h0 i (by omega)]; exact Int.le_refl _
  · rw [h0 i hi]; omega
theorem InQ.size {A : Nat → Nat → Bool} {N s : Nat} {q : List Int} {at_ : Nat} {o : List Int} (h : InQ A N s q at_ o) : q.length ≤ N := by rw [h.cnt]; exact cntP_le _ _
theorem ix_append_left {xs ys : List Int} {i : Nat} (h : i < xs.length) : ix (xs ++ ys) i = ix xs i := by simp only [ix, List.getD, List.getElem?_append_left h]
theorem ix_append_one {xs : List Int} {a : Int} : ix (xs ++ [a]) xs.length = a := by simp [ix, List.getD]
/-- All neighbours of the node at at are met. -/
theorem InQ.next {A : Nat → Nat → Bool} {N s : Nat} {q : List Int} {at_ : Nat} {o : List Int} (h : InQ A N s q at_ o) (hat : at_ < q.length) (hall : ∀ v, v < N → A (ix q at_).toNat v = true → 0 ≤ ix o v) : InQ A N s q (at_ + 1) o :=
  ⟨h.slt, h.len, h.src, h.low, h.node, h.val, h.mem, h.par, h.cnt, h.mono, fun h2 i hi => by
    have h3 := h.last hat i hi
    have h4 := h.mono at_ (at_ + 1) (by omega) h2
    omega, fun i hi1 hi v hv hA => by
    by_cases e : i = at_
    · subst e
      have h1 := hall v hv hA
      obtain ⟨j, hj, e2⟩ := h.mem v hv h1
      have h3 := h.last hat j hj
      rw [e2, Int.toNat_natCast] at h3
      exact ⟨h1, h3⟩
    · exact h.rel i (by omega) hi v hv hA⟩

end Go.Proofs.Ytoiaibgcjfgbcaa
/- Walks: the number of one bits, the set of one bits. -/
set_option linter.unusedSimpArgs false
set_option linter.unusedVariables false
namespace Go.Proofs.Ytoiaibgcjfgbcaa
open Go Go.RowKit
namespace PopT
theorem Tcall_54 : callable Try.prog 54 = true := by kernel_rfl
theorem Tcall_77 : callable Try.prog 77 = true := by kernel_rfl
theorem Tint_3 : Try.prog.underlying 3 = some (.int .i64) := by kernel_rfl
theorem Tint_52 : Try.prog.underlying 52 = some (.int .u64) := by kernel_rfl
theorem Tsl_24 : sliceOf Try.prog 24 = some (3, 1, 8, [.int .i64 0]) := by kernel_rfl
theorem Tsome_3 : (Try.prog.underlying 3).isSome = true := by kernel_rfl
theorem Tsome_62 : (Try.prog.underlying 62).isSome = true := by kernel_rfl
end PopT
open PopT
def M0 : Nat := 6148914691236517205
def M1 : Nat := 3689348814741910323
def M2 : Nat := 1085102592571150095
theorem and_split {a q c M : Nat} (ha : a < 256) (hc : c < 256) : (a + 256 * q) &&& (c + 256 * M) = (a &&& c) + 256 * (q &&& M) := by
  have h1 : ((a + 256 * q) &&& (c + 256 * M)) % 2 ^ 8 = a &&& c := by
    rw [Nat.and_mod_two_pow, show (a + 256 * q) % 2 ^ 8 = a by omega, show (c + 256 * M) % 2 ^ 8 = c by omega]
  have h2 : ((a + 256 * q) &&& (c + 256 * M)) / 2 ^ 8 = q &&& M := by
    rw [Nat.and_div_two_pow, show (a + 256 * q) / 2 ^ 8 = q by omega, show (c + 256 * M) / 2 ^ 8 = M by omega]
  omega
def F1 (M n : Nat) : Nat := ((n >>> 1) &&& M) + (n &&& M)
def F2 (M n : Nat) : Nat := ((n >>> 2) &&& M) + (n &&& M)
def F3 (M n : Nat) : Nat := ((n >>> 4) + n) &&& M
def G1 (a : Nat) : Nat := ((a / 2) &&& 85) + (a &&& 85)
def G2 (g : Nat) : Nat := ((g / 4) &&& 51) + (g &&& 51)
theorem low1 : ∀ a : Fin 256, ∀ b : Fin 2, ((a.val / 2 + 128 * b.val) &&& 85) = ((a.val / 2) &&& 85) := by decide +kernel
theorem low2 : ∀ a : Fin 256, ∀ b : Fin 4, ((a.val / 4 + 64 * b.val) &&& 51) = ((a.val / 4) &&& 51) := by decide +kernel
theorem G1_lt : ∀ a : Fin 256, G1 a.val < 256 := by decide +kernel
theorem G2_lt : ∀ a : Fin 256, G2 (G1 a.val) < 256 ∧ G2 (G1 a.val) / 16 ≤ 4 ∧ G2 (G1 a.val) % 16 ≤ 4 ∧ G2 (G1 a.val) / 16 + G2 (G1 a.val) % 16 = a.val % 2 + a.val / 2 % 2 + a.val / 4 % 2 + a.val / 8 % 2 + a.val / 16 % 2 + a.val / 32 % 2 + a.val / 64 % 2 + a.val / 128 % 2 := by decide +kernel
theorem f1 {a q M : Nat} (ha : a < 256) : F1 (85 + 256 * M) (a + 256 * q) = G1 a + 256 * F1 M q := by
  unfold F1 G1
  have e : (a + 256 * q) >>> 1 = (a / 2 + 128 * (q % 2)) + 256 * (q >>> 1) := by simp only [Nat.shiftRight_eq_div_pow]; omega
  rw [e, and_split (by omega) (by omega), and_split ha (by omega)]
  have := low1 ⟨a, ha⟩ ⟨q % 2, by omega⟩
  simp only at this
  rw [this]; omega
theorem f2 {a q M : Nat} (ha : a < 256) : F2 (51 + 256 * M) (a + 256 * q) = G2 a + 256 * F2 M q := by
  unfold F2 G2
  have e : (a + 256 * q) >>> 2 = (a / 4 + 64 * (q % 4)) + 256 * (q >>> 2) := by simp only [Nat.shiftRight_eq_div_pow]; omega
  rw [e, and_split (by omega) (by omega), and_split ha (by omega)]
  have := low2 ⟨a, ha⟩ ⟨q % 4, by omega⟩
  simp only at this
  rw [this]; omega
theorem F1_0 (M : Nat) : F1 M 0 = 0 := by simp [F1]
theorem F2_0 (M : Nat) : F2 M 0 = 0 := by simp [F2]
/-- The bits of a byte, added. -/
def pc8 (a : Nat) : Nat := a % 2 + a / 2 % 2 + a / 4 % 2 + a / 8 % 2 + a / 16 % 2 + a / 32 % 2 + a / 64 % 2 + a / 128 % 2
def popN (n : Nat) : Nat :=
  let s3 := F3 M2 (F2 M1 (F1 M0 n))
  let s4 := s3 + s3 >>> 8
  let s5 := s4 + s4 >>> 16
  let s6 := s5 + s5 >>> 32
  s6 &&& 127
theorem popN_join {A B C x y z : Nat} (a3 : A < 256) (a4 : A / 16 ≤ 4) (a5 : A % 16 ≤ 4) (b3 : B < 256) (b4 : B / 16 ≤ 4) (b5 : B % 16 ≤ 4) (c3 : C < 256) (c4 : C / 16 ≤ 4) (c5 : C % 16 ≤ 4) (qa : A / 16 + A % 16 = x) (qb : B / 16 + B % 16 = y) (qc : C / 16 + C % 16 = z) :
    F3 M2 (A + 256 * (B + 256 * C)) = x + 256 * (y + 256 * z) ∧ x ≤ 8 ∧ y ≤ 8 ∧ z ≤ 8 := by
  refine ⟨?_, by omega, by omega, by omega⟩
  have e3 : (A + 256 * (B + 256 * C)) >>> 4 + (A + 256 * (B + 256 * C)) = (A / 16 + A + 16 * (B % 16)) + 256 * ((B / 16 + B + 16 * (C % 16)) + 256 * (C / 16 + C)) := by
    have d : (A + 256 * (B + 256 * C)) / 2 ^ 4 = A / 16 + 16 * (B + 256 * C) := by omega
    have m1 := Nat.div_add_mod B 16
    have m2 := Nat.div_add_mod C 16
    simp only [Nat.shiftRight_eq_div_pow]; rw [d]; omega
  have ma := Nat.div_add_mod A 16
  have mb := Nat.div_add_mod B 16
  have mc := Nat.div_add_mod C 16
  generalize A / 16 = A1 at *
  generalize A % 16 = A0 at *
  generalize B / 16 = B1 at *
  generalize B % 16 = B0 at *
  generalize C / 16 = C1 at *
  generalize C % 16 = C0 at *
  unfold F3
  rw [e3, show M2 = 15 + 256 * (15 + 256 * (15 + 256 * 64677154575)) from rfl, and_split (by omega) (by omega), and_split (by omega) (by omega), show C1 + C = (C1 + C) + 256 * 0 from rfl, and_split (by omega) (by omega), Nat.zero_and]
  rw [show (15 : Nat) = 2 ^ 4 - 1 from rfl, Nat.and_two_pow_sub_one_eq_mod, Nat.and_two_pow_sub_one_eq_mod, Nat.and_two_pow_sub_one_eq_mod]
  rw [show (A1 + A + 16 * B0) % 2 ^ 4 = x by omega, show (B1 + B + 16 * C0) % 2 ^ 4 = y by omega, show (C1 + C) % 2 ^ 4 = z by omega]
  omega
theorem popN_small {a b c : Nat} (ha : a < 256) (hb : b < 256) (hc : c < 256) : F3 M2 (F2 M1 (F1 M0 (a + 256 * (b + 256 * c)))) = pc8 a + 256 * (pc8 b + 256 * pc8 c) ∧ pc8 a ≤ 8 ∧ pc8 b ≤ 8 ∧ pc8 c ≤ 8 := by
  have e1 : F1 M0 (a + 256 * (b + 256 * c)) = G1 a + 256 * (G1 b + 256 * (G1 c + 256 * 0)) := by
    rw [show M0 = 85 + 256 * (85 + 256 * (85 + 256 * 366503875925)) from rfl, f1 ha, f1 hb, show c = c + 256 * 0 from rfl, f1 hc, F1_0]; rfl
  have a1 := G1_lt ⟨a, ha⟩; have b1 := G1_lt ⟨b, hb⟩; have c1 := G1_lt ⟨c, hc⟩
  have a2 := G2_lt ⟨a, ha⟩; have b2 := G2_lt ⟨b, hb⟩; have c2 := G2_lt ⟨c, hc⟩
  simp only at a1 b1 c1 a2 b2 c2
  have e2 : F2 M1 (F1 M0 (a + 256 * (b + 256 * c))) = G2 (G1 a) + 256 * (G2 (G1 b) + 256 * G2 (G1 c)) := by
    rw [e1, show M1 = 51 + 256 * (51 + 256 * (51 + 256 * 219902325555)) from rfl, f2 a1, f2 b1, f2 c1, F2_0, Nat.mul_zero, Nat.add_zero]
  rw [e2]
  have qa : G2 (G1 a) / 16 + G2 (G1 a) % 16 = pc8 a := a2.2.2.2
  have qb : G2 (G1 b) / 16 + G2 (G1 b) % 16 = pc8 b := b2.2.2.2
  have qc : G2 (G1 c) / 16 + G2 (G1 c) % 16 = pc8 c := c2.2.2.2
  have a3 := a2.1; have a4 := a2.2.1; have a5 := a2.2.2.1
  have b3 := b2.1; have b4 := b2.2.1; have b5 := b2.2.2.1
  have c3 := c2.1; have c4 := c2.2.1; have c5 := c2.2.2.1
  clear a2 b2 c2 e1 e2 a1 b1 c1
  exact popN_join a3 a4 a5 b3 b4 b5 c3 c4 c5 qa qb qc
theorem pop_sum {p q r : Nat} (hp : p ≤ 8) (hq : q ≤ 8) (hr : r ≤ 8) :
    (((p + 256 * (q + 256 * r)) + (p + 256 * (q + 256 * r)) >>> 8) + ((p + 256 * (q + 256 * r)) + (p + 256 * (q + 256 * r)) >>> 8) >>> 16 + (((p + 256 * (q + 256 * r)) + (p + 256 * (q + 256 * r)) >>> 8) + ((p + 256 * (q + 256 * r)) + (p + 256 * (q + 256 * r)) >>> 8) >>> 16) >>> 32) % 2 ^ 7 = p + q + r := by
  have e1 : (p + 256 * (q + 256 * r)) >>> 8 = q + 256 * r := by rw [Nat.shiftRight_eq_div_pow]; omega
  rw [e1]
  have e2 : (p + 256 * (q + 256 * r) + (q + 256 * r)) >>> 16 = r := by rw [Nat.shiftRight_eq_div_pow]; omega
  rw [e2]
  have e3 : (p + 256 * (q + 256 * r) + (q + 256 * r) + r) >>> 32 = 0 := by rw [Nat.shiftRight_eq_div_pow]; omega
  rw [e3]
  omega
theorem popN_eq {n : Nat} (h : n < 16777216) : popN n = pc8 (n % 256) + pc8 (n / 256 % 256) + pc8 (n / 65536) := by
  have e : n = n % 256 + 256 * (n / 256 % 256 + 256 * (n / 65536)) := by omega
  have := popN_small (a := n % 256) (b := n / 256 % 256) (c := n / 65536) (by omega) (by omega) (by omega)
  rw [← e] at this
  obtain ⟨h1, h2, h3, h4⟩ := this
  unfold popN
  simp only [h1]
  rw [show (127 : Nat) = 2 ^ 7 - 1 from rfl, Nat.and_two_pow_sub_one_eq_mod]
  exact pop_sum h2 h3 h4
/-- The program's expression. -/
def popE (x : Int) : Int :=
  let w := IntKind.u64.wrap
  let s1 := w (bits .and .u64 (x >>> (1 : Nat)) 6148914691236517205 + bits .and .u64 x 6148914691236517205)
  let s2 := w (bits .and .u64 (s1 >>> (2 : Nat)) 3689348814741910323 + bits .and .u64 s1 3689348814741910323)
  let s3 := bits .and .u64 (w ((s2 >>> (4 : Nat)) + s2)) 1085102592571150095
  let s4 := w (s3 + (s3 >>> (8 : Nat)))
  let s5 := w (s4 + (s4 >>> (16 : Nat)))
  let s6 := w (s5 + (s5 >>> (32 : Nat)))
  bits .and .i64 (IntKind.i64.wrap s6) 127
theorem bits_nat {k : IntKind} (hk : k = .u64 ∨ k = .i64) {a b : Nat} (ha : a < 9223372036854775808) (hb : b < 9223372036854775808) : bits .and k (a : Int) (b : Int) = ((a &&& b : Nat) : Int) := by
  have h1 : a &&& b < 9223372036854775808 := Nat.lt_of_le_of_lt Nat.and_le_left ha
  have h2 : (BitVec.ofInt 64 (a : Int) &&& BitVec.ofInt 64 (b : Int)).toNat = a &&& b := by
    rw [BitVec.toNat_and, BitVec.toNat_ofInt, BitVec.toNat_ofInt]
    congr 1 <;> omega
  rcases hk with rfl | rfl
  · show IntKind.u64.wrap ((BitVec.ofInt 64 (a : Int) &&& BitVec.ofInt 64 (b : Int)).toNat : Int) = _
    rw [h2, IntKind.wrap_u64]; omega
  · show IntKind.i64.wrap ((BitVec.ofInt 64 (a : Int) &&& BitVec.ofInt 64 (b : Int)).toNat : Int) = _
    rw [h2, IntKind.wrap_i64]; omega
theorem shr_nat (a k : Nat) : ((a : Int) >>> k) = ((a >>> k : Nat) : Int) := by
  rw [Int.shiftRight_eq_div_pow, Nat.shiftRight_eq_div_pow]; norm_cast
theorem wrap_nat {a : Nat} (h : a < 9223372036854775808) : IntKind.u64.wrap (a : Int) = a := by rw [IntKind.wrap_u64]; omega
theorem popE_nat {n : Nat} (h : n < 16777216) : popE (n : Int) = (popN n : Int) := by
  have e : n = n % 256 + 256 * (n / 256 % 256 + 256 * (n / 65536)) := by omega
  have hs3 := popN_small (a := n % 256) (b := n / 256 % 256) (c := n / 65536) (by omega) (by omega) (by omega)
  rw [← e] at hs3
  have le1 : F1 M0 n ≤ 2 * n := by
    unfold F1
    have a1 : (n >>> 1) &&& M0 ≤ n >>> 1 := Nat.and_le_left
    have a2 : n &&& M0 ≤ n := Nat.and_le_left
    simp only [Nat.shiftRight_eq_div_pow] at *; omega
  have le2 : F2 M1 (F1 M0 n) ≤ 2 * F1 M0 n := by
    unfold F2
    have a1 : ((F1 M0 n) >>> 2) &&& M1 ≤ (F1 M0 n) >>> 2 := Nat.and_le_left
    have a2 : (F1 M0 n) &&& M1 ≤ F1 M0 n := Nat.and_le_left
    simp only [Nat.shiftRight_eq_div_pow] at *; omega
  have s1 : IntKind.u64.wrap (bits .and .u64 ((n : Int) >>> (1 : Nat)) 6148914691236517205 + bits .and .u64 (n : Int) 6148914691236517205) = (F1 M0 n : Int) := by
    rw [shr_nat, show (6148914691236517205 : Int) = ((M0 : Nat) : Int) from rfl, bits_nat (.inl rfl) (by simp only [Nat.shiftRight_eq_div_pow]; omega) (by decide), bits_nat (.inl rfl) (by omega) (by decide), ← Int.natCast_add, wrap_nat (by show F1 M0 n < _; omega)]; rfl
  have s2 : ∀ y : Nat, y ≤ 2 * n → F2 M1 y ≤ 2 * y → IntKind.u64.wrap (bits .and .u64 ((y : Int) >>> (2 : Nat)) 3689348814741910323 + bits .and .u64 (y : Int) 3689348814741910323) = (F2 M1 y : Int) := by
    intro y hy hy2
    rw [shr_nat, show (3689348814741910323 : Int) = ((M1 : Nat) : Int) from rfl, bits_nat (.inl rfl) (by simp only [Nat.shiftRight_eq_div_pow]; omega) (by decide), bits_nat (.inl rfl) (by omega) (by decide), ← Int.natCast_add, wrap_nat (by show F2 M1 y < _; omega)]; rfl
  have s3 : ∀ y : Nat, y ≤ 4 * n → bits .and .u64 (IntKind.u64.wrap (((y : Int) >>> (4 : Nat)) + y)) 1085102592571150095 = (F3 M2 y : Int) := by
    intro y hy
    rw [shr_nat, ← Int.natCast_add, wrap_nat (by simp only [Nat.shiftRight_eq_div_pow]; omega), show (1085102592571150095 : Int) = ((M2 : Nat) : Int) from rfl, bits_nat (.inl rfl) (by simp only [Nat.shiftRight_eq_div_pow]; omega) (by decide)]; rfl
  have s4 : ∀ (y k : Nat), y < 67108864 → IntKind.u64.wrap ((y : Int) + ((y : Int) >>> k)) = ((y + y >>> k : Nat) : Int) := by
    intro y k hy
    have : y >>> k ≤ y := by rw [Nat.shiftRight_eq_div_pow]; exact Nat.div_le_self _ _
    rw [shr_nat, ← Int.natCast_add, wrap_nat (by omega)]
  unfold popE popN
  simp only [s1]
  rw [s2 _ le1 le2]
  rw [s3 _ (by omega)]
  obtain ⟨h1, h2, h3, h4⟩ := hs3
  rw [h1]
  generalize hy : pc8 (n % 256) + 256 * (pc8 (n / 256 % 256) + 256 * pc8 (n / 65536)) = y
  have hyl : y ≤ 526344 := by omega
  rw [s4 y 8 (by omega)]
  have l4 : y + y >>> 8 ≤ 2 * y := by simp only [Nat.shiftRight_eq_div_pow]; omega
  rw [s4 _ 16 (by omega)]
  have l5 : (y + y >>> 8) + (y + y >>> 8) >>> 16 ≤ 2 * (y + y >>> 8) := by simp only [Nat.shiftRight_eq_div_pow]; omega
  rw [s4 _ 32 (by omega)]
  have l6 : ((y + y >>> 8) + (y + y >>> 8) >>> 16) + ((y + y >>> 8) + (y + y >>> 8) >>> 16) >>> 32 ≤ 2 * ((y + y >>> 8) + (y + y >>> 8) >>> 16) := by simp only [Nat.shiftRight_eq_div_pow]; omega
  rw [show IntKind.i64.wrap ((((y + y >>> 8) + (y + y >>> 8) >>> 16) + ((y + y >>> 8) + (y + y >>> 8) >>> 16) >>> 32 : Nat) : Int) = ((((y + y >>> 8) + (y + y >>> 8) >>> 16) + ((y + y >>> 8) + (y + y >>> 8) >>> 16) >>> 32 : Nat) : Int) by rw [IntKind.wrap_i64]; omega]
  rw [show (127 : Int) = ((127 : Nat) : Int) from rfl, bits_nat (.inr rfl) (by omega) (by omega)]
/-- The positions of the one bits of a number below 2^24. -/
def setL (x : Int) : List Int := filterL (fun k => bitI x k) 24
theorem filterL_length (p : Nat → Bool) : ∀ n, (filterL p n).length = cntP p n
  | 0 => rfl
  | n + 1 => by simp only [filterL, cntP, List.length_append, filterL_length p n]; split <;> simp
theorem bitI_nat (n k : Nat) : bitI (n : Int) k = decide (n / 2 ^ k % 2 = 1) := by
  unfold bitI
  rw [shr_nat, Nat.shiftRight_eq_div_pow, decide_eq_decide]; omega
theorem pc_lo (n : Nat) : pc8 (n % 256) = n % 2 + n / 2 % 2 + n / 4 % 2 + n / 8 % 2 + n / 16 % 2 + n / 32 % 2 + n / 64 % 2 + n / 128 % 2 := by
  unfold pc8
  rw [show n % 256 % 2 = n % 2 by omega, show n % 256 / 2 % 2 = n / 2 % 2 by omega, show n % 256 / 4 % 2 = n / 4 % 2 by omega, show n % 256 / 8 % 2 = n / 8 % 2 by omega, show n % 256 / 16 % 2 = n / 16 % 2 by omega, show n % 256 / 32 % 2 = n / 32 % 2 by omega, show n % 256 / 64 % 2 = n / 64 % 2 by omega, show n % 256 / 128 % 2 = n / 128 % 2 by omega]
theorem cnt24 (n : Nat) : cntP (fun k => decide (n / 2 ^ k % 2 = 1)) 24 = pc8 (n % 256) + pc8 (n / 256 % 256) + pc8 (n / 65536 % 256) := by
  have e : ∀ m : Nat, (if decide (m % 2 = 1) = true then (1 : Nat) else 0) = m % 2 := fun m => by
    by_cases h : m % 2 = 1
    · simp [h]
    · simp [h]; omega
  have d : ∀ a b : Nat, n / a / b = n / (a * b) := fun a b => Nat.div_div_eq_div_mul n a b
  rw [pc_lo, pc_lo, pc_lo]
  simp only [cntP, e, d, Nat.reducePow, Nat.reduceMul, Nat.div_one, Nat.zero_add, Nat.add_assoc]
theorem setL_length {n : Nat} (h : n < 16777216) : (setL (n : Int)).length = popN n := by
  rw [setL, filterL_length, popN_eq h, show pc8 (n / 65536) = pc8 (n / 65536 % 256) by rw [Nat.mod_eq_of_lt (by omega)], ← cnt24]
  exact cntP_congr fun i _ => bitI_nat n i
theorem popE_set {x : Int} (h0 : 0 ≤ x) (h : x < 16777216) : popE x = (((setL x).length : Nat) : Int) := by
  obtain ⟨n, rfl⟩ : ∃ n : Nat, x = n := ⟨x.toNat, by omega⟩
  rw [popE_nat (by omega), setL_length (by omega)]
theorem set_rest {x : Int} (h0 : 0 ≤ x) : ∀ {k j : Nat}, x >>> k = 0 → filterL (fun i => bitI x i) (k + j) = filterL (fun i => bitI x i) k
  | k, 0, _ => rfl
  | k, j + 1, h => by
    have ih := set_rest h0 (j := j) h
    rw [← Nat.add_assoc, filterL, ih]
    have : x >>> (k + j) = 0 := by
      rw [Int.shiftRight_add, h]; simp
    rw [if_neg (by unfold bitI; rw [this]; decide), List.append_nil]
theorem shr_neg {x : Int} (h0 : 0 ≤ x) (k : Nat) : 0 ≤ x >>> k := by
  rw [Int.shiftRight_eq_div_pow]; exact Int.ediv_nonneg h0 (by exact_mod_cast Nat.zero_le _)
theorem shr_small {x : Int} (h0 : 0 ≤ x) (h : x < 16777216) {k : Nat} (hk : 0 < x >>> k) : k < 24 := by
  obtain ⟨n, rfl⟩ : ∃ n : Nat, x = n := ⟨x.toNat, by omega⟩
  rw [shr_nat, Nat.shiftRight_eq_div_pow] at hk
  refine Decidable.byContradiction fun hge => ?_
  have : n / 2 ^ k = 0 := Nat.div_eq_of_lt (Nat.lt_of_lt_of_le (by omega : n < 2 ^ 24) (Nat.pow_le_pow_right (by omega) (by omega)))
  omega

set_option maxHeartbeats 1000000 in
set_option maxRecDepth 20000 in
theorem OnesCount64_spec (x : Int) (w : World) : Calls Try.prog 77 #[.int .u64 x] w (Post No w fun v _ => v = .int .i64 (popE x)) := by
 refine enter (n := 35) (args := [.int .u64 x]) Try.func77 rfl rfl (St.empty _ _) ?_
 refine Run.sr ?_
 refine Run.p (.int .i64 0) rfl rfl ?_
 refine Run.dsr ?_
 refine Run.p (.int .u64 x) rfl rfl ?_
 refine Run.y (.int .u64 (x >>> (1 : Nat))) rfl (OpY.shrU rfl rfl rfl (by decide)) ?_
 refine Run.y (.int .u64 (bits .and .u64 (x >>> (1 : Nat)) 6148914691236517205)) rfl (OpY.and rfl rfl) ?_
 refine Run.p (.int .u64 x) rfl rfl ?_
 refine Run.y (.int .u64 (bits .and .u64 x 6148914691236517205)) rfl (OpY.and rfl rfl) ?_
 refine Run.y (.int .u64 (IntKind.u64.wrap ((bits .and .u64 (x >>> (1 : Nat)) 6148914691236517205) + (bits .and .u64 x 6148914691236517205)))) rfl (OpY.addU rfl rfl) ?_
 refine Run.p (.int .u64 (IntKind.u64.wrap ((bits .and .u64 (x >>> (1 : Nat)) 6148914691236517205) + (bits .and .u64 x 6148914691236517205)))) rfl rfl ?_
 refine Run.dsr ?_
 refine Run.p (.int .u64 (IntKind.u64.wrap ((bits .and .u64 (x >>> (1 : Nat)) 6148914691236517205) + (bits .and .u64 x 6148914691236517205)))) rfl rfl ?_
 refine Run.y (.int .u64 ((IntKind.u64.wrap ((bits .and .u64 (x >>> (1 : Nat)) 6148914691236517205) + (bits .and .u64 x 6148914691236517205))) >>> (2 : Nat))) rfl (OpY.shrU rfl rfl rfl (by decide)) ?_
 refine Run.y (.int .u64 (bits .and .u64 ((IntKind.u64.wrap ((bits .and .u64 (x >>> (1 : Nat)) 6148914691236517205) + (bits .and .u64 x 6148914691236517205))) >>> (2 : Nat)) 3689348814741910323)) rfl (OpY.and rfl rfl) ?_
 refine Run.p (.int .u64 (IntKind.u64.wrap ((bits .and .u64 (x >>> (1 : Nat)) 6148914691236517205) + (bits .and .u64 x 6148914691236517205)))) rfl rfl ?_
 refine Run.y (.int .u64 (bits .and .u64 (IntKind.u64.wrap ((bits .and .u64 (x >>> (1 : Nat)) 6148914691236517205) + (bits .and .u64 x 6148914691236517205))) 3689348814741910323)) rfl (OpY.and rfl rfl) ?_
 refine Run.y (.int .u64 (IntKind.u64.wrap ((bits .and .u64 ((IntKind.u64.wrap ((bits .and .u64 (x >>> (1 : Nat)) 6148914691236517205) + (bits .and .u64 x 6148914691236517205))) >>> (2 : Nat)) 3689348814741910323) + (bits .and .u64 (IntKind.u64.wrap ((bits .and .u64 (x >>> (1 : Nat)) 6148914691236517205) + (bits .and .u64 x 6148914691236517205))) 3689348814741910323)))) rfl (OpY.addU rfl rfl) ?_
 refine Run.p (.int .u64 (IntKind.u64.wrap ((bits .and .u64 ((IntKind.u64.wrap ((bits .and .u64 (x >>> (1 : Nat)) 6148914691236517205) + (bits .and .u64 x 6148914691236517205))) >>> (2 : Nat)) 3689348814741910323) + (bits .and .u64 (IntKind.u64.wrap ((bits .and .u64 (x >>> (1 : Nat)) 6148914691236517205) + (bits .and .u64 x 6148914691236517205))) 3689348814741910323)))) rfl rfl ?_
 refine Run.dsr ?_
 refine Run.p (.int .u64 (IntKind.u64.wrap ((bits .and .u64 ((IntKind.u64.wrap ((bits .and .u64 (x >>> (1 : Nat)) 6148914691236517205) + (bits .and .u64 x 6148914691236517205))) >>> (2 : Nat)) 3689348814741910323) + (bits .and .u64 (IntKind.u64.wrap ((bits .and .u64 (x >>> (1 : Nat)) 6148914691236517205) + (bits .and .u64 x 6148914691236517205))) 3689348814741910323)))) rfl rfl ?_
 refine Run.y (.int .u64 ((IntKind.u64.wrap ((bits .and .u64 ((IntKind.u64.wrap ((bits .and .u64 (x >>> (1 : Nat)) 6148914691236517205) + (bits .and .u64 x 6148914691236517205))) >>> (2 : Nat)) 3689348814741910323) + (bits .and .u64 (IntKind.u64.wrap ((bits .and .u64 (x >>> (1 : Nat)) 6148914691236517205) + (bits .and .u64 x 6148914691236517205))) 3689348814741910323))) >>> (4 : Nat))) rfl (OpY.shrU rfl rfl rfl (by decide)) ?_
 refine Run.p (.int .u64 (IntKind.u64.wrap ((bits .and .u64 ((IntKind.u64.wrap ((bits .and .u64 (x >>> (1 : Nat)) 6148914691236517205) + (bits .and .u64 x 6148914691236517205))) >>> (2 : Nat)) 3689348814741910323) + (bits .and .u64 (IntKind.u64.wrap ((bits .and .u64 (x >>> (1 : Nat)) 6148914691236517205) + (bits .and .u64 x 6148914691236517205))) 3689348814741910323)))) rfl rfl ?_
 refine Run.y (.int .u64 (IntKind.u64.wrap (((IntKind.u64.wrap ((bits .and .u64 ((IntKind.u64.wrap ((bits .and .u64 (x >>> (1 : Nat)) 6148914691236517205) + (bits .and .u64 x 6148914691236517205))) >>> (2 : Nat)) 3689348814741910323) + (bits .and .u64 (IntKind.u64.wrap ((bits .and .u64 (x >>> (1 : Nat)) 6148914691236517205) + (bits .and .u64 x 6148914691236517205))) 3689348814741910323))) >>> (4 : Nat)) + (IntKind.u64.wrap ((bits .and .u64 ((IntKind.u64.wrap ((bits .and .u64 (x >>> (1 : Nat)) 6148914691236517205) + (bits .and .u64 x 6148914691236517205))) >>> (2 : Nat)) 3689348814741910323) + (bits .and .u64 (IntKind.u64.wrap ((bits .and .u64 (x >>> (1 : Nat)) 6148914691236517205) + (bits .and .u64 x 6148914691236517205))) 3689348814741910323)))))) rfl (OpY.addU rfl rfl) ?_
 refine Run.y (.int .u64 (bits .and .u64 (IntKind.u64.wrap (((IntKind.u64.wrap ((bits .and .u64 ((IntKind.u64.wrap ((bits .and .u64 (x >>> (1 : Nat)) 6148914691236517205) + (bits .and .u64 x 6148914691236517205))) >>> (2 : Nat)) 3689348814741910323) + (bits .and .u64 (IntKind.u64.wrap ((bits .and .u64 (x >>> (1 : Nat)) 6148914691236517205) + (bits .and .u64 x 6148914691236517205))) 3689348814741910323))) >>> (4 : Nat)) + (IntKind.u64.wrap ((bits .and .u64 ((IntKind.u64.wrap ((bits .and .u64 (x >>> (1 : Nat)) 6148914691236517205) + (bits .and .u64 x 6148914691236517205))) >>> (2 : Nat)) 3689348814741910323) + (bits .and .u64 (IntKind.u64.wrap ((bits .and .u64 (x >>> (1 : Nat)) 6148914691236517205) + (bits .and .u64 x 6148914691236517205))) 3689348814741910323))))) 1085102592571150095)) rfl (OpY.and rfl rfl) ?_
 refine Run.p (.int .u64 (bits .and .u64 (IntKind.u64.wrap (((IntKind.u64.wrap ((bits .and .u64 ((IntKind.u64.wrap ((bits .and .u64 (x >>> (1 : Nat)) 6148914691236517205) + (bits .and .u64 x 6148914691236517205))) >>> (2 : Nat)) 3689348814741910323) + (bits .and .u64 (IntKind.u64.wrap ((bits .and .u64 (x >>> (1 : Nat)) 6148914691236517205) + (bits .and .u64 x 6148914691236517205))) 3689348814741910323))) >>> (4 : Nat)) + (IntKind.u64.wrap ((bits .and .u64 ((IntKind.u64.wrap ((bits .and .u64 (x >>> (1 : Nat)) 6148914691236517205) + (bits .and .u64 x 6148914691236517205))) >>> (2 : Nat)) 3689348814741910323) + (bits .and .u64 (IntKind.u64.wrap ((bits .and .u64 (x >>> (1 : Nat)) 6148914691236517205) + (bits .and .u64 x 6148914691236517205))) 3689348814741910323))))) 1085102592571150095)) rfl rfl ?_
 refine Run.dsr ?_
 refine Run.p (.int .u64 (bits .and .u64 (IntKind.u64.wrap (((IntKind.u64.wrap ((bits .and .u64 ((IntKind.u64.wrap ((bits .and .u64 (x >>> (1 : Nat)) 6148914691236517205) + (bits .and .u64 x 6148914691236517205))) >>> (2 : Nat)) 3689348814741910323) + (bits .and .u64 (IntKind.u64.wrap ((bits .and .u64 (x >>> (1 : Nat)) 6148914691236517205) + (bits .and .u64 x 6148914691236517205))) 3689348814741910323))) >>> (4 : Nat)) + (IntKind.u64.wrap ((bits .and .u64 ((IntKind.u64.wrap ((bits .and .u64 (x >>> (1 : Nat)) 6148914691236517205) + (bits .and .u64 x 6148914691236517205))) >>> (2 : Nat)) 3689348814741910323) + (bits .and .u64 (IntKind.u64.wrap ((bits .and .u64 (x >>> (1 : Nat)) 6148914691236517205) + (bits .and .u64 x 6148914691236517205))) 3689348814741910323))))) 1085102592571150095)) rfl rfl ?_
 refine Run.p (.int .u64 (bits .and .u64 (IntKind.u64.wrap (((IntKind.u64.wrap ((bits .and .u64 ((IntKind.u64.wrap ((bits .and .u64 (x >>> (1 : Nat)) 6148914691236517205) + (bits .and .u64 x 6148914691236517205))) >>> (2 : Nat)) 3689348814741910323) + (bits .and .u64 (IntKind.u64.wrap ((bits .and .u64 (x >>> (1 : Nat)) 6148914691236517205) + (bits .and .u64 x 6148914691236517205))) 3689348814741910323))) >>> (4 : Nat)) + (IntKind.u64.wrap ((bits .and .u64 ((IntKind.u64.wrap ((bits .and .u64 (x >>> (1 : Nat)) 6148914691236517205) + (bits .and .u64 x 6148914691236517205))) >>> (2 : Nat)) 3689348814741910323) + (bits .and .u64 (IntKind.u64.wrap ((bits .and .u64 (x >>> (1 : Nat)) 6148914691236517205) + (bits .and .u64 x 6148914691236517205))) 3689348814741910323))))) 1085102592571150095)) rfl rfl ?_
 refine Run.y (.int .u64 ((bits .and .u64 (IntKind.u64.wrap (((IntKind.u64.wrap ((bits .and .u64 ((IntKind.u64.wrap ((bits .and .u64 (x >>> (1 : Nat)) 6148914691236517205) + (bits .and .u64 x 6148914691236517205))) >>> (2 : Nat)) 3689348814741910323) + (bits .and .u64 (IntKind.u64.wrap ((bits .and .u64 (x >>> (1 : Nat)) 6148914691236517205) + (bits .and .u64 x 6148914691236517205))) 3689348814741910323))) >>> (4 : Nat)) + (IntKind.u64.wrap ((bits .and .u64 ((IntKind.u64.wrap ((bits .and .u64 (x >>> (1 : Nat)) 6148914691236517205) + (bits .and .u64 x 6148914691236517205))) >>> (2 : Nat)) 3689348814741910323) + (bits .and .u64 (IntKind.u64.wrap ((bits .and .u64 (x >>> (1 : Nat)) 6148914691236517205) + (bits .and .u64 x 6148914691236517205))) 3689348814741910323))))) 1085102592571150095) >>> (8 : Nat))) rfl (OpY.shrU rfl rfl rfl (by decide)) ?_
 refine Run.y (.int .u64 (IntKind.u64.wrap ((bits .and .u64 (IntKind.u64.wrap (((IntKind.u64.wrap ((bits .and .u64 ((IntKind.u64.wrap ((bits .and .u64 (x >>> (1 : Nat)) 6148914691236517205) + (bits .and .u64 x 6148914691236517205))) >>> (2 : Nat)) 3689348814741910323) + (bits .and .u64 (IntKind.u64.wrap ((bits .and .u64 (x >>> (1 : Nat)) 6148914691236517205) + (bits .and .u64 x 6148914691236517205))) 3689348814741910323))) >>> (4 : Nat)) + (IntKind.u64.wrap ((bits .and .u64 ((IntKind.u64.wrap ((bits .and .u64 (x >>> (1 : Nat)) 6148914691236517205) + (bits .and .u64 x 6148914691236517205))) >>> (2 : Nat)) 3689348814741910323) + (bits .and .u64 (IntKind.u64.wrap ((bits .and .u64 (x >>> (1 : Nat)) 6148914691236517205) + (bits .and .u64 x 6148914691236517205))) 3689348814741910323))))) 1085102592571150095) + ((bits .and .u64 (IntKind.u64.wrap (((IntKind.u64.wrap ((bits .and .u64 ((IntKind.u64.wrap ((bits .and .u64 (x >>> (1 : Nat)) 6148914691236517205) + (bits .and .u64 x 6148914691236517205))) >>> (2 : Nat)) 3689348814741910323) + (bits .and .u64 (IntKind.u64.wrap ((bits .and .u64 (x >>> (1 : Nat)) 6148914691236517205) + (bits .and .u64 x 6148914691236517205))) 3689348814741910323))) >>> (4 : Nat)) + (IntKind.u64.wrap ((bits .and .u64 ((IntKind.u64.wrap ((bits .and .u64 (x >>> (1 : Nat)) 6148914691236517205) + (bits .and .u64 x 6148914691236517205))) >>> (2 : Nat)) 3689348814741910323) + (bits .and .u64 (IntKind.u64.wrap ((bits .and .u64 (x >>> (1 : Nat)) 6148914691236517205) + (bits .and .u64 x 6148914691236517205))) 3689348814741910323))))) 1085102592571150095) >>> (8 : Nat))))) rfl (OpY.addU rfl rfl) ?_
 refine Run.p (.int .u64 (IntKind.u64.wrap ((bits .and .u64 (IntKind.u64.wrap (((IntKind.u64.wrap ((bits .and .u64 ((IntKind.u64.wrap ((bits .and .u64 (x >>> (1 : Nat)) 6148914691236517205) + (bits .and .u64 x 6148914691236517205))) >>> (2 : Nat)) 3689348814741910323) + (bits .and .u64 (IntKind.u64.wrap ((bits .and .u64 (x >>> (1 : Nat)) 6148914691236517205) + (bits .and .u64 x 6148914691236517205))) 3689348814741910323))) >>> (4 : Nat)) + (IntKind.u64.wrap ((bits .and .u64 ((IntKind.u64.wrap ((bits .and .u64 (x >>> (1 : Nat)) 6148914691236517205) + (bits .and .u64 x 6148914691236517205))) >>> (2 : Nat)) 3689348814741910323) + (bits .and .u64 (IntKind.u64.wrap ((bits .and .u64 (x >>> (1 : Nat)) 6148914691236517205) + (bits .and .u64 x 6148914691236517205))) 3689348814741910323))))) 1085102592571150095) + ((bits .and .u64 (IntKind.u64.wrap (((IntKind.u64.wrap ((bits .and .u64 ((IntKind.u64.wrap ((bits .and .u64 (x >>> (1 : Nat)) 6148914691236517205) + (bits .and .u64 x 6148914691236517205))) >>> (2 : Nat)) 3689348814741910323) + (bits .and .u64 (IntKind.u64.wrap ((bits .and .u64 (x >>> (1 : Nat)) 6148914691236517205) + (bits .and .u64 x 6148914691236517205))) 3689348814741910323))) >>> (4 : Nat)) + (IntKind.u64.wrap ((bits .and .u64 ((IntKind.u64.wrap ((bits .and .u64 (x >>> (1 : Nat)) 6148914691236517205) + (bits .and .u64 x 6148914691236517205))) >>> (2 : Nat)) 3689348814741910323) + (bits .and .u64 (IntKind.u64.wrap ((bits .and .u64 (x >>> (1 : Nat)) 6148914691236517205) + (bits .and .u64 x 6148914691236517205))) 3689348814741910323))))) 1085102592571150095) >>> (8 : Nat))))) rfl rfl ?_
 refine Run.dsr ?_
 refine Run.p (.int .u64 (IntKind.u64.wrap ((bits .and .u64 (IntKind.u64.wrap (((IntKind.u64.wrap ((bits .and .u64 ((IntKind.u64.wrap ((bits .and .u64 (x >>> (1 : Nat)) 6148914691236517205) + (bits .and .u64 x 6148914691236517205))) >>> (2 : Nat)) 3689348814741910323) + (bits .and .u64 (IntKind.u64.wrap ((bits .and .u64 (x >>> (1 : Nat)) 6148914691236517205) + (bits .and .u64 x 6148914691236517205))) 3689348814741910323))) >>> (4 : Nat)) + (IntKind.u64.wrap ((bits .and .u64 ((IntKind.u64.wrap ((bits .and .u64 (x >>> (1 : Nat)) 6148914691236517205) + (bits .and .u64 x 6148914691236517205))) >>> (2 : Nat)) 3689348814741910323) + (bits .and .u64 (IntKind.u64.wrap ((bits .and .u64 (x >>> (1 : Nat)) 6148914691236517205) + (bits .and .u64 x 6148914691236517205))) 3689348814741910323))))) 1085102592571150095) + ((bits .and .u64 (IntKind.u64.wrap (((IntKind.u64.wrap ((bits .and .u64 ((IntKind.u64.wrap ((bits .and .u64 (x >>> (1 : Nat)) 6148914691236517205) + (bits .and .u64 x 6148914691236517205))) >>> (2 : Nat)) 3689348814741910323) + (bits .and .u64 (IntKind.u64.wrap ((bits .and .u64 (x >>> (1 : Nat)) 6148914691236517205) + (bits .and .u64 x 6148914691236517205))) 3689348814741910323))) >>> (4 : Nat)) + (IntKind.u64.wrap ((bits .and .u64 ((IntKind.u64.wrap ((bits .and .u64 (x >>> (1 : Nat)) 6148914691236517205) + (bits .and .u64 x 6148914691236517205))) >>> (2 : Nat)) 3689348814741910323) + (bits .and .u64 (IntKind.u64.wrap ((bits .and .u64 (x >>> (1 : Nat)) 6148914691236517205) + (bits .and .u64 x 6148914691236517205))) 3689348814741910323))))) 1085102592571150095) >>> (8 : Nat))))) rfl rfl ?_
 refine Run.p (.int .u64 (IntKind.u64.wrap ((bits .and .u64 (IntKind.u64.wrap (((IntKind.u64.wrap ((bits .and .u64 ((IntKind.u64.wrap ((bits .and .u64 (x >>> (1 : Nat)) 6148914691236517205) + (bits .and .u64 x 6148914691236517205))) >>> (2 : Nat)) 3689348814741910323) + (bits .and .u64 (IntKind.u64.wrap ((bits .and .u64 (x >>> (1 : Nat)) 6148914691236517205) + (bits .and .u64 x 6148914691236517205))) 3689348814741910323))) >>> (4 : Nat)) + (IntKind.u64.wrap ((bits .and .u64 ((IntKind.u64.wrap ((bits .and .u64 (x >>> (1 : Nat)) 6148914691236517205) + (bits .and .u64 x 6148914691236517205))) >>> (2 : Nat)) 3689348814741910323) + (bits .and .u64 (IntKind.u64.wrap ((bits .and .u64 (x >>> (1 : Nat)) 6148914691236517205) + (bits .and .u64 x 6148914691236517205))) 3689348814741910323))))) 1085102592571150095) + ((bits .and .u64 (IntKind.u64.wrap (((IntKind.u64.wrap ((bits .and .u64 ((IntKind.u64.wrap ((bits .and .u64 (x >>> (1 : Nat)) 6148914691236517205) + (bits .and .u64 x 6148914691236517205))) >>> (2 : Nat)) 3689348814741910323) + (bits .and .u64 (IntKind.u64.wrap ((bits .and .u64 (x >>> (1 : Nat)) 6148914691236517205) + (bits .and .u64 x 6148914691236517205))) 3689348814741910323))) >>> (4 : Nat)) + (IntKind.u64.wrap ((bits .and .u64 ((IntKind.u64.wrap ((bits .and .u64 (x >>> (1 : Nat)) 6148914691236517205) + (bits .and .u64 x 6148914691236517205))) >>> (2 : Nat)) 3689348814741910323) + (bits .and .u64 (IntKind.u64.wrap ((bits .and .u64 (x >>> (1 : Nat)) 6148914691236517205) + (bits .and .u64 x 6148914691236517205))) 3689348814741910323))))) 1085102592571150095) >>> (8 : Nat))))) rfl rfl ?_
 refine Run.y (.int .u64 ((IntKind.u64.wrap ((bits .and .u64 (IntKind.u64.wrap (((IntKind.u64.wrap ((bits .and .u64 ((IntKind.u64.wrap ((bits .and .u64 (x >>> (1 : Nat)) 6148914691236517205) + (bits .and .u64 x 6148914691236517205))) >>> (2 : Nat)) 3689348814741910323) + (bits .and .u64 (IntKind.u64.wrap ((bits .and .u64 (x >>> (1 : Nat)) 6148914691236517205) + (bits .and .u64 x 6148914691236517205))) 3689348814741910323))) >>> (4 : Nat)) + (IntKind.u64.wrap ((bits .and .u64 ((IntKind.u64.wrap ((bits .and .u64 (x >>> (1 : Nat)) 6148914691236517205) + (bits .and .u64 x 6148914691236517205))) >>> (2 : Nat)) 3689348814741910323) + (bits .and .u64 (IntKind.u64.wrap ((bits .and .u64 (x >>> (1 : Nat)) 6148914691236517205) + (bits .and .u64 x 6148914691236517205))) 3689348814741910323))))) 1085102592571150095) + ((bits .and .u64 (IntKind.u64.wrap (((IntKind.u64.wrap ((bits .and .u64 ((IntKind.u64.wrap ((bits .and .u64 (x >>> (1 : Nat)) 6148914691236517205) + (bits .and .u64 x 6148914691236517205))) >>> (2 : Nat)) 3689348814741910323) + (bits .and .u64 (IntKind.u64.wrap ((bits .and .u64 (x >>> (1 : Nat)) 6148914691236517205) + (bits .and .u64 x 6148914691236517205))) 3689348814741910323))) >>> (4 : Nat)) + (IntKind.u64.wrap ((bits .and .u64 ((IntKind.u64.wrap ((bits .and .u64 (x >>> (1 : Nat)) 6148914691236517205) + (bits .and .u64 x 6148914691236517205))) >>> (2 : Nat)) 3689348814741910323) + (bits .and .u64 (IntKind.u64.wrap ((bits .and .u64 (x >>> (1 : Nat)) 6148914691236517205) + (bits .and .u64 x 6148914691236517205))) 3689348814741910323))))) 1085102592571150095) >>> (8 : Nat)))) >>> (16 : Nat))) rfl (OpY.shrU rfl rfl rfl (by decide)) ?_
 refine Run.y (.int .u64 (IntKind.u64.wrap ((IntKind.u64.wrap ((bits .and .u64 (IntKind.u64.wrap (((IntKind.u64.wrap ((bits .and .u64 ((IntKind.u64.wrap ((bits .and .u64 (x >>> (1 : Nat)) 6148914691236517205) + (bits .and .u64 x 6148914691236517205))) >>> (2 : Nat)) 3689348814741910323) + (bits .and .u64 (IntKind.u64.wrap ((bits .and .u64 (x >>> (1 : Nat)) 6148914691236517205) + (bits .and .u64 x 6148914691236517205))) 3689348814741910323))) >>> (4 : Nat)) + (IntKind.u64.wrap ((bits .and .u64 ((IntKind.u64.wrap ((bits .and .u64 (x >>> (1 : Nat)) 6148914691236517205) + (bits .and .u64 x 6148914691236517205))) >>> (2 : Nat)) 3689348814741910323) + (bits .and .u64 (IntKind.u64.wrap ((bits .and .u64 (x >>> (1 : Nat)) 6148914691236517205) + (bits .and .u64 x 6148914691236517205))) 3689348814741910323))))) 1085102592571150095) + ((bits .and .u64 (IntKind.u64.wrap (((IntKind.u64.wrap ((bits .and .u64 ((IntKind.u64.wrap ((bits .and .u64 (x >>> (1 : Nat)) 6148914691236517205) + (bits .and .u64 x 6148914691236517205))) >>> (2 : Nat)) 3689348814741910323) + (bits .and .u64 (IntKind.u64.wrap ((bits .and .u64 (x >>> (1 : Nat)) 6148914691236517205) + (bits .and .u64 x 6148914691236517205))) 3689348814741910323))) >>> (4 : Nat)) + (IntKind.u64.wrap ((bits .and .u64 ((IntKind.u64.wrap ((bits .and .u64 (x >>> (1 : Nat)) 6148914691236517205) + (bits .and .u64 x 6148914691236517205))) >>> (2 : Nat)) 3689348814741910323) + (bits .and .u64 (IntKind.u64.wrap ((bits .and .u64 (x >>> (1 : Nat)) 6148914691236517205) + (bits .and .u64 x 6148914691236517205))) 3689348814741910323))))) 1085102592571150095) >>> (8 : Nat)))) + ((IntKind.u64.wrap ((bits .and .u64 (IntKind.u64.wrap (((IntKind.u64.wrap ((bits .and .u64 ((IntKind.u64.wrap ((bits .and .u64 (x >>> (1 : Nat)) 6148914691236517205) + (bits .and .u64 x 6148914691236517205))) >>> (2 : Nat)) 3689348814741910323) + (bits .and .u64 (IntKind.u64.wrap ((bits .and .u64 (x >>> (1 : Nat)) 6148914691236517205) + (bits .and .u64 x 6148914691236517205))) 3689348814741910323))) >>> (4 : Nat)) + (IntKind.u64.wrap ((bits .and .u64 ((IntKind.u64.wrap ((bits .and .u64 (x >>> (1 : Nat)) 6148914691236517205) + (bits .and .u64 x 6148914691236517205))) >>> (2 : Nat)) 3689348814741910323) + (bits .and .u64 (IntKind.u64.wrap ((bits .and .u64 (x >>> (1 : Nat)) 6148914691236517205) + (bits .and .u64 x 6148914691236517205))) 3689348814741910323))))) 1085102592571150095) + ((bits .and .u64 (IntKind.u64.wrap (((IntKind.u64.wrap ((bits .and .u64 ((IntKind.u64.wrap ((bits .and .u64 (x >>> (1 : Nat)) 6148914691236517205) + (bits .and .u64 x 6148914691236517205))) >>> (2 : Nat)) 3689348814741910323) + (bits .and .u64 (IntKind.u64.wrap ((bits .and .u64 (x >>> (1 : Nat)) 6148914691236517205) + (bits .and .u64 x 6148914691236517205))) 3689348814741910323))) >>> (4 : Nat)) + (IntKind.u64.wrap ((bits .and .u64 ((IntKind.u64.wrap ((bits .and .u64 (x >>> (1 : Nat)) 6148914691236517205) + (bits .and .u64 x 6148914691236517205))) >>> (2 : Nat)) 3689348814741910323) + (bits .and .u64 (IntKind.u64.wrap ((bits .and .u64 (x >>> (1 : Nat)) 6148914691236517205) + (bits .and .u64 x 6148914691236517205))) 3689348814741910323))))) 1085102592571150095) >>> (8 : Nat)))) >>> (16 : Nat))))) rfl (OpY.addU rfl rfl) ?_
 refine Run.p (.int .u64 (IntKind.u64.wrap ((IntKind.u64.wrap ((bits .and .u64 (IntKind.u64.wrap (((IntKind.u64.wrap ((bits .and .u64 ((IntKind.u64.wrap ((bits .and .u64 (x >>> (1 : Nat)) 6148914691236517205) + (bits .and .u64 x 6148914691236517205))) >>> (2 : Nat)) 3689348814741910323) + (bits .and .u64 (IntKind.u64.wrap ((bits .and .u64 (x >>> (1 : Nat)) 6148914691236517205) + (bits .and .u64 x 6148914691236517205))) 3689348814741910323))) >>> (4 : Nat)) + (IntKind.u64.wrap ((bits .and .u64 ((IntKind.u64.wrap ((bits .and .u64 (x >>> (1 : Nat)) 6148914691236517205) + (bits .and .u64 x 6148914691236517205))) >>> (2 : Nat)) 3689348814741910323) + (bits .and .u64 (IntKind.u64.wrap ((bits .and .u64 (x >>> (1 : Nat)) 6148914691236517205) + (bits .and .u64 x 6148914691236517205))) 3689348814741910323))))) 1085102592571150095) + ((bits .and .u64 (IntKind.u64.wrap (((IntKind.u64.wrap ((bits .and .u64 ((IntKind.u64.wrap ((bits .and .u64 (x >>> (1 : Nat)) 6148914691236517205) + (bits .and .u64 x 6148914691236517205))) >>> (2 : Nat)) 3689348814741910323) + (bits .and .u64 (IntKind.u64.wrap ((bits .and .u64 (x >>> (1 : Nat)) 6148914691236517205) + (bits .and .u64 x 6148914691236517205))) 3689348814741910323))) >>> (4 : Nat)) + (IntKind.u64.wrap ((bits .and .u64 ((IntKind.u64.wrap ((bits .and .u64 (x >>> (1 : Nat)) 6148914691236517205) + (bits .and .u64 x 6148914691236517205))) >>> (2 : Nat)) 3689348814741910323) + (bits .and .u64 (IntKind.u64.wrap ((bits .and .u64 (x >>> (1 : Nat)) 6148914691236517205) + (bits .and .u64 x 6148914691236517205))) 3689348814741910323))))) 1085102592571150095) >>> (8 : Nat)))) + ((IntKind.u64.wrap ((bits .and .u64 (IntKind.u64.wrap (((IntKind.u64.wrap ((bits .and .u64 ((IntKind.u64.wrap ((bits .and .u64 (x >>> (1 : Nat)) 6148914691236517205) + (bits .and .u64 x 6148914691236517205))) >>> (2 : Nat)) 3689348814741910323) + (bits .and .u64 (IntKind.u64.wrap ((bits .and .u64 (x >>> (1 : Nat)) 6148914691236517205) + (bits .and .u64 x 6148914691236517205))) 3689348814741910323))) >>> (4 : Nat)) + (IntKind.u64.wrap ((bits .and .u64 ((IntKind.u64.wrap ((bits .and .u64 (x >>> (1 : Nat)) 6148914691236517205) + (bits .and .u64 x 6148914691236517205))) >>> (2 : Nat)) 3689348814741910323) + (bits .and .u64 (IntKind.u64.wrap ((bits .and .u64 (x >>> (1 : Nat)) 6148914691236517205) + (bits .and .u64 x 6148914691236517205))) 3689348814741910323))))) 1085102592571150095) + ((bits .and .u64 (IntKind.u64.wrap (((IntKind.u64.wrap ((bits .and .u64 ((IntKind.u64.wrap ((bits .and .u64 (x >>> (1 : Nat)) 6148914691236517205) + (bits .and .u64 x 6148914691236517205))) >>> (2 : Nat)) 3689348814741910323) + (bits .and .u64 (IntKind.u64.wrap ((bits .and .u64 (x >>> (1 : Nat)) 6148914691236517205) + (bits .and .u64 x 6148914691236517205))) 3689348814741910323))) >>> (4 : Nat)) + (IntKind.u64.wrap ((bits .and .u64 ((IntKind.u64.wrap ((bits .and .u64 (x >>> (1 : Nat)) 6148914691236517205) + (bits .and .u64 x 6148914691236517205))) >>> (2 : Nat)) 3689348814741910323) + (bits .and .u64 (IntKind.u64.wrap ((bits .and .u64 (x >>> (1 : Nat)) 6148914691236517205) + (bits .and .u64 x 6148914691236517205))) 3689348814741910323))))) 1085102592571150095) >>> (8 : Nat)))) >>> (16 : Nat))))) rfl rfl ?_
 refine Run.dsr ?_
 refine Run.p (.int .u64 (IntKind.u64.wrap ((IntKind.u64.wrap ((bits .and .u64 (IntKind.u64.wrap (((IntKind.u64.wrap ((bits .and .u64 ((IntKind.u64.wrap ((bits .and .u64 (x >>> (1 : Nat)) 6148914691236517205) + (bits .and .u64 x 6148914691236517205))) >>> (2 : Nat)) 3689348814741910323) + (bits .and .u64 (IntKind.u64.wrap ((bits .and .u64 (x >>> (1 : Nat)) 6148914691236517205) + (bits .and .u64 x 6148914691236517205))) 3689348814741910323))) >>> (4 : Nat)) + (IntKind.u64.wrap ((bits .and .u64 ((IntKind.u64.wrap ((bits .and .u64 (x >>> (1 : Nat)) 6148914691236517205) + (bits .and .u64 x 6148914691236517205))) >>> (2 : Nat)) 3689348814741910323) + (bits .and .u64 (IntKind.u64.wrap ((bits .and .u64 (x >>> (1 : Nat)) 6148914691236517205) + (bits .and .u64 x 6148914691236517205))) 3689348814741910323))))) 1085102592571150095) + ((bits .and .u64 (IntKind.u64.wrap (((IntKind.u64.wrap ((bits .and .u64 ((IntKind.u64.wrap ((bits .and .u64 (x >>> (1 : Nat)) 6148914691236517205) + (bits .and .u64 x 6148914691236517205))) >>> (2 : Nat)) 3689348814741910323) + (bits .and .u64 (IntKind.u64.wrap ((bits .and .u64 (x >>> (1 : Nat)) 6148914691236517205) + (bits .and .u64 x 6148914691236517205))) 3689348814741910323))) >>> (4 : Nat)) + (IntKind.u64.wrap ((bits .and .u64 ((IntKind.u64.wrap ((bits .and .u64 (x >>> (1 : Nat)) 6148914691236517205) + (bits .and .u64 x 6148914691236517205))) >>> (2 : Nat)) 3689348814741910323) + (bits .and .u64 (IntKind.u64.wrap ((bits .and .u64 (x >>> (1 : Nat)) 6148914691236517205) + (bits .and .u64 x 6148914691236517205))) 3689348814741910323))))) 1085102592571150095) >>> (8 : Nat)))) + ((IntKind.u64.wrap ((bits .and .u64 (IntKind.u64.wrap (((IntKind.u64.wrap ((bits .and .u64 ((IntKind.u64.wrap ((bits .and .u64 (x >>> (1 : Nat)) 6148914691236517205) + (bits .and .u64 x 6148914691236517205))) >>> (2 : Nat)) 3689348814741910323) + (bits .and .u64 (IntKind.u64.wrap ((bits .and .u64 (x >>> (1 : Nat)) 6148914691236517205) + (bits .and .u64 x 6148914691236517205))) 3689348814741910323))) >>> (4 : Nat)) + (IntKind.u64.wrap ((bits .and .u64 ((IntKind.u64.wrap ((bits .and .u64 (x >>> (1 : Nat)) 6148914691236517205) + (bits .and .u64 x 6148914691236517205))) >>> (2 : Nat)) 3689348814741910323) + (bits .and .u64 (IntKind.u64.wrap ((bits .and .u64 (x >>> (1 : Nat)) 6148914691236517205) + (bits .and .u64 x 6148914691236517205))) 3689348814741910323))))) 1085102592571150095) + ((bits .and .u64 (IntKind.u64.wrap (((IntKind.u64.wrap ((bits .and .u64 ((IntKind.u64.wrap ((bits .and .u64 (x >>> (1 : Nat)) 6148914691236517205) + (bits .and .u64 x 6148914691236517205))) >>> (2 : Nat)) 3689348814741910323) + (bits .and .u64 (IntKind.u64.wrap ((bits .and .u64 (x >>> (1 : Nat)) 6148914691236517205) + (bits .and .u64 x 6148914691236517205))) 3689348814741910323))) >>> (4 : Nat)) + (IntKind.u64.wrap ((bits .and .u64 ((IntKind.u64.wrap ((bits .and .u64 (x >>> (1 : Nat)) 6148914691236517205) + (bits .and .u64 x 6148914691236517205))) >>> (2 : Nat)) 3689348814741910323) + (bits .and .u64 (IntKind.u64.wrap ((bits .and .u64 (x >>> (1 : Nat)) 6148914691236517205) + (bits .and .u64 x 6148914691236517205))) 3689348814741910323))))) 1085102592571150095) >>> (8 : Nat)))) >>> (16 : Nat))))) rfl rfl ?_
 refine Run.p (.int .u64 (IntKind.u64.wrap ((IntKind.u64.wrap ((bits .and .u64 (IntKind.u64.wrap (((IntKind.u64.wrap ((bits .and .u64 ((IntKind.u64.wrap ((bits .and .u64 (x >>> (1 : Nat)) 6148914691236517205) + (bits .and .u64 x 6148914691236517205))) >>> (2 : Nat)) 3689348814741910323) + (bits .and .u64 (IntKind.u64.wrap ((bits .and .u64 (x >>> (1 : Nat)) 6148914691236517205) + (bits .and .u64 x 6148914691236517205))) 3689348814741910323))) >>> (4 : Nat)) + (IntKind.u64.wrap ((bits .and .u64 ((IntKind.u64.wrap ((bits .and .u64 (x >>> (1 : Nat)) 6148914691236517205) + (bits .and .u64 x 6148914691236517205))) >>> (2 : Nat)) 3689348814741910323) + (bits .and .u64 (IntKind.u64.wrap ((bits .and .u64 (x >>> (1 : Nat)) 6148914691236517205) + (bits .and .u64 x 6148914691236517205))) 3689348814741910323))))) 1085102592571150095) + ((bits .and .u64 (IntKind.u64.wrap (((IntKind.u64.wrap ((bits .and .u64 ((IntKind.u64.wrap ((bits .and .u64 (x >>> (1 : Nat)) 6148914691236517205) + (bits .and .u64 x 6148914691236517205))) >>> (2 : Nat)) 3689348814741910323) + (bits .and .u64 (IntKind.u64.wrap ((bits .and .u64 (x >>> (1 : Nat)) 6148914691236517205) + (bits .and .u64 x 6148914691236517205))) 3689348814741910323))) >>> (4 : Nat)) + (IntKind.u64.wrap ((bits .and .u64 ((IntKind.u64.wrap ((bits .and .u64 (x >>> (1 : Nat)) 6148914691236517205) + (bits .and .u64 x 6148914691236517205))) >>> (2 : Nat)) 3689348814741910323) + (bits .and .u64 (IntKind.u64.wrap ((bits .and .u64 (x >>> (1 : Nat)) 6148914691236517205) + (bits .and .u64 x 6148914691236517205))) 3689348814741910323))))) 1085102592571150095) >>> (8 : Nat)))) + ((IntKind.u64.wrap ((bits .and .u64 (IntKind.u64.wrap (((IntKind.u64.wrap ((bits .and .u64 ((IntKind.u64.wrap ((bits .and .u64 (x >>> (1 : Nat)) 6148914691236517205) + (bits .and .u64 x 6148914691236517205))) >>> (2 : Nat)) 3689348814741910323) + (bits .and .u64 (IntKind.u64.wrap ((bits .and .u64 (x >>> (1 : Nat)) 6148914691236517205) + (bits .and .u64 x 6148914691236517205))) 3689348814741910323))) >>> (4 : Nat)) + (IntKind.u64.wrap ((bits .and .u64 ((IntKind.u64.wrap ((bits .and .u64 (x >>> (1 : Nat)) 6148914691236517205) + (bits .and .u64 x 6148914691236517205))) >>> (2 : Nat)) 3689348814741910323) + (bits .and .u64 (IntKind.u64.wrap ((bits .and .u64 (x >>> (1 : Nat)) 6148914691236517205) + (bits .and .u64 x 6148914691236517205))) 3689348814741910323))))) 1085102592571150095) + ((bits .and .u64 (IntKind.u64.wrap (((IntKind.u64.wrap ((bits .and .u64 ((IntKind.u64.wrap ((bits .and .u64 (x >>> (1 : Nat)) 6148914691236517205) + (bits .and .u64 x 6148914691236517205))) >>> (2 : Nat)) 3689348814741910323) + (bits .and .u64 (IntKind.u64.wrap ((bits .and .u64 (x >>> (1 : Nat)) 6148914691236517205) + (bits .and .u64 x 6148914691236517205))) 3689348814741910323))) >>> (4 : Nat)) + (IntKind.u64.wrap ((bits .and .u64 ((IntKind.u64.wrap ((bits .and .u64 (x >>> (1 : Nat)) 6148914691236517205) + (bits .and .u64 x 6148914691236517205))) >>> (2 : Nat)) 3689348814741910323) + (bits .and .u64 (IntKind.u64.wrap ((bits .and .u64 (x >>> (1 : Nat)) 6148914691236517205) + (bits .and .u64 x 6148914691236517205))) 3689348814741910323))))) 1085102592571150095) >>> (8 : Nat)))) >>> (16 : Nat))))) rfl rfl ?_
 refine Run.y (.int .u64 ((IntKind.u64.wrap ((IntKind.u64.wrap ((bits .and .u64 (IntKind.u64.wrap (((IntKind.u64.wrap ((bits .and .u64 ((IntKind.u64.wrap ((bits .and .u64 (x >>> (1 : Nat)) 6148914691236517205) + (bits .and .u64 x 6148914691236517205))) >>> (2 : Nat)) 3689348814741910323) + (bits .and .u64 (IntKind.u64.wrap ((bits .and .u64 (x >>> (1 : Nat)) 6148914691236517205) + (bits .and .u64 x 6148914691236517205))) 3689348814741910323))) >>> (4 : Nat)) + (IntKind.u64.wrap ((bits .and .u64 ((IntKind.u64.wrap ((bits .and .u64 (x >>> (1 : Nat)) 6148914691236517205) + (bits .and .u64 x 6148914691236517205))) >>> (2 : Nat)) 3689348814741910323) + (bits .and .u64 (IntKind.u64.wrap ((bits .and .u64 (x >>> (1 : Nat)) 6148914691236517205) + (bits .and .u64 x 6148914691236517205))) 3689348814741910323))))) 1085102592571150095) + ((bits .and .u64 (IntKind.u64.wrap (((IntKind.u64.wrap ((bits .and .u64 ((IntKind.u64.wrap ((bits .and .u64 (x >>> (1 : Nat)) 6148914691236517205) + (bits .and .u64 x 6148914691236517205))) >>> (2 : Nat)) 3689348814741910323) + (bits .and .u64 (IntKind.u64.wrap ((bits .and .u64 (x >>> (1 : Nat)) 6148914691236517205) + (bits .and .u64 x 6148914691236517205))) 3689348814741910323))) >>> (4 : Nat)) + (IntKind.u64.wrap ((bits .and .u64 ((IntKind.u64.wrap ((bits .and .u64 (x >>> (1 : Nat)) 6148914691236517205) + (bits .and .u64 x 6148914691236517205))) >>> (2 : Nat)) 3689348814741910323) + (bits .and .u64 (IntKind.u64.wrap ((bits .and .u64 (x >>> (1 : Nat)) 6148914691236517205) + (bits .and .u64 x 6148914691236517205))) 3689348814741910323))))) 1085102592571150095) >>> (8 : Nat)))) + ((IntKind.u64.wrap ((bits .and .u64 (IntKind.u64.wrap (((IntKind.u64.wrap ((bits .and .u64 ((IntKind.u64.wrap ((bits .and .u64 (x >>> (1 : Nat)) 6148914691236517205) + (bits .and .u64 x 6148914691236517205))) >>> (2 : Nat)) 3689348814741910323) + (bits .and .u64 (IntKind.u64.wrap ((bits .and .u64 (x >>> (1 : Nat)) 6148914691236517205) + (bits .and .u64 x 6148914691236517205))) 3689348814741910323))) >>> (4 : Nat)) + (IntKind.u64.wrap ((bits .and .u64 ((IntKind.u64.wrap ((bits .and .u64 (x >>> (1 : Nat)) 6148914691236517205) + (bits .and .u64 x 6148914691236517205))) >>> (2 : Nat)) 3689348814741910323) + (bits .and .u64 (IntKind.u64.wrap ((bits .and .u64 (x >>> (1 : Nat)) 6148914691236517205) + (bits .and .u64 x 6148914691236517205))) 3689348814741910323))))) 1085102592571150095) + ((bits .and .u64 (IntKind.u64.wrap (((IntKind.u64.wrap ((bits .and .u64 ((IntKind.u64.wrap ((bits .and .u64 (x >>> (1 : Nat)) 6148914691236517205) + (bits .and .u64 x 6148914691236517205))) >>> (2 : Nat)) 3689348814741910323) + (bits .and .u64 (IntKind.u64.wrap ((bits .and .u64 (x >>> (1 : Nat)) 6148914691236517205) + (bits .and .u64 x 6148914691236517205))) 3689348814741910323))) >>> (4 : Nat)) + (IntKind.u64.wrap ((bits .and .u64 ((IntKind.u64.wrap ((bits .and .u64 (x >>> (1 : Nat)) 6148914691236517205) + (bits .and .u64 x 6148914691236517205))) >>> (2 : Nat)) 3689348814741910323) + (bits .and .u64 (IntKind.u64.wrap ((bits .and .u64 (x >>> (1 : Nat)) 6148914691236517205) + (bits .and .u64 x 6148914691236517205))) 3689348814741910323))))) 1085102592571150095) >>> (8 : Nat)))) >>> (16 : Nat)))) >>> (32 : Nat))) rfl (OpY.shrU rfl rfl rfl (by decide)) ?_
 refine Run.y (.int .u64 (IntKind.u64.wrap ((IntKind.u64.wrap ((IntKind.u64.wrap ((bits .and .u64 (IntKind.u64.wrap (((IntKind.u64.wrap ((bits .and .u64 ((IntKind.u64.wrap ((bits .and .u64 (x >>> (1 : Nat)) 6148914691236517205) + (bits .and .u64 x 6148914691236517205))) >>> (2 : Nat)) 3689348814741910323) + (bits .and .u64 (IntKind.u64.wrap ((bits .and .u64 (x >>> (1 : Nat)) 6148914691236517205) + (bits .and .u64 x 6148914691236517205))) 3689348814741910323))) >>> (4 : Nat)) + (IntKind.u64.wrap ((bits .and .u64 ((IntKind.u64.wrap ((bits .and .u64 (x >>> (1 : Nat)) 6148914691236517205) + (bits .and .u64 x 6148914691236517205))) >>> (2 : Nat)) 3689348814741910323) + (bits .and .u64 (IntKind.u64.wrap ((bits .and .u64 (x >>> (1 : Nat)) 6148914691236517205) + (bits .and .u64 x 6148914691236517205))) 3689348814741910323))))) 1085102592571150095) + ((bits .and .u64 (IntKind.u64.wrap (((IntKind.u64.wrap ((bits .and .u64 ((IntKind.u64.wrap ((bits .and .u64 (x >>> (1 : Nat)) 6148914691236517205) + (bits .and .u64 x 6148914691236517205))) >>> (2 : Nat)) 3689348814741910323) + (bits .and .u64 (IntKind.u64.wrap ((bits .and .u64 (x >>> (1 : Nat)) 6148914691236517205) + (bits .and .u64 x 6148914691236517205))) 3689348814741910323))) >>> (4 : Nat)) + (IntKind.u64.wrap ((bits .and .u64 ((IntKind.u64.wrap ((bits .and .u64 (x >>> (1 : Nat)) 6148914691236517205) + (bits .and .u64 x 6148914691236517205))) >>> (2 : Nat)) 3689348814741910323) + (bits .and .u64 (IntKind.u64.wrap ((bits .and .u64 (x >>> (1 : Nat)) 6148914691236517205) + (bits .and .u64 x 6148914691236517205))) 3689348814741910323))))) 1085102592571150095) >>> (8 : Nat)))) + ((IntKind.u64.wrap ((bits .and .u64 (IntKind.u64.wrap (((IntKind.u64.wrap ((bits .and .u64 ((IntKind.u64.wrap ((bits .and .u64 (x >>> (1 : Nat)) 6148914691236517205) + (bits .and .u64 x 6148914691236517205))) >>> (2 : Nat)) 3689348814741910323) + (bits .and .u64 (IntKind.u64.wrap ((bits .and .u64 (x >>> (1 : Nat)) 6148914691236517205) + (bits .and .u64 x 6148914691236517205))) 3689348814741910323))) >>> (4 : Nat)) + (IntKind.u64.wrap ((bits .and .u64 ((IntKind.u64.wrap ((bits .and .u64 (x >>> (1 : Nat)) 6148914691236517205) + (bits .and .u64 x 6148914691236517205))) >>> (2 : Nat)) 3689348814741910323) + (bits .and .u64 (IntKind.u64.wrap ((bits .and .u64 (x >>> (1 : Nat)) 6148914691236517205) + (bits .and .u64 x 6148914691236517205))) 3689348814741910323))))) 1085102592571150095) + ((bits .and .u64 (IntKind.u64.wrap (((IntKind.u64.wrap ((bits .and .u64 ((IntKind.u64.wrap ((bits .and .u64 (x >>> (1 : Nat)) 6148914691236517205) + (bits .and .u64 x 6148914691236517205))) >>> (2 : Nat)) 3689348814741910323) + (bits .and .u64 (IntKind.u64.wrap ((bits .and .u64 (x >>> (1 : Nat)) 6148914691236517205) + (bits .and .u64 x 6148914691236517205))) 3689348814741910323))) >>> (4 : Nat)) + (IntKind.u64.wrap ((bits .and .u64 ((IntKind.u64.wrap ((bits .and .u64 (x >>> (1 : Nat)) 6148914691236517205) + (bits .and .u64 x 6148914691236517205))) >>> (2 : Nat)) 3689348814741910323) + (bits .and .u64 (IntKind.u64.wrap ((bits .and .u64 (x >>> (1 : Nat)) 6148914691236517205) + (bits .and .u64 x 6148914691236517205))) 3689348814741910323))))) 1085102592571150095) >>> (8 : Nat)))) >>> (16 : Nat)))) + ((IntKind.u64.wrap ((IntKind.u64.wrap ((bits .and .u64 (IntKind.u64.wrap (((IntKind.u64.wrap ((bits .and .u64 ((IntKind.u64.wrap ((bits .and .u64 (x >>> (1 : Nat)) 6148914691236517205) + (bits .and .u64 x 6148914691236517205))) >>> (2 : Nat)) 3689348814741910323) + (bits .and .u64 (IntKind.u64.wrap ((bits .and .u64 (x >>> (1 : Nat)) 6148914691236517205) + (bits .and .u64 x 6148914691236517205))) 3689348814741910323))) >>> (4 : Nat)) + (IntKind.u64.wrap ((bits .and .u64 ((IntKind.u64.wrap ((bits .and .u64 (x >>> (1 : Nat)) 6148914691236517205) + (bits .and .u64 x 6148914691236517205))) >>> (2 : Nat)) 3689348814741910323) + (bits .and .u64 (IntKind.u64.wrap ((bits .and .u64 (x >>> (1 : Nat)) 6148914691236517205) + (bits .and .u64 x 6148914691236517205))) 3689348814741910323))))) 1085102592571150095) + ((bits .and .u64 (IntKind.u64.wrap (((IntKind.u64.wrap ((bits .and .u64 ((IntKind.u64.wrap ((bits .and .u64 (x >>> (1 : Nat)) 6148914691236517205) + (bits .and .u64 x 6148914691236517205))) >>> (2 : Nat)) 3689348814741910323) + (bits .and .u64 (IntKind.u64.wrap ((bits .and .u64 (x >>> (1 : Nat)) 6148914691236517205) + (bits .and .u64 x 6148914691236517205))) 3689348814741910323))) >>> (4 : Nat)) + (IntKind.u64.wrap ((bits .and .u64 ((IntKind.u64.wrap ((bits .and .u64 (x >>> (1 : Nat)) 6148914691236517205) + (bits .and .u64 x 6148914691236517205))) >>> (2 : Nat)) 3689348814741910323) + (bits .and .u64 (IntKind.u64.wrap ((bits .and .u64 (x >>> (1 : Nat)) 6148914691236517205) + (bits .and .u64 x 6148914691236517205))) 3689348814741910323))))) 1085102592571150095) >>> (8 : Nat)))) + ((IntKind.u64.wrap ((bits .and .u64 (IntKind.u64.wrap (((IntKind.u64.wrap ((bits .and .u64 ((IntKind.u64.wrap ((bits .and .u64 (x >>> (1 : Nat)) 6148914691236517205) + (bits .and .u64 x 6148914691236517205))) >>> (2 : Nat)) 3689348814741910323) + (bits .and .u64 (IntKind.u64.wrap ((bits .and .u64 (x >>> (1 : Nat)) 6148914691236517205) + (bits .and .u64 x 6148914691236517205))) 3689348814741910323))) >>> (4 : Nat)) + (IntKind.u64.wrap ((bits .and .u64 ((IntKind.u64.wrap ((bits .and .u64 (x >>> (1 : Nat)) 6148914691236517205) + (bits .and .u64 x 6148914691236517205))) >>> (2 : Nat)) 3689348814741910323) + (bits .and .u64 (IntKind.u64.wrap ((bits .and .u64 (x >>> (1 : Nat)) 6148914691236517205) + (bits .and .u64 x 6148914691236517205))) 3689348814741910323))))) 1085102592571150095) + ((bits .and .u64 (IntKind.u64.wrap (((IntKind.u64.wrap ((bits .and .u64 ((IntKind.u64.wrap ((bits .and .u64 (x >>> (1 : Nat)) 6148914691236517205) + (bits .and .u64 x 6148914691236517205))) >>> (2 : Nat)) 3689348814741910323) + (bits .and .u64 (IntKind.u64.wrap ((bits .and .u64 (x >>> (1 : Nat)) 6148914691236517205) + (bits .and .u64 x 6148914691236517205))) 3689348814741910323))) >>> (4 : Nat)) + (IntKind.u64.wrap ((bits .and .u64 ((IntKind.u64.wrap ((bits .and .u64 (x >>> (1 : Nat)) 6148914691236517205) + (bits .and .u64 x 6148914691236517205))) >>> (2 : Nat)) 3689348814741910323) + (bits .and .u64 (IntKind.u64.wrap ((bits .and .u64 (x >>> (1 : Nat)) 6148914691236517205) + (bits .and .u64 x 6148914691236517205))) 3689348814741910323))))) 1085102592571150095) >>> (8 : Nat)))) >>> (16 : Nat)))) >>> (32 : Nat))))) rfl (OpY.addU rfl rfl) ?_
 refine Run.p (.int .u64 (IntKind.u64.wrap ((IntKind.u64.wrap ((IntKind.u64.wrap ((bits .and .u64 (IntKind.u64.wrap (((IntKind.u64.wrap ((bits .and .u64 ((IntKind.u64.wrap ((bits .and .u64 (x >>> (1 : Nat)) 6148914691236517205) + (bits .and .u64 x 6148914691236517205))) >>> (2 : Nat)) 3689348814741910323) + (bits .and .u64 (IntKind.u64.wrap ((bits .and .u64 (x >>> (1 : Nat)) 6148914691236517205) + (bits .and .u64 x 6148914691236517205))) 3689348814741910323))) >>> (4 : Nat)) + (IntKind.u64.wrap ((bits .and .u64 ((IntKind.u64.wrap ((bits .and .u64 (x >>> (1 : Nat)) 6148914691236517205) + (bits .and .u64 x 6148914691236517205))) >>> (2 : Nat)) 3689348814741910323) + (bits .and .u64 (IntKind.u64.wrap ((bits .and .u64 (x >>> (1 : Nat)) 6148914691236517205) + (bits .and .u64 x 6148914691236517205))) 3689348814741910323))))) 1085102592571150095) + ((bits .and .u64 (IntKind.u64.wrap (((IntKind.u64.wrap ((bits .and .u64 ((IntKind.u64.wrap ((bits .and .u64 (x >>> (1 : Nat)) 6148914691236517205) + (bits .and .u64 x 6148914691236517205))) >>> (2 : Nat)) 3689348814741910323) + (bits .and .u64 (IntKind.u64.wrap ((bits .and .u64 (x >>> (1 : Nat)) 6148914691236517205) + (bits .and .u64 x 6148914691236517205))) 3689348814741910323))) >>> (4 : Nat)) + (IntKind.u64.wrap ((bits .and .u64 ((IntKind.u64.wrap ((bits .and .u64 (x >>> (1 : Nat)) 6148914691236517205) + (bits .and .u64 x 6148914691236517205))) >>> (2 : Nat)) 3689348814741910323) + (bits .and .u64 (IntKind.u64.wrap ((bits .and .u64 (x >>> (1 : Nat)) 6148914691236517205) + (bits .and .u64 x 6148914691236517205))) 3689348814741910323))))) 1085102592571150095) >>> (8 : Nat)))) + ((IntKind.u64.wrap ((bits .and .u64 (IntKind.u64.wrap (((IntKind.u64.wrap ((bits .and .u64 ((IntKind.u64.wrap ((bits .and .u64 (x >>> (1 : Nat)) 6148914691236517205) + (bits .and .u64 x 6148914691236517205))) >>> (2 : Nat)) 3689348814741910323) + (bits .and .u64 (IntKind.u64.wrap ((bits .and .u64 (x >>> (1 : Nat)) 6148914691236517205) + (bits .and .u64 x 6148914691236517205))) 3689348814741910323))) >>> (4 : Nat)) + (IntKind.u64.wrap ((bits .and .u64 ((IntKind.u64.wrap ((bits .and .u64 (x >>> (1 : Nat)) 6148914691236517205) + (bits .and .u64 x 6148914691236517205))) >>> (2 : Nat)) 3689348814741910323) + (bits .and .u64 (IntKind.u64.wrap ((bits .and .u64 (x >>> (1 : Nat)) 6148914691236517205) + (bits .and .u64 x 6148914691236517205))) 3689348814741910323))))) 1085102592571150095) + ((bits .and .u64 (IntKind.u64.wrap (((IntKind.u64.wrap ((bits .and .u64 ((IntKind.u64.wrap ((bits .and .u64 (x >>> (1 : Nat)) 6148914691236517205) + (bits .and .u64 x 6148914691236517205))) >>> (2 : Nat)) 3689348814741910323) + (bits .and .u64 (IntKind.u64.wrap ((bits .and .u64 (x >>> (1 : Nat)) 6148914691236517205) + (bits .and .u64 x 6148914691236517205))) 3689348814741910323))) >>> (4 : Nat)) + (IntKind.u64.wrap ((bits .and .u64 ((IntKind.u64.wrap ((bits .and .u64 (x >>> (1 : Nat)) 6148914691236517205) + (bits .and .u64 x 6148914691236517205))) >>> (2 : Nat)) 3689348814741910323) + (bits .and .u64 (IntKind.u64.wrap ((bits .and .u64 (x >>> (1 : Nat)) 6148914691236517205) + (bits .and .u64 x 6148914691236517205))) 3689348814741910323))))) 1085102592571150095) >>> (8 : Nat)))) >>> (16 : Nat)))) + ((IntKind.u64.wrap ((IntKind.u64.wrap ((bits .and .u64 (IntKind.u64.wrap (((IntKind.u64.wrap ((bits .and .u64 ((IntKind.u64.wrap ((bits .and .u64 (x >>> (1 : Nat)) 6148914691236517205) + (bits .and .u64 x 6148914691236517205))) >>> (2 : Nat)) 3689348814741910323) + (bits .and .u64 (IntKind.u64.wrap ((bits .and .u64 (x >>> (1 : Nat)) 6148914691236517205) + (bits .and .u64 x 6148914691236517205))) 3689348814741910323))) >>> (4 : Nat)) + (IntKind.u64.wrap ((bits .and .u64 ((IntKind.u64.wrap ((bits .and .u64 (x >>> (1 : Nat)) 6148914691236517205) + (bits .and .u64 x 6148914691236517205))) >>> (2 : Nat)) 3689348814741910323) + (bits .and .u64 (IntKind.u64.wrap ((bits .and .u64 (x >>> (1 : Nat)) 6148914691236517205) + (bits .and .u64 x 6148914691236517205))) 3689348814741910323))))) 1085102592571150095) + ((bits .and .u64 (IntKind.u64.wrap (((IntKind.u64.wrap ((bits .and .u64 ((IntKind.u64.wrap ((bits .and .u64 (x >>> (1 : Nat)) 6148914691236517205) + (bits .and .u64 x 6148914691236517205))) >>> (2 : Nat)) 3689348814741910323) + (bits .and .u64 (IntKind.u64.wrap ((bits .and .u64 (x >>> (1 : Nat)) 6148914691236517205) + (bits .and .u64 x 6148914691236517205))) 3689348814741910323))) >>> (4 : Nat)) + (IntKind.u64.wrap ((bits .and .u64 ((IntKind.u64.wrap ((bits .and .u64 (x >>> (1 : Nat)) 6148914691236517205) + (bits .and .u64 x 6148914691236517205))) >>> (2 : Nat)) 3689348814741910323) + (bits .and .u64 (IntKind.u64.wrap ((bits .and .u64 (x >>> (1 : Nat)) 6148914691236517205) + (bits .and .u64 x 6148914691236517205))) 3689348814741910323))))) 1085102592571150095) >>> (8 : Nat)))) + ((IntKind.u64.wrap ((bits .and .u64 (IntKind.u64.wrap (((IntKind.u64.wrap ((bits .and .u64 ((IntKind.u64.wrap ((bits .and .u64 (x >>> (1 : Nat)) 6148914691236517205) + (bits .and .u64 x 6148914691236517205))) >>> (2 : Nat)) 3689348814741910323) + (bits .and .u64 (IntKind.u64.wrap ((bits .and .u64 (x >>> (1 : Nat)) 6148914691236517205) + (bits .and .u64 x 6148914691236517205))) 3689348814741910323))) >>> (4 : Nat)) + (IntKind.u64.wrap ((bits .and .u64 ((IntKind.u64.wrap ((bits .and .u64 (x >>> (1 : Nat)) 6148914691236517205) + (bits .and .u64 x 6148914691236517205))) >>> (2 : Nat)) 3689348814741910323) + (bits .and .u64 (IntKind.u64.wrap ((bits .and .u64 (x >>> (1 : Nat)) 6148914691236517205) + (bits .and .u64 x 6148914691236517205))) 3689348814741910323))))) 1085102592571150095) + ((bits .and .u64 (IntKind.u64.wrap (((IntKind.u64.wrap ((bits .and .u64 ((IntKind.u64.wrap ((bits .and .u64 (x >>> (1 : Nat)) 6148914691236517205) + (bits .and .u64 x 6148914691236517205))) >>> (2 : Nat)) 3689348814741910323) + (bits .and .u64 (IntKind.u64.wrap ((bits .and .u64 (x >>> (1 : Nat)) 6148914691236517205) + (bits .and .u64 x 6148914691236517205))) 3689348814741910323))) >>> (4 : Nat)) + (IntKind.u64.wrap ((bits .and .u64 ((IntKind.u64.wrap ((bits .and .u64 (x >>> (1 : Nat)) 6148914691236517205) + (bits .and .u64 x 6148914691236517205))) >>> (2 : Nat)) 3689348814741910323) + (bits .and .u64 (IntKind.u64.wrap ((bits .and .u64 (x >>> (1 : Nat)) 6148914691236517205) + (bits .and .u64 x 6148914691236517205))) 3689348814741910323))))) 1085102592571150095) >>> (8 : Nat)))) >>> (16 : Nat)))) >>> (32 : Nat))))) rfl rfl ?_
 refine Run.dsr ?_
 refine Run.p (.int .u64 (IntKind.u64.wrap ((IntKind.u64.wrap ((IntKind.u64.wrap ((bits .and .u64 (IntKind.u64.wrap (((IntKind.u64.wrap ((bits .and .u64 ((IntKind.u64.wrap ((bits .and .u64 (x >>> (1 : Nat)) 6148914691236517205) + (bits .and .u64 x 6148914691236517205))) >>> (2 : Nat)) 3689348814741910323) + (bits .and .u64 (IntKind.u64.wrap ((bits .and .u64 (x >>> (1 : Nat)) 6148914691236517205) + (bits .and .u64 x 6148914691236517205))) 3689348814741910323))) >>> (4 : Nat)) + (IntKind.u64.wrap ((bits .and .u64 ((IntKind.u64.wrap ((bits .and .u64 (x >>> (1 : Nat)) 6148914691236517205) + (bits .and .u64 x 6148914691236517205))) >>> (2 : Nat)) 3689348814741910323) + (bits .and .u64 (IntKind.u64.wrap ((bits .and .u64 (x >>> (1 : Nat)) 6148914691236517205) + (bits .and .u64 x 6148914691236517205))) 3689348814741910323))))) 1085102592571150095) + ((bits .and .u64 (IntKind.u64.wrap (((IntKind.u64.wrap ((bits .and .u64 ((IntKind.u64.wrap ((bits .and .u64 (x >>> (1 : Nat)) 6148914691236517205) + (bits .and .u64 x 6148914691236517205))) >>> (2 : Nat)) 3689348814741910323) + (bits .and .u64 (IntKind.u64.wrap ((bits .and .u64 (x >>> (1 : Nat)) 6148914691236517205) + (bits .and .u64 x 6148914691236517205))) 3689348814741910323))) >>> (4 : Nat)) + (IntKind.u64.wrap ((bits .and .u64 ((IntKind.u64.wrap ((bits .and .u64 (x >>> (1 : Nat)) 6148914691236517205) + (bits .and .u64 x 6148914691236517205))) >>> (2 : Nat)) 3689348814741910323) + (bits .and .u64 (IntKind.u64.wrap ((bits .and .u64 (x >>> (1 : Nat)) 6148914691236517205) + (bits .and .u64 x 6148914691236517205))) 3689348814741910323))))) 1085102592571150095) >>> (8 : Nat)))) + ((IntKind.u64.wrap ((bits .and .u64 (IntKind.u64.wrap (((IntKind.u64.wrap ((bits .and .u64 ((IntKind.u64.wrap ((bits .and .u64 (x >>> (1 : Nat)) 6148914691236517205) + (bits .and .u64 x 6148914691236517205))) >>> (2 : Nat)) 3689348814741910323) + (bits .and .u64 (IntKind.u64.wrap ((bits .and .u64 (x >>> (1 : Nat)) 6148914691236517205) + (bits .and .u64 x 6148914691236517205))) 3689348814741910323))) >>> (4 : Nat)) + (IntKind.u64.wrap ((bits .and .u64 ((IntKind.u64.wrap ((bits .and .u64 (x >>> (1 : Nat)) 6148914691236517205) + (bits .and .u64 x 6148914691236517205))) >>> (2 : Nat)) 3689348814741910323) + (bits .and .u64 (IntKind.u64.wrap ((bits .and .u64 (x >>> (1 : Nat)) 6148914691236517205) + (bits .and .u64 x 6148914691236517205))) 3689348814741910323))))) 1085102592571150095) + ((bits .and .u64 (IntKind.u64.wrap (((IntKind.u64.wrap ((bits .and .u64 ((IntKind.u64.wrap ((bits .and .u64 (x >>> (1 : Nat)) 6148914691236517205) + (bits .and .u64 x 6148914691236517205))) >>> (2 : Nat)) 3689348814741910323) + (bits .and .u64 (IntKind.u64.wrap ((bits .and .u64 (x >>> (1 : Nat)) 6148914691236517205) + (bits .and .u64 x 6148914691236517205))) 3689348814741910323))) >>> (4 : Nat)) + (IntKind.u64.wrap ((bits .and .u64 ((IntKind.u64.wrap ((bits .and .u64 (x >>> (1 : Nat)) 6148914691236517205) + (bits .and .u64 x 6148914691236517205))) >>> (2 : Nat)) 3689348814741910323) + (bits .and .u64 (IntKind.u64.wrap ((bits .and .u64 (x >>> (1 : Nat)) 6148914691236517205) + (bits .and .u64 x 6148914691236517205))) 3689348814741910323))))) 1085102592571150095) >>> (8 : Nat)))) >>> (16 : Nat)))) + ((IntKind.u64.wrap ((IntKind.u64.wrap ((bits .and .u64 (IntKind.u64.wrap (((IntKind.u64.wrap ((bits .and .u64 ((IntKind.u64.wrap ((bits .and .u64 (x >>> (1 : Nat)) 6148914691236517205) + (bits .and .u64 x 6148914691236517205))) >>> (2 : Nat)) 3689348814741910323) + (bits .and .u64 (IntKind.u64.wrap ((bits .and .u64 (x >>> (1 : Nat)) 6148914691236517205) + (bits .and .u64 x 6148914691236517205))) 3689348814741910323))) >>> (4 : Nat)) + (IntKind.u64.wrap ((bits .and .u64 ((IntKind.u64.wrap ((bits .and .u64 (x >>> (1 : Nat)) 6148914691236517205) + (bits .and .u64 x 6148914691236517205))) >>> (2 : Nat)) 3689348814741910323) + (bits .and .u64 (IntKind.u64.wrap ((bits .and .u64 (x >>> (1 : Nat)) 6148914691236517205) + (bits .and .u64 x 6148914691236517205))) 3689348814741910323))))) 1085102592571150095) + ((bits .and .u64 (IntKind.u64.wrap (((IntKind.u64.wrap ((bits .and .u64 ((IntKind.u64.wrap ((bits .and .u64 (x >>> (1 : Nat)) 6148914691236517205) + (bits .and .u64 x 6148914691236517205))) >>> (2 : Nat)) 3689348814741910323) + (bits .and .u64 (IntKind.u64.wrap ((bits .and .u64 (x >>> (1 : Nat)) 6148914691236517205) + (bits .and .u64 x 6148914691236517205))) 3689348814741910323))) >>> (4 : Nat)) + (IntKind.u64.wrap ((bits .and .u64 ((IntKind.u64.wrap ((bits .and .u64 (x >>> (1 : Nat)) 6148914691236517205) + (bits .and .u64 x 6148914691236517205))) >>> (2 : Nat)) 3689348814741910323) + (bits .and .u64 (IntKind.u64.wrap ((bits .and .u64 (x >>> (1 : Nat)) 6148914691236517205) + (bits .and .u64 x 6148914691236517205))) 3689348814741910323))))) 1085102592571150095) >>> (8 : Nat)))) + ((IntKind.u64.wrap ((bits .and .u64 (IntKind.u64.wrap (((IntKind.u64.wrap ((bits .and .u64 ((IntKind.u64.wrap ((bits .and .u64 (x >>> (1 : Nat)) 6148914691236517205) + (bits .and .u64 x 6148914691236517205))) >>> (2 : Nat)) 3689348814741910323) + (bits .and .u64 (IntKind.u64.wrap ((bits .and .u64 (x >>> (1 : Nat)) 6148914691236517205) + (bits .and .u64 x 6148914691236517205))) 3689348814741910323))) >>> (4 : Nat)) + (IntKind.u64.wrap ((bits .and .u64 ((IntKind.u64.wrap ((bits .and .u64 (x >>> (1 : Nat)) 6148914691236517205) + (bits .and .u64 x 6148914691236517205))) >>> (2 : Nat)) 3689348814741910323) + (bits .and .u64 (IntKind.u64.wrap ((bits .and .u64 (x >>> (1 : Nat)) 6148914691236517205) + (bits .and .u64 x 6148914691236517205))) 3689348814741910323))))) 1085102592571150095) + ((bits .and .u64 (IntKind.u64.wrap (((IntKind.u64.wrap ((bits .and .u64 ((IntKind.u64.wrap ((bits .and .u64 (x >>> (1 : Nat)) 6148914691236517205) + (bits .and .u64 x 6148914691236517205))) >>> (2 : Nat)) 3689348814741910323) + (bits .and .u64 (IntKind.u64.wrap ((bits .and .u64 (x >>> (1 : Nat)) 6148914691236517205) + (bits .and .u64 x 6148914691236517205))) 3689348814741910323))) >>> (4 : Nat)) + (IntKind.u64.wrap ((bits .and .u64 ((IntKind.u64.wrap ((bits .and .u64 (x >>> (1 : Nat)) 6148914691236517205) + (bits .and .u64 x 6148914691236517205))) >>> (2 : Nat)) 3689348814741910323) + (bits .and .u64 (IntKind.u64.wrap ((bits .and .u64 (x >>> (1 : Nat)) 6148914691236517205) + (bits .and .u64 x 6148914691236517205))) 3689348814741910323))))) 1085102592571150095) >>> (8 : Nat)))) >>> (16 : Nat)))) >>> (32 : Nat))))) rfl rfl ?_
 refine Run.y (.int .i64 (IntKind.i64.wrap (IntKind.u64.wrap ((IntKind.u64.wrap ((IntKind.u64.wrap ((bits .and .u64 (IntKind.u64.wrap (((IntKind.u64.wrap ((bits .and .u64 ((IntKind.u64.wrap ((bits .and .u64 (x >>> (1 : Nat)) 6148914691236517205) + (bits .and .u64 x 6148914691236517205))) >>> (2 : Nat)) 3689348814741910323) + (bits .and .u64 (IntKind.u64.wrap ((bits .and .u64 (x >>> (1 : Nat)) 6148914691236517205) + (bits .and .u64 x 6148914691236517205))) 3689348814741910323))) >>> (4 : Nat)) + (IntKind.u64.wrap ((bits .and .u64 ((IntKind.u64.wrap ((bits .and .u64 (x >>> (1 : Nat)) 6148914691236517205) + (bits .and .u64 x 6148914691236517205))) >>> (2 : Nat)) 3689348814741910323) + (bits .and .u64 (IntKind.u64.wrap ((bits .and .u64 (x >>> (1 : Nat)) 6148914691236517205) + (bits .and .u64 x 6148914691236517205))) 3689348814741910323))))) 1085102592571150095) + ((bits .and .u64 (IntKind.u64.wrap (((IntKind.u64.wrap ((bits .and .u64 ((IntKind.u64.wrap ((bits .and .u64 (x >>> (1 : Nat)) 6148914691236517205) + (bits .and .u64 x 6148914691236517205))) >>> (2 : Nat)) 3689348814741910323) + (bits .and .u64 (IntKind.u64.wrap ((bits .and .u64 (x >>> (1 : Nat)) 6148914691236517205) + (bits .and .u64 x 6148914691236517205))) 3689348814741910323))) >>> (4 : Nat)) + (IntKind.u64.wrap ((bits .and .u64 ((IntKind.u64.wrap ((bits .and .u64 (x >>> (1 : Nat)) 6148914691236517205) + (bits .and .u64 x 6148914691236517205))) >>> (2 : Nat)) 3689348814741910323) + (bits .and .u64 (IntKind.u64.wrap ((bits .and .u64 (x >>> (1 : Nat)) 6148914691236517205) + (bits .and .u64 x 6148914691236517205))) 3689348814741910323))))) 1085102592571150095) >>> (8 : Nat)))) + ((IntKind.u64.wrap ((bits .and .u64 (IntKind.u64.wrap (((IntKind.u64.wrap ((bits .and .u64 ((IntKind.u64.wrap ((bits .and .u64 (x >>> (1 : Nat)) 6148914691236517205) + (bits .and .u64 x 6148914691236517205))) >>> (2 : Nat)) 3689348814741910323) + (bits .and .u64 (IntKind.u64.wrap ((bits .and .u64 (x >>> (1 : Nat)) 6148914691236517205) + (bits .and .u64 x 6148914691236517205))) 3689348814741910323))) >>> (4 : Nat)) + (IntKind.u64.wrap ((bits .and .u64 ((IntKind.u64.wrap ((bits .and .u64 (x >>> (1 : Nat)) 6148914691236517205) + (bits .and .u64 x 6148914691236517205))) >>> (2 : Nat)) 3689348814741910323) + (bits .and .u64 (IntKind.u64.wrap ((bits .and .u64 (x >>> (1 : Nat)) 6148914691236517205) + (bits .and .u64 x 6148914691236517205))) 3689348814741910323))))) 1085102592571150095) + ((bits .and .u64 (IntKind.u64.wrap (((IntKind.u64.wrap ((bits .and .u64 ((IntKind.u64.wrap ((bits .and .u64 (x >>> (1 : Nat)) 6148914691236517205) + (bits .and .u64 x 6148914691236517205))) >>> (2 : Nat)) 3689348814741910323) + (bits .and .u64 (IntKind.u64.wrap ((bits .and .u64 (x >>> (1 : Nat)) 6148914691236517205) + (bits .and .u64 x 6148914691236517205))) 3689348814741910323))) >>> (4 : Nat)) + (IntKind.u64.wrap ((bits .and .u64 ((IntKind.u64.wrap ((bits .and .u64 (x >>> (1 : Nat)) 6148914691236517205) + (bits .and .u64 x 6148914691236517205))) >>> (2 : Nat)) 3689348814741910323) + (bits .and .u64 (IntKind.u64.wrap ((bits .and .u64 (x >>> (1 : Nat)) 6148914691236517205) + (bits .and .u64 x 6148914691236517205))) 3689348814741910323))))) 1085102592571150095) >>> (8 : Nat)))) >>> (16 : Nat)))) + ((IntKind.u64.wrap ((IntKind.u64.wrap ((bits .and .u64 (IntKind.u64.wrap (((IntKind.u64.wrap ((bits .and .u64 ((IntKind.u64.wrap ((bits .and .u64 (x >>> (1 : Nat)) 6148914691236517205) + (bits .and .u64 x 6148914691236517205))) >>> (2 : Nat)) 3689348814741910323) + (bits .and .u64 (IntKind.u64.wrap ((bits .and .u64 (x >>> (1 : Nat)) 6148914691236517205) + (bits .and .u64 x 6148914691236517205))) 3689348814741910323))) >>> (4 : Nat)) + (IntKind.u64.wrap ((bits .and .u64 ((IntKind.u64.wrap ((bits .and .u64 (x >>> (1 : Nat)) 6148914691236517205) + (bits .and .u64 x 6148914691236517205))) >>> (2 : Nat)) 3689348814741910323) + (bits .and .u64 (IntKind.u64.wrap ((bits .and .u64 (x >>> (1 : Nat)) 6148914691236517205) + (bits .and .u64 x 6148914691236517205))) 3689348814741910323))))) 1085102592571150095) + ((bits .and .u64 (IntKind.u64.wrap (((IntKind.u64.wrap ((bits .and .u64 ((IntKind.u64.wrap ((bits .and .u64 (x >>> (1 : Nat)) 6148914691236517205) + (bits .and .u64 x 6148914691236517205))) >>> (2 : Nat)) 3689348814741910323) + (bits .and .u64 (IntKind.u64.wrap ((bits .and .u64 (x >>> (1 : Nat)) 6148914691236517205) + (bits .and .u64 x 6148914691236517205))) 3689348814741910323))) >>> (4 : Nat)) + (IntKind.u64.wrap ((bits .and .u64 ((IntKind.u64.wrap ((bits .and .u64 (x >>> (1 : Nat)) 6148914691236517205) + (bits .and .u64 x 6148914691236517205))) >>> (2 : Nat)) 3689348814741910323) + (bits .and .u64 (IntKind.u64.wrap ((bits .and .u64 (x >>> (1 : Nat)) 6148914691236517205) + (bits .and .u64 x 6148914691236517205))) 3689348814741910323))))) 1085102592571150095) >>> (8 : Nat)))) + ((IntKind.u64.wrap ((bits .and .u64 (IntKind.u64.wrap (((IntKind.u64.wrap ((bits .and .u64 ((IntKind.u64.wrap ((bits .and .u64 (x >>> (1 : Nat)) 6148914691236517205) + (bits .and .u64 x 6148914691236517205))) >>> (2 : Nat)) 3689348814741910323) + (bits .and .u64 (IntKind.u64.wrap ((bits .and .u64 (x >>> (1 : Nat)) 6148914691236517205) + (bits .and .u64 x 6148914691236517205))) 3689348814741910323))) >>> (4 : Nat)) + (IntKind.u64.wrap ((bits .and .u64 ((IntKind.u64.wrap ((bits .and .u64 (x >>> (1 : Nat)) 6148914691236517205) + (bits .and .u64 x 6148914691236517205))) >>> (2 : Nat)) 3689348814741910323) + (bits .and .u64 (IntKind.u64.wrap ((bits .and .u64 (x >>> (1 : Nat)) 6148914691236517205) + (bits .and .u64 x 6148914691236517205))) 3689348814741910323))))) 1085102592571150095) + ((bits .and .u64 (IntKind.u64.wrap (((IntKind.u64.wrap ((bits .and .u64 ((IntKind.u64.wrap ((bits .and .u64 (x >>> (1 : Nat)) 6148914691236517205) + (bits .and .u64 x 6148914691236517205))) >>> (2 : Nat)) 3689348814741910323) + (bits .and .u64 (IntKind.u64.wrap ((bits .and .u64 (x >>> (1 : Nat)) 6148914691236517205) + (bits .and .u64 x 6148914691236517205))) 3689348814741910323))) >>> (4 : Nat)) + (IntKind.u64.wrap ((bits .and .u64 ((IntKind.u64.wrap ((bits .and .u64 (x >>> (1 : Nat)) 6148914691236517205) + (bits .and .u64 x 6148914691236517205))) >>> (2 : Nat)) 3689348814741910323) + (bits .and .u64 (IntKind.u64.wrap ((bits .and .u64 (x >>> (1 : Nat)) 6148914691236517205) + (bits .and .u64 x 6148914691236517205))) 3689348814741910323))))) 1085102592571150095) >>> (8 : Nat)))) >>> (16 : Nat)))) >>> (32 : Nat)))))) rfl (OpY.convInt Tsome_62 Tint_3 rfl) ?_
 refine Run.y (.int .i64 (bits .and .i64 (IntKind.i64.wrap (IntKind.u64.wrap ((IntKind.u64.wrap ((IntKind.u64.wrap ((bits .and .u64 (IntKind.u64.wrap (((IntKind.u64.wrap ((bits .and .u64 ((IntKind.u64.wrap ((bits .and .u64 (x >>> (1 : Nat)) 6148914691236517205) + (bits .and .u64 x 6148914691236517205))) >>> (2 : Nat)) 3689348814741910323) + (bits .and .u64 (IntKind.u64.wrap ((bits .and .u64 (x >>> (1 : Nat)) 6148914691236517205) + (bits .and .u64 x 6148914691236517205))) 3689348814741910323))) >>> (4 : Nat)) + (IntKind.u64.wrap ((bits .and .u64 ((IntKind.u64.wrap ((bits .and .u64 (x >>> (1 : Nat)) 6148914691236517205) + (bits .and .u64 x 6148914691236517205))) >>> (2 : Nat)) 3689348814741910323) + (bits .and .u64 (IntKind.u64.wrap ((bits .and .u64 (x >>> (1 : Nat)) 6148914691236517205) + (bits .and .u64 x 6148914691236517205))) 3689348814741910323))))) 1085102592571150095) + ((bits .and .u64 (IntKind.u64.wrap (((IntKind.u64.wrap ((bits .and .u64 ((IntKind.u64.wrap ((bits .and .u64 (x >>> (1 : Nat)) 6148914691236517205) + (bits .and .u64 x 6148914691236517205))) >>> (2 : Nat)) 3689348814741910323) + (bits .and .u64 (IntKind.u64.wrap ((bits .and .u64 (x >>> (1 : Nat)) 6148914691236517205) + (bits .and .u64 x 6148914691236517205))) 3689348814741910323))) >>> (4 : Nat)) + (IntKind.u64.wrap ((bits .and .u64 ((IntKind.u64.wrap ((bits .and .u64 (x >>> (1 : Nat)) 6148914691236517205) + (bits .and .u64 x 6148914691236517205))) >>> (2 : Nat)) 3689348814741910323) + (bits .and .u64 (IntKind.u64.wrap ((bits .and .u64 (x >>> (1 : Nat)) 6148914691236517205) + (bits .and .u64 x 6148914691236517205))) 3689348814741910323))))) 1085102592571150095) >>> (8 : Nat)))) + ((IntKind.u64.wrap ((bits .and .u64 (IntKind.u64.wrap (((IntKind.u64.wrap ((bits .and .u64 ((IntKind.u64.wrap ((bits .and .u64 (x >>> (1 : Nat)) 6148914691236517205) + (bits .and .u64 x 6148914691236517205))) >>> (2 : Nat)) 3689348814741910323) + (bits .and .u64 (IntKind.u64.wrap ((bits .and .u64 (x >>> (1 : Nat)) 6148914691236517205) + (bits .and .u64 x 6148914691236517205))) 3689348814741910323))) >>> (4 : Nat)) + (IntKind.u64.wrap ((bits .and .u64 ((IntKind.u64.wrap ((bits .and .u64 (x >>> (1 : Nat)) 6148914691236517205) + (bits .and .u64 x 6148914691236517205))) >>> (2 : Nat)) 3689348814741910323) + (bits .and .u64 (IntKind.u64.wrap ((bits .and .u64 (x >>> (1 : Nat)) 6148914691236517205) + (bits .and .u64 x 6148914691236517205))) 3689348814741910323))))) 1085102592571150095) + ((bits .and .u64 (IntKind.u64.wrap (((IntKind.u64.wrap ((bits .and .u64 ((IntKind.u64.wrap ((bits .and .u64 (x >>> (1 : Nat)) 6148914691236517205) + (bits .and .u64 x 6148914691236517205))) >>> (2 : Nat)) 3689348814741910323) + (bits .and .u64 (IntKind.u64.wrap ((bits .and .u64 (x >>> (1 : Nat)) 6148914691236517205) + (bits .and .u64 x 6148914691236517205))) 3689348814741910323))) >>> (4 : Nat)) + (IntKind.u64.wrap ((bits .and .u64 ((IntKind.u64.wrap ((bits .and .u64 (x >>> (1 : Nat)) 6148914691236517205) + (bits .and .u64 x 6148914691236517205))) >>> (2 : Nat)) 3689348814741910323) + (bits .and .u64 (IntKind.u64.wrap ((bits .and .u64 (x >>> (1 : Nat)) 6148914691236517205) + (bits .and .u64 x 6148914691236517205))) 3689348814741910323))))) 1085102592571150095) >>> (8 : Nat)))) >>> (16 : Nat)))) + ((IntKind.u64.wrap ((IntKind.u64.wrap ((bits .and .u64 (IntKind.u64.wrap (((IntKind.u64.wrap ((bits .and .u64 ((IntKind.u64.wrap ((bits .and .u64 (x >>> (1 : Nat)) 6148914691236517205) + (bits .and .u64 x 6148914691236517205))) >>> (2 : Nat)) 3689348814741910323) + (bits .and .u64 (IntKind.u64.wrap ((bits .and .u64 (x >>> (1 : Nat)) 6148914691236517205) + (bits .and .u64 x 6148914691236517205))) 3689348814741910323))) >>> (4 : Nat)) + (IntKind.u64.wrap ((bits .and .u64 ((IntKind.u64.wrap ((bits .and .u64 (x >>> (1 : Nat)) 6148914691236517205) + (bits .and .u64 x 6148914691236517205))) >>> (2 : Nat)) 3689348814741910323) + (bits .and .u64 (IntKind.u64.wrap ((bits .and .u64 (x >>> (1 : Nat)) 6148914691236517205) + (bits .and .u64 x 6148914691236517205))) 3689348814741910323))))) 1085102592571150095) + ((bits .and .u64 (IntKind.u64.wrap (((IntKind.u64.wrap ((bits .and .u64 ((IntKind.u64.wrap ((bits .and .u64 (x >>> (1 : Nat)) 6148914691236517205) + (bits .and .u64 x 6148914691236517205))) >>> (2 : Nat)) 3689348814741910323) + (bits .and .u64 (IntKind.u64.wrap ((bits .and .u64 (x >>> (1 : Nat)) 6148914691236517205) + (bits .and .u64 x 6148914691236517205))) 3689348814741910323))) >>> (4 : Nat)) + (IntKind.u64.wrap ((bits .and .u64 ((IntKind.u64.wrap ((bits .and .u64 (x >>> (1 : Nat)) 6148914691236517205) + (bits .and .u64 x 6148914691236517205))) >>> (2 : Nat)) 3689348814741910323) + (bits .and .u64 (IntKind.u64.wrap ((bits .and .u64 (x >>> (1 : Nat)) 6148914691236517205) + (bits .and .u64 x 6148914691236517205))) 3689348814741910323))))) 1085102592571150095) >>> (8 : Nat)))) + ((IntKind.u64.wrap ((bits .and .u64 (IntKind.u64.wrap (((IntKind.u64.wrap ((bits .and .u64 ((IntKind.u64.wrap ((bits .and .u64 (x >>> (1 : Nat)) 6148914691236517205) + (bits .and .u64 x 6148914691236517205))) >>> (2 : Nat)) 3689348814741910323) + (bits .and .u64 (IntKind.u64.wrap ((bits .and .u64 (x >>> (1 : Nat)) 6148914691236517205) + (bits .and .u64 x 6148914691236517205))) 3689348814741910323))) >>> (4 : Nat)) + (IntKind.u64.wrap ((bits .and .u64 ((IntKind.u64.wrap ((bits .and .u64 (x >>> (1 : Nat)) 6148914691236517205) + (bits .and .u64 x 6148914691236517205))) >>> (2 : Nat)) 3689348814741910323) + (bits .and .u64 (IntKind.u64.wrap ((bits .and .u64 (x >>> (1 : Nat)) 6148914691236517205) + (bits .and .u64 x 6148914691236517205))) 3689348814741910323))))) 1085102592571150095) + ((bits .and .u64 (IntKind.u64.wrap (((IntKind.u64.wrap ((bits .and .u64 ((IntKind.u64.wrap ((bits .and .u64 (x >>> (1 : Nat)) 6148914691236517205) + (bits .and .u64 x 6148914691236517205))) >>> (2 : Nat)) 3689348814741910323) + (bits .and .u64 (IntKind.u64.wrap ((bits .and .u64 (x >>> (1 : Nat)) 6148914691236517205) + (bits .and .u64 x 6148914691236517205))) 3689348814741910323))) >>> (4 : Nat)) + (IntKind.u64.wrap ((bits .and .u64 ((IntKind.u64.wrap ((bits .and .u64 (x >>> (1 : Nat)) 6148914691236517205) + (bits .and .u64 x 6148914691236517205))) >>> (2 : Nat)) 3689348814741910323) + (bits .and .u64 (IntKind.u64.wrap ((bits .and .u64 (x >>> (1 : Nat)) 6148914691236517205) + (bits .and .u64 x 6148914691236517205))) 3689348814741910323))))) 1085102592571150095) >>> (8 : Nat)))) >>> (16 : Nat)))) >>> (32 : Nat))))) 127)) rfl (OpY.and rfl rfl) ?_
 refine Run.p (.int .i64 (bits .and .i64 (IntKind.i64.wrap (IntKind.u64.wrap ((IntKind.u64.wrap ((IntKind.u64.wrap ((bits .and .u64 (IntKind.u64.wrap (((IntKind.u64.wrap ((bits .and .u64 ((IntKind.u64.wrap ((bits .and .u64 (x >>> (1 : Nat)) 6148914691236517205) + (bits .and .u64 x 6148914691236517205))) >>> (2 : Nat)) 3689348814741910323) + (bits .and .u64 (IntKind.u64.wrap ((bits .and .u64 (x >>> (1 : Nat)) 6148914691236517205) + (bits .and .u64 x 6148914691236517205))) 3689348814741910323))) >>> (4 : Nat)) + (IntKind.u64.wrap ((bits .and .u64 ((IntKind.u64.wrap ((bits .and .u64 (x >>> (1 : Nat)) 6148914691236517205) + (bits .and .u64 x 6148914691236517205))) >>> (2 : Nat)) 3689348814741910323) + (bits .and .u64 (IntKind.u64.wrap ((bits .and .u64 (x >>> (1 : Nat)) 6148914691236517205) + (bits .and .u64 x 6148914691236517205))) 3689348814741910323))))) 1085102592571150095) + ((bits .and .u64 (IntKind.u64.wrap (((IntKind.u64.wrap ((bits .and .u64 ((IntKind.u64.wrap ((bits .and .u64 (x >>> (1 : Nat)) 6148914691236517205) + (bits .and .u64 x 6148914691236517205))) >>> (2 : Nat)) 3689348814741910323) + (bits .and .u64 (IntKind.u64.wrap ((bits .and .u64 (x >>> (1 : Nat)) 6148914691236517205) + (bits .and .u64 x 6148914691236517205))) 3689348814741910323))) >>> (4 : Nat)) + (IntKind.u64.wrap ((bits .and .u64 ((IntKind.u64.wrap ((bits .and .u64 (x >>> (1 : Nat)) 6148914691236517205) + (bits .and .u64 x 6148914691236517205))) >>> (2 : Nat)) 3689348814741910323) + (bits .and .u64 (IntKind.u64.wrap ((bits .and .u64 (x >>> (1 : Nat)) 6148914691236517205) + (bits .and .u64 x 6148914691236517205))) 3689348814741910323))))) 1085102592571150095) >>> (8 : Nat)))) + ((IntKind.u64.wrap ((bits .and .u64 (IntKind.u64.wrap (((IntKind.u64.wrap ((bits .and .u64 ((IntKind.u64.wrap ((bits .and .u64 (x >>> (1 : Nat)) 6148914691236517205) + (bits .and .u64 x 6148914691236517205))) >>> (2 : Nat)) 3689348814741910323) + (bits .and .u64 (IntKind.u64.wrap ((bits .and .u64 (x >>> (1 : Nat)) 6148914691236517205) + (bits .and .u64 x 6148914691236517205))) 3689348814741910323))) >>> (4 : Nat)) + (IntKind.u64.wrap ((bits .and .u64 ((IntKind.u64.wrap ((bits .and .u64 (x >>> (1 : Nat)) 6148914691236517205) + (bits .and .u64 x 6148914691236517205))) >>> (2 : Nat)) 3689348814741910323) + (bits .and .u64 (IntKind.u64.wrap ((bits .and .u64 (x >>> (1 : Nat)) 6148914691236517205) + (bits .and .u64 x 6148914691236517205))) 3689348814741910323))))) 1085102592571150095) + ((bits .and .u64 (IntKind.u64.wrap (((IntKind.u64.wrap ((bits .and .u64 ((IntKind.u64.wrap ((bits .and .u64 (x >>> (1 : Nat)) 6148914691236517205) + (bits .and .u64 x 6148914691236517205))) >>> (2 : Nat)) 3689348814741910323) + (bits .and .u64 (IntKind.u64.wrap ((bits .and .u64 (x >>> (1 : Nat)) 6148914691236517205) + (bits .and .u64 x 6148914691236517205))) 3689348814741910323))) >>> (4 : Nat)) + (IntKind.u64.wrap ((bits .and .u64 ((IntKind.u64.wrap ((bits .and .u64 (x >>> (1 : Nat)) 6148914691236517205) + (bits .and .u64 x 6148914691236517205))) >>> (2 : Nat)) 3689348814741910323) + (bits .and .u64 (IntKind.u64.wrap ((bits .and .u64 (x >>> (1 : Nat)) 6148914691236517205) + (bits .and .u64 x 6148914691236517205))) 3689348814741910323))))) 1085102592571150095) >>> (8 : Nat)))) >>> (16 : Nat)))) + ((IntKind.u64.wrap ((IntKind.u64.wrap ((bits .and .u64 (IntKind.u64.wrap (((IntKind.u64.wrap ((bits .and .u64 ((IntKind.u64.wrap ((bits .and .u64 (x >>> (1 : Nat)) 6148914691236517205) + (bits .and .u64 x 6148914691236517205))) >>> (2 : Nat)) 3689348814741910323) + (bits .and .u64 (IntKind.u64.wrap ((bits .and .u64 (x >>> (1 : Nat)) 6148914691236517205) + (bits .and .u64 x 6148914691236517205))) 3689348814741910323))) >>> (4 : Nat)) + (IntKind.u64.wrap ((bits .and .u64 ((IntKind.u64.wrap ((bits .and .u64 (x >>> (1 : Nat)) 6148914691236517205) + (bits .and .u64 x 6148914691236517205))) >>> (2 : Nat)) 3689348814741910323) + (bits .and .u64 (IntKind.u64.wrap ((bits .and .u64 (x >>> (1 : Nat)) 6148914691236517205) + (bits .and .u64 x 6148914691236517205))) 3689348814741910323))))) 1085102592571150095) + ((bits .and .u64 (IntKind.u64.wrap (((IntKind.u64.wrap ((bits .and .u64 ((IntKind.u64.wrap ((bits .and .u64 (x >>> (1 : Nat)) 6148914691236517205) + (bits .and .u64 x 6148914691236517205))) >>> (2 : Nat)) 3689348814741910323) + (bits .and .u64 (IntKind.u64.wrap ((bits .and .u64 (x >>> (1 : Nat)) 6148914691236517205) + (bits .and .u64 x 6148914691236517205))) 3689348814741910323))) >>> (4 : Nat)) + (IntKind.u64.wrap ((bits .and .u64 ((IntKind.u64.wrap ((bits .and .u64 (x >>> (1 : Nat)) 6148914691236517205) + (bits .and .u64 x 6148914691236517205))) >>> (2 : Nat)) 3689348814741910323) + (bits .and .u64 (IntKind.u64.wrap ((bits .and .u64 (x >>> (1 : Nat)) 6148914691236517205) + (bits .and .u64 x 6148914691236517205))) 3689348814741910323))))) 1085102592571150095) >>> (8 : Nat)))) + ((IntKind.u64.wrap ((bits .and .u64 (IntKind.u64.wrap (((IntKind.u64.wrap ((bits .and .u64 ((IntKind.u64.wrap ((bits .and .u64 (x >>> (1 : Nat)) 6148914691236517205) + (bits .and .u64 x 6148914691236517205))) >>> (2 : Nat)) 3689348814741910323) + (bits .and .u64 (IntKind.u64.wrap ((bits .and .u64 (x >>> (1 : Nat)) 6148914691236517205) + (bits .and .u64 x 6148914691236517205))) 3689348814741910323))) >>> (4 : Nat)) + (IntKind.u64.wrap ((bits .and .u64 ((IntKind.u64.wrap ((bits .and .u64 (x >>> (1 : Nat)) 6148914691236517205) + (bits .and .u64 x 6148914691236517205))) >>> (2 : Nat)) 3689348814741910323) + (bits .and .u64 (IntKind.u64.wrap ((bits .and .u64 (x >>> (1 : Nat)) 6148914691236517205) + (bits .and .u64 x 6148914691236517205))) 3689348814741910323))))) 1085102592571150095) + ((bits .and .u64 (IntKind.u64.wrap (((IntKind.u64.wrap ((bits .and .u64 ((IntKind.u64.wrap ((bits .and .u64 (x >>> (1 : Nat)) 6148914691236517205) + (bits .and .u64 x 6148914691236517205))) >>> (2 : Nat)) 3689348814741910323) + (bits .and .u64 (IntKind.u64.wrap ((bits .and .u64 (x >>> (1 : Nat)) 6148914691236517205) + (bits .and .u64 x 6148914691236517205))) 3689348814741910323))) >>> (4 : Nat)) + (IntKind.u64.wrap ((bits .and .u64 ((IntKind.u64.wrap ((bits .and .u64 (x >>> (1 : Nat)) 6148914691236517205) + (bits .and .u64 x 6148914691236517205))) >>> (2 : Nat)) 3689348814741910323) + (bits .and .u64 (IntKind.u64.wrap ((bits .and .u64 (x >>> (1 : Nat)) 6148914691236517205) + (bits .and .u64 x 6148914691236517205))) 3689348814741910323))))) 1085102592571150095) >>> (8 : Nat)))) >>> (16 : Nat)))) >>> (32 : Nat))))) 127)) rfl rfl ?_
 refine Run.done ?_
 refine Run.ret ?_
 refine ⟨.int .i64 (bits .and .i64 (IntKind.i64.wrap (IntKind.u64.wrap ((IntKind.u64.wrap ((IntKind.u64.wrap ((bits .and .u64 (IntKind.u64.wrap (((IntKind.u64.wrap ((bits .and .u64 ((IntKind.u64.wrap ((bits .and .u64 (x >>> (1 : Nat)) 6148914691236517205) + (bits .and .u64 x 6148914691236517205))) >>> (2 : Nat)) 3689348814741910323) + (bits .and .u64 (IntKind.u64.wrap ((bits .and .u64 (x >>> (1 : Nat)) 6148914691236517205) + (bits .and .u64 x 6148914691236517205))) 3689348814741910323))) >>> (4 : Nat)) + (IntKind.u64.wrap ((bits .and .u64 ((IntKind.u64.wrap ((bits .and .u64 (x >>> (1 : Nat)) 6148914691236517205) + (bits .and .u64 x 6148914691236517205))) >>> (2 : Nat)) 3689348814741910323) + (bits .and .u64 (IntKind.u64.wrap ((bits .and .u64 (x >>> (1 : Nat)) 6148914691236517205) + (bits .and .u64 x 6148914691236517205))) 3689348814741910323))))) 1085102592571150095) + ((bits .and .u64 (IntKind.u64.wrap (((IntKind.u64.wrap ((bits .and .u64 ((IntKind.u64.wrap ((bits .and .u64 (x >>> (1 : Nat)) 6148914691236517205) + (bits .and .u64 x 6148914691236517205))) >>> (2 : Nat)) 3689348814741910323) + (bits .and .u64 (IntKind.u64.wrap ((bits .and .u64 (x >>> (1 : Nat)) 6148914691236517205) + (bits .and .u64 x 6148914691236517205))) 3689348814741910323))) >>> (4 : Nat)) + (IntKind.u64.wrap ((bits .and .u64 ((IntKind.u64.wrap ((bits .and .u64 (x >>> (1 : Nat)) 6148914691236517205) + (bits .and .u64 x 6148914691236517205))) >>> (2 : Nat)) 3689348814741910323) + (bits .and .u64 (IntKind.u64.wrap ((bits .and .u64 (x >>> (1 : Nat)) 6148914691236517205) + (bits .and .u64 x 6148914691236517205))) 3689348814741910323))))) 1085102592571150095) >>> (8 : Nat)))) + ((IntKind.u64.wrap ((bits .and .u64 (IntKind.u64.wrap (((IntKind.u64.wrap ((bits .and .u64 ((IntKind.u64.wrap ((bits .and .u64 (x >>> (1 : Nat)) 6148914691236517205) + (bits .and .u64 x 6148914691236517205))) >>> (2 : Nat)) 3689348814741910323) + (bits .and .u64 (IntKind.u64.wrap ((bits .and .u64 (x >>> (1 : Nat)) 6148914691236517205) + (bits .and .u64 x 6148914691236517205))) 3689348814741910323))) >>> (4 : Nat)) + (IntKind.u64.wrap ((bits .and .u64 ((IntKind.u64.wrap ((bits .and .u64 (x >>> (1 : Nat)) 6148914691236517205) + (bits .and .u64 x 6148914691236517205))) >>> (2 : Nat)) 3689348814741910323) + (bits .and .u64 (IntKind.u64.wrap ((bits .and .u64 (x >>> (1 : Nat)) 6148914691236517205) + (bits .and .u64 x 6148914691236517205))) 3689348814741910323))))) 1085102592571150095) + ((bits .and .u64 (IntKind.u64.wrap (((IntKind.u64.wrap ((bits .and .u64 ((IntKind.u64.wrap ((bits .and .u64 (x >>> (1 : Nat)) 6148914691236517205) + (bits .and .u64 x 6148914691236517205))) >>> (2 : Nat)) 3689348814741910323) + (bits .and .u64 (IntKind.u64.wrap ((bits .and .u64 (x >>> (1 : Nat)) 6148914691236517205) + (bits .and .u64 x 6148914691236517205))) 3689348814741910323))) >>> (4 : Nat)) + (IntKind.u64.wrap ((bits .and .u64 ((IntKind.u64.wrap ((bits .and .u64 (x >>> (1 : Nat)) 6148914691236517205) + (bits .and .u64 x 6148914691236517205))) >>> (2 : Nat)) 3689348814741910323) + (bits .and .u64 (IntKind.u64.wrap ((bits .and .u64 (x >>> (1 : Nat)) 6148914691236517205) + (bits .and .u64 x 6148914691236517205))) 3689348814741910323))))) 1085102592571150095) >>> (8 : Nat)))) >>> (16 : Nat)))) + ((IntKind.u64.wrap ((IntKind.u64.wrap ((bits .and .u64 (IntKind.u64.wrap (((IntKind.u64.wrap ((bits .and .u64 ((IntKind.u64.wrap ((bits .and .u64 (x >>> (1 : Nat)) 6148914691236517205) + (bits .and .u64 x 6148914691236517205))) >>> (2 : Nat)) 3689348814741910323) + (bits .and .u64 (IntKind.u64.wrap ((bits .and .u64 (x >>> (1 : Nat)) 6148914691236517205) + (bits .and .u64 x 6148914691236517205))) 3689348814741910323))) >>> (4 : Nat)) + (IntKind.u64.wrap ((bits .and .u64 ((IntKind.u64.wrap ((bits .and .u64 (x >>> (1 : Nat)) 6148914691236517205) + (bits .and .u64 x 6148914691236517205))) >>> (2 : Nat)) 3689348814741910323) + (bits .and .u64 (IntKind.u64.wrap ((bits .and .u64 (x >>> (1 : Nat)) 6148914691236517205) + (bits .and .u64 x 6148914691236517205))) 3689348814741910323))))) 1085102592571150095) + ((bits .and .u64 (IntKind.u64.wrap (((IntKind.u64.wrap ((bits .and .u64 ((IntKind.u64.wrap ((bits .and .u64 (x >>> (1 : Nat)) 6148914691236517205) + (bits .and .u64 x 6148914691236517205))) >>> (2 : Nat)) 3689348814741910323) + (bits .and .u64 (IntKind.u64.wrap ((bits .and .u64 (x >>> (1 : Nat)) 6148914691236517205) + (bits .and .u64 x 6148914691236517205))) 3689348814741910323))) >>> (4 : Nat)) + (IntKind.u64.wrap ((bits .and .u64 ((IntKind.u64.wrap ((bits .and .u64 (x >>> (1 : Nat)) 6148914691236517205) + (bits .and .u64 x 6148914691236517205))) >>> (2 : Nat)) 3689348814741910323) + (bits .and .u64 (IntKind.u64.wrap ((bits .and .u64 (x >>> (1 : Nat)) 6148914691236517205) + (bits .and .u64 x 6148914691236517205))) 3689348814741910323))))) 1085102592571150095) >>> (8 : Nat)))) + ((IntKind.u64.wrap ((bits .and .u64 (IntKind.u64.wrap (((IntKind.u64.wrap ((bits .and .u64 ((IntKind.u64.wrap ((bits .and .u64 (x >>> (1 : Nat)) 6148914691236517205) + (bits .and .u64 x 6148914691236517205))) >>> (2 : Nat)) 3689348814741910323) + (bits .and .u64 (IntKind.u64.wrap ((bits .and .u64 (x >>> (1 : Nat)) 6148914691236517205) + (bits .and .u64 x 6148914691236517205))) 3689348814741910323))) >>> (4 : Nat)) + (IntKind.u64.wrap ((bits .and .u64 ((IntKind.u64.wrap ((bits .and .u64 (x >>> (1 : Nat)) 6148914691236517205) + (bits .and .u64 x 6148914691236517205))) >>> (2 : Nat)) 3689348814741910323) + (bits .and .u64 (IntKind.u64.wrap ((bits .and .u64 (x >>> (1 : Nat)) 6148914691236517205) + (bits .and .u64 x 6148914691236517205))) 3689348814741910323))))) 1085102592571150095) + ((bits .and .u64 (IntKind.u64.wrap (((IntKind.u64.wrap ((bits .and .u64 ((IntKind.u64.wrap ((bits .and .u64 (x >>> (1 : Nat)) 6148914691236517205) + (bits .and .u64 x 6148914691236517205))) >>> (2 : Nat)) 3689348814741910323) + (bits .and .u64 (IntKind.u64.wrap ((bits .and .u64 (x >>> (1 : Nat)) 6148914691236517205) + (bits .and .u64 x 6148914691236517205))) 3689348814741910323))) >>> (4 : Nat)) + (IntKind.u64.wrap ((bits .and .u64 ((IntKind.u64.wrap ((bits .and .u64 (x >>> (1 : Nat)) 6148914691236517205) + (bits .and .u64 x 6148914691236517205))) >>> (2 : Nat)) 3689348814741910323) + (bits .and .u64 (IntKind.u64.wrap ((bits .and .u64 (x >>> (1 : Nat)) 6148914691236517205) + (bits .and .u64 x 6148914691236517205))) 3689348814741910323))))) 1085102592571150095) >>> (8 : Nat)))) >>> (16 : Nat)))) >>> (32 : Nat))))) 127), [], Out.one rfl rfl, (Some'.weak (.nil _)), ?_⟩
 rfl

set_option maxHeartbeats 1000000 in
set_option maxRecDepth 20000 in
theorem OnesCount_spec (x : Int) (w : World) : Calls Try.prog 54 #[.int .u64 x] w (Post No w fun v _ => v = .int .i64 (popE x)) := by
 refine enter (n := 8) (args := [.int .u64 x]) Try.func54 rfl rfl (St.empty _ _) ?_
 refine Run.sr ?_
 refine Run.p (.int .i64 0) rfl rfl ?_
 refine Run.done ?_
 refine Run.seq ?_
 refine Run.cond (b := false) rfl (fun h => nomatch h) (fun _ => ?_)
 refine Run.skip ?_
 refine Run.sr ?_
 refine Run.p (.int .u64 x) rfl rfl ?_
 refine Run.q (v := .int .i64 (popE x)) rfl (OpQ.call (vs := [.int .u64 x]) (caps := []) Tcall_77 rfl rfl (fun w hs => OnesCount64_spec _ w)) ?_
 refine Run.p (.int .i64 (popE x)) rfl rfl ?_
 refine Run.done ?_
 refine Run.ret ?_
 refine ⟨.int .i64 (popE x), [], Out.one rfl rfl, (Some'.weak (.nil _)), ?_⟩
 rfl

set_option maxHeartbeats 1000000 in
set_option maxRecDepth 20000 in
theorem l1Set_spec {x : Int} {w : World} (h0 : 0 ≤ x) (hx : x < 16777216) : Calls Try.prog 60 #[.int .i64 x] w (Post No w fun v H => (setL x).length ≤ 24 ∧ H = [.own v 3 1 (setL x).length (ints (setL x))]) := by
 refine enter (n := 23) (args := [.int .i64 x]) Try.func60 rfl rfl (St.empty _ _) ?_
 refine Run.sr ?_
 refine Run.p (.slice none 0 0) rfl rfl ?_
 refine Run.dsr ?_
 refine Run.p (.slice none 0 0) rfl rfl ?_
 refine Run.done ?_
 refine Run.seq ?_
 refine Run.sr ?_
 refine Run.p (.int .i64 0) rfl rfl ?_
 refine Run.done ?_
 refine Run.block ?_
 refine Run.loop (ι := Nat × Value) [3, 4, 5, 6, 7, 8, 9, 10, 11, 12, 13, 14, 15, 16, 17, 18, 19, 20, 21] (fun ⟨k, v⟩ => [(3, v), (4, .int .i64 (((k : Nat) : Int)))]) (fun ⟨k, v⟩ => [.own v 3 1 ((filterL (fun i => bitI x i) k).length) (ints (filterL (fun i => bitI x i) k))]) (fun ⟨k, v⟩ => k ≤ 24) (fun ⟨k, v⟩ => 24 - k) (0, .slice none 0 0) ?_ ?_ ?_ ?_
 ·exact Nat.zero_le _
 ·exact ⟨rfl, rfl, trivial⟩
 ·exact ((Weak.nilOwn 3 1).trans (Some'.weak (.takeEq rfl (.nil _))))
 ·rintro ⟨k, v⟩ fr hinv
  show Run _ _ (over _ _ [(3, v), (4, .int .i64 (((k : Nat) : Int)))] fr) [.own v 3 1 ((filterL (fun i => bitI x i) k).length) (ints (filterL (fun i => bitI x i) k))]
  try dsimp only at hinv
  refine Run.seq ?_
  refine Run.sr ?_
  refine Run.p (.int .i64 x) rfl rfl ?_
  refine Run.p (.int .i64 (((k : Nat) : Int))) rfl rfl ?_
  refine Run.y (.int .u64 (((k : Nat) : Int))) rfl (OpY.convIntEq Tsome_3 Tint_52 rfl (by rw [IntKind.wrap_u64]; omega)) ?_
  refine Run.y (.int .i64 (x >>> k)) rfl (OpY.shr rfl rfl (by first | rfl | omega) (by omega)) ?_
  refine Run.p (.bool (decide ((x >>> k) > 0))) rfl rfl ?_
  refine Run.done ?_
  refine Run.cond (b := decide ((x >>> k) > 0)) rfl (fun h9 => ?_) (fun h9 => ?_)
  ·have p9 := h9; try simp only [bs] at p9
   have hk24 := shr_small h0 hx p9
   have hle := filterL_le (fun i => bitI x i) k
   refine Run.skip ?_
   refine Run.seq ?_
   refine Run.block ?_
   refine Run.sr ?_
   refine Run.p (.int .i64 x) rfl rfl ?_
   refine Run.p (.int .i64 (((k : Nat) : Int))) rfl rfl ?_
   refine Run.y (.int .u64 (((k : Nat) : Int))) rfl (OpY.convIntEq Tsome_3 Tint_52 rfl (by rw [IntKind.wrap_u64]; omega)) ?_
   refine Run.y (.int .i64 (x >>> k)) rfl (OpY.shr rfl rfl (by first | rfl | omega) (by omega)) ?_
   refine Run.y (.int .i64 ((x >>> k) % 2)) rfl (OpY.and1 rfl rfl) ?_
   refine Run.p (.bool (((x >>> k) % 2) == 1)) rfl rfl ?_
   refine Run.done ?_
   refine Run.cond (b := ((x >>> k) % 2) == 1) rfl (fun h17 => ?_) (fun h17 => ?_)
   ·have p17 := h17; try simp only [bs] at p17
    refine Run.region ?_
    refine Run.p (v) rfl rfl ?_
    refine Run.p (.int .i64 (((k : Nat) : Int))) rfl rfl ?_
    refine Run.step rfl (OpStep.buildSlice (us := [.int .i64 (((k : Nat) : Int))]) Tsl_24 (by decide) (by decide) ⟨rfl, [.int .i64 (((k : Nat) : Int))], _, rfl, rfl, rfl, rfl⟩ rfl fun b1 => ?_)
    refine Run.step rfl (OpStep.append (H1 := [.own (.slice (some ⟨b1, 0, none⟩) 1 1) 3 1 1 ([.int .i64 (((k : Nat) : Int))])]) (H2 := []) (v := v) (u := .slice (some ⟨b1, 0, none⟩) 1 1) (n := (filterL (fun i => bitI x i) k).length) (m := 1) (xs := ints (filterL (fun i => bitI x i) k)) (ys := [.int .i64 (((k : Nat) : Int))]) Tsl_24 (by decide) rfl rfl rfl rfl (fun w hs => hs.slOwn (.head _)) (by simp [Value.oneCell']) (by omega) (by simp only [maxLen]; omega) fun av1 hnav1 => ?_)
    refine Run.weak (H' := [.own (.slice (some ⟨b1, 0, none⟩) 1 1) 3 1 1 ([.int .i64 (((k : Nat) : Int))]), .own av1 3 1 ((filterL (fun i => bitI x i) k ++ [(k : Int)]).length) (ints (filterL (fun i => bitI x i) k ++ [(k : Int)]))]) (Some'.weak (.take (.takeEq (by simp [ints]) (.nil _)))) ?_ ⟨_, _, rfl, fun _ => nofun, fun _ => nofun⟩
    refine Run.p (av1) rfl rfl ?_
    refine Run.done ?_
    refine Run.blockEnd ?_
    refine Run.region ?_
    refine Run.p (.int .i64 (((k : Nat) : Int))) rfl rfl ?_
    refine Run.y (.int .i64 ((((k : Nat) : Int)) + 1)) rfl (OpY.add rfl rfl rfl (by omega) (by omega)) ?_
    refine Run.p (.int .i64 ((((k : Nat) : Int)) + 1)) rfl rfl ?_
    refine Run.done ?_
    have hX : filterL (fun i => bitI x i) (k + 1) = filterL (fun i => bitI x i) k ++ [(k : Int)] := by rw [filterL, if_pos (bitI_true p17)]
    refine Run.goal ⟨(by repeat (first | exact Same.refl _ _ | refine Same.put rfl ?_ | refine Same.over rfl rfl ?_)), (k + 1, av1), ?_, ?_, ?_, ?_⟩
    ·show k + 1 ≤ 24; omega
    ·show 24 - (k + 1) < 24 - k; omega
    ·exact ⟨(by first | rfl | (congr 1; omega) | simp), (by first | rfl | (congr 1; omega) | simp), trivial⟩
    ·exact (Some'.weak (.skip (.takeEq (by first | rw [hX] | rfl) (.nil _))))
   ·have p17 := h17; try simp only [bs] at p17
    refine Run.skip ?_
    refine Run.blockEnd ?_
    refine Run.region ?_
    refine Run.p (.int .i64 (((k : Nat) : Int))) rfl rfl ?_
    refine Run.y (.int .i64 ((((k : Nat) : Int)) + 1)) rfl (OpY.add rfl rfl rfl (by omega) (by omega)) ?_
    refine Run.p (.int .i64 ((((k : Nat) : Int)) + 1)) rfl rfl ?_
    refine Run.done ?_
    have hX : filterL (fun i => bitI x i) (k + 1) = filterL (fun i => bitI x i) k := by rw [filterL, if_neg (by rw [bitI_ne1 p17]; decide), List.append_nil]
    refine Run.goal ⟨(by repeat (first | exact Same.refl _ _ | refine Same.put rfl ?_ | refine Same.over rfl rfl ?_)), (k + 1, v), ?_, ?_, ?_, ?_⟩
    ·show k + 1 ≤ 24; omega
    ·show 24 - (k + 1) < 24 - k; omega
    ·exact ⟨(by first | rfl | (congr 1; omega) | simp), (by first | rfl | (congr 1; omega) | simp), trivial⟩
    ·exact (Some'.weak (.takeEq (by first | rw [hX] | rfl) (.nil _)))
  ·have p9 := h9; try simp only [bs] at p9
   have hz : x >>> k = 0 := by have := shr_neg h0 k; omega
   have hS : setL x = filterL (fun i => bitI x i) k := by rw [setL, show (24 : Nat) = k + (24 - k) by omega]; exact set_rest h0 hz
   have hle := filterL_le (fun i => bitI x i) 24
   refine Run.exit rfl ?_
   refine Run.sr ?_
   refine Run.p (v) rfl rfl ?_
   refine Run.p (v) rfl rfl ?_
   refine Run.done ?_
   refine Run.ret ?_
   refine ⟨v, [.own v 3 1 ((setL x).length) (ints (setL x))], Out.one rfl rfl, (Some'.weak (.takeEq (by rw [hS]) (.nil _))), ?_⟩
   exact ⟨by simpa [setL] using hle, rfl⟩

end Go.Proofs.Ytoiaibgcjfgbcaa
/- Walks: the neighbours of a node. -/
set_option linter.unusedSimpArgs false
set_option linter.unusedVariables false
namespace Go.Proofs.Ytoiaibgcjfgbcaa
open Go Go.RowKit
end Go.Proofs.Ytoiaibgcjfgbcaa
