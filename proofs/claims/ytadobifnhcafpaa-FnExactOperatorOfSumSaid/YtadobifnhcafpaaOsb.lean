/- Walks: the operator of a path sum. -/
import Derived.Test.YtadobifnhcafpaaOsa
import Derived.Test.YtadobifnhcafpaaProg
set_option linter.unusedSimpArgs false
set_option linter.unusedVariables false
namespace Go.Proofs.Ytadobifnhcafpaa
open Go Go.RowKit
namespace OsbT
theorem Tagg_29 : aggOf Try.prog 29 = some 3 := by kernel_rfl
theorem Tagg_61 : aggOf Try.prog 61 = some 5 := by kernel_rfl
theorem Tagg_70 : aggOf Try.prog 70 = some 8 := by kernel_rfl
theorem Tcall_29 : callable Try.prog 29 = true := by kernel_rfl
theorem Tcall_30 : callable Try.prog 30 = true := by kernel_rfl
theorem Tcall_31 : callable Try.prog 31 = true := by kernel_rfl
theorem Tcall_47 : callable Try.prog 47 = true := by kernel_rfl
theorem Tcall_53 : callable Try.prog 53 = true := by kernel_rfl
theorem Tfo_29_2 : fieldOff Try.prog 29 2 = some 2 := by kernel_rfl
theorem Tfo_35_2 : fieldOff Try.prog 35 2 = some 2 := by kernel_rfl
theorem Tone_27 : oneOf Try.prog 27 = true := by kernel_rfl
theorem Tone_3 : oneOf Try.prog 3 = true := by kernel_rfl
theorem Tone_67 : oneOf Try.prog 67 = true := by kernel_rfl
theorem Tsize_27 : (Try.prog.info? 27).map (·.size) = some 1 := by kernel_rfl
theorem Tsize_29 : (Try.prog.info? 29).map (·.size) = some 3 := by kernel_rfl
theorem Tsize_61 : (Try.prog.info? 61).map (·.size) = some 5 := by kernel_rfl
theorem Tsl_27 : sliceOf Try.prog 27 = some (61, 5, 40, [.int .i64 0, .int .i64 0, .int .i64 0, .int .i64 0, .int .i64 0]) := by kernel_rfl
theorem Tsl_67 : sliceOf Try.prog 67 = some (70, 8, 64, [.int .i64 0, .int .i64 0, .int .i64 0, .int .i64 0, .int .i64 0, .int .i64 0, .int .i64 0, .int .i64 0]) := by kernel_rfl
theorem Tzero_29 : zeroOf Try.prog 29 = some [.int .i64 0, .int .i64 0, .slice none 0 0] := by kernel_rfl
theorem Tzero_61 : zeroOf Try.prog 61 = some [.int .i64 0, .int .i64 0, .int .i64 0, .int .i64 0, .int .i64 0] := by kernel_rfl
end OsbT
open OsbT

theorem repK (n k : Nat) : (List.replicate n (List.replicate k (Value.int .i64 0))).flatten = ints (List.replicate (n * k) 0) := by
  rw [List.flatten_replicate_replicate, ints, List.map_replicate]
theorem ix_rep {n j : Nat} : ix (List.replicate n 0) j = 0 := by
  simp only [ix, List.getD, List.getElem?_replicate]; split <;> rfl
/-- How often each power of w occurs in each cell. -/
def cnS (ci pi : Nat → Nat) (n : Nat) : Nat → List Int
  | 0 => List.replicate (n * 8) 0
  | a + 1 => (cnS ci pi n a).set (ci a * 8 + pi a) (ix (cnS ci pi n a) (ci a * 8 + pi a) + 1)
@[simp] theorem cnS_length (ci pi : Nat → Nat) (n : Nat) : ∀ a, (cnS ci pi n a).length = n * 8
  | 0 => by simp [cnS]
  | a + 1 => by rw [cnS, List.length_set, cnS_length]
def r4 (l : List Int) (c : Nat) : R4 := ⟨ix l (c * 4), ix l (c * 4 + 1), ix l (c * 4 + 2), ix l (c * 4 + 3)⟩
def set4 (l : List Int) (o : Nat) (x : R4) : List Int := (((l.set o x.a).set (o + 1) x.b).set (o + 2) x.c).set (o + 3) x.d
@[simp] theorem set4_length (l : List Int) (o : Nat) (x : R4) : (set4 l o x).length = l.length := by simp [set4]
/-- The sums of the cells. -/
def smS (ci pi : Nat → Nat) (n : Nat) : Nat → List Int
  | 0 => List.replicate (n * 4) 0
  | a + 1 => set4 (smS ci pi n a) (ci a * 4) (adR (r4 (smS ci pi n a) (ci a)) (twR (pi a)))
@[simp] theorem smS_length (ci pi : Nat → Nat) (n : Nat) : ∀ a, (smS ci pi n a).length = n * 4
  | 0 => by simp [smS]
  | a + 1 => by rw [smS, set4_length, smS_length]
def cr (l : List Int) (c : Nat) : R4 := ⟨ix l (c * 8) - ix l (c * 8 + 4), ix l (c * 8 + 1) - ix l (c * 8 + 5), ix l (c * 8 + 2) - ix l (c * 8 + 6), ix l (c * 8 + 3) - ix l (c * 8 + 7)⟩
theorem r4_set {l : List Int} {n c c' : Nat} {x : R4} (hl : l.length = n * 4) (hc : c < n) (hc' : c' < n) : r4 (set4 l (c * 4) x) c' = if c = c' then x else r4 l c' := by
  have h : ∀ k, k < 4 → ix (set4 l (c * 4) x) (c' * 4 + k) = if c = c' then (match k with | 0 => x.a | 1 => x.b | 2 => x.c | _ => x.d) else ix l (c' * 4 + k) := by
    intro k hk
    unfold set4
    rw [ix_set (by simp; omega), ix_set (by simp; omega), ix_set (by simp; omega), ix_set (by omega)]
    rcases (by omega : k = 0 ∨ k = 1 ∨ k = 2 ∨ k = 3) with rfl | rfl | rfl | rfl
    all_goals
      simp only []
      repeat' split
      all_goals first | rfl | (exfalso; omega)
  have h0 := h 0 (by omega); have h1 := h 1 (by omega); have h2 := h 2 (by omega); have h3 := h 3 (by omega)
  simp only [Nat.add_zero] at h0
  unfold r4
  rw [h0, h1, h2, h3]
  split <;> rfl
theorem cr_set {l : List Int} {n c c' p : Nat} (hl : l.length = n * 8) (hc : c < n) (hc' : c' < n) (hp : p < 8) : cr (l.set (c * 8 + p) (ix l (c * 8 + p) + 1)) c' = if c = c' then adR (cr l c') (twR p) else cr l c' := by
  have h : ∀ k, k < 8 → ix (l.set (c * 8 + p) (ix l (c * 8 + p) + 1)) (c' * 8 + k) = if c = c' ∧ p = k then ix l (c' * 8 + k) + 1 else ix l (c' * 8 + k) := by
    intro k hk
    rw [ix_set (by omega)]
    by_cases e : c = c' ∧ p = k
    · obtain ⟨rfl, rfl⟩ := e; simp
    · rw [if_neg e, if_neg (by omega)]
  have h0 := h 0 (by omega); have h1 := h 1 (by omega); have h2 := h 2 (by omega); have h3 := h 3 (by omega); have h4 := h 4 (by omega); have h5 := h 5 (by omega); have h6 := h 6 (by omega); have h7 := h 7 (by omega)
  simp only [Nat.add_zero] at h0
  unfold cr
  rw [h0, h1, h2, h3, h4, h5, h6, h7]
  by_cases e : c = c'
  · subst e
    simp only [true_and, if_pos]
    rcases (by omega : p = 0 ∨ p = 1 ∨ p = 2 ∨ p = 3 ∨ p = 4 ∨ p = 5 ∨ p = 6 ∨ p = 7) with rfl | rfl | rfl | rfl | rfl | rfl | rfl | rfl <;> simp [adR, twR, cr] <;> omega
  · simp only [e, false_and, if_false]
theorem sm_cn {ci pi : Nat → Nat} {n A : Nat} (h : ∀ a, a < A → ci a < n ∧ pi a < 8) : ∀ a, a ≤ A → ∀ c, c < n → r4 (smS ci pi n a) c = cr (cnS ci pi n a) c
  | 0, _, c, hc => by simp [smS, cnS, r4, cr, ix_rep]
  | a + 1, ha, c, hc => by
    have ih := sm_cn h a (by omega)
    have hh := h a (by omega)
    rw [smS, cnS, r4_set (smS_length ..) hh.1 hc, cr_set (cnS_length ..) hh.1 hc hh.2, ih _ hh.1, ih c hc]
    split
    · rename_i e; rw [e]
    · rfl
theorem cn_range {ci pi : Nat → Nat} {n : Nat} : ∀ a j, 0 ≤ ix (cnS ci pi n a) j ∧ ix (cnS ci pi n a) j ≤ a
  | 0, j => by rw [cnS, ix_rep]; omega
  | a + 1, j => by
    have h1 := cn_range (ci := ci) (pi := pi) (n := n) a j
    have h2 := cn_range (ci := ci) (pi := pi) (n := n) a (ci a * 8 + pi a)
    rw [cnS]
    by_cases hj : j < (cnS ci pi n a).length
    · rw [ix_set hj]; split <;> omega
    · rw [show ix ((cnS ci pi n a).set (ci a * 8 + pi a) (ix (cnS ci pi n a) (ci a * 8 + pi a) + 1)) j = 0 by simp only [ix, List.getD]; rw [List.getElem?_eq_none (by rw [List.length_set]; omega)]; rfl]; omega
theorem cr_lim {ci pi : Nat → Nat} {n a : Nat} (ha : a ≤ 1024) (c : Nat) : gdR (cr (cnS ci pi n a) c) = true := by
  have h := fun j => cn_range (ci := ci) (pi := pi) (n := n) a j
  have h0 := h (c * 8); have h1 := h (c * 8 + 1); have h2 := h (c * 8 + 2); have h3 := h (c * 8 + 3); have h4 := h (c * 8 + 4); have h5 := h (c * 8 + 5); have h6 := h (c * 8 + 6); have h7 := h (c * 8 + 7)
  exact gdR_iff.2 (by simp only [cr]; omega)
def mxB (cs : List Int) (X : Int) (n : Nat) : Bool := allI (fun c => scB (cr cs c) X) n
def mxL (cs : List Int) (X : Int) : Nat → List Int
  | 0 => []
  | c + 1 => mxL cs X c ++ scl (cr cs c) X
@[simp] theorem mxL_length (cs : List Int) (X : Int) : ∀ n, (mxL cs X n).length = n * 5
  | 0 => rfl
  | n + 1 => by rw [mxL, List.length_append, mxL_length]; simp [scl]; omega
theorem mxB_succ (cs : List Int) (X : Int) (n : Nat) : mxB cs X (n + 1) = (mxB cs X n && scB (cr cs n) X) := by
  simp only [mxB, allI, anyI, Bool.not_or, Bool.not_not]
theorem mxB_no {cs : List Int} {X : Int} {n c : Nat} (hc : c < n) (h : scB (cr cs c) X = false) : mxB cs X n = false := by
  cases hb : mxB cs X n with
  | false => rfl
  | true => have := allI_iff.1 hb c hc; rw [h] at this; cases this
def ocC (I : Int) (os : List Int) (no D : Nat) (a : Nat) : Nat := (stS os a no * (D : Int) + coS a I.toNat).toNat
def ocP (ts : List Int) (F : Int) (nt : Nat) (a : Nat) : Nat := (pwS ts F a nt % 8).toNat
theorem oc_spec {I V R F : Int} {ts : List Int} {nt : Nat} {os : List Int} {no D : Nat} (h : PsF I V R F ts nt os no) (hD : D = 2 ^ I.toNat) (a : Nat) :
    (ocC I os no D a < D * D ∧ stS os a no * (D : Int) + coS a I.toNat = (ocC I os no D a : Nat)) ∧ ocP ts F nt a < 8 ∧ pwS ts F a nt % 8 = (ocP ts F nt a : Nat) := by
  have h1 := stS_range h a no (Nat.le_refl _)
  have h2 := coS_range a I.toNat
  have h3 := pwS_range h a nt (Nat.le_refl _)
  have hno : no = I.toNat := by have := h.ho; omega
  rw [hno, ← hD] at h1
  rw [← hD] at h2
  rw [← hno] at h1
  obtain ⟨s, hs⟩ : ∃ s : Nat, stS os a no = s := ⟨(stS os a no).toNat, by omega⟩
  obtain ⟨c, hc⟩ : ∃ c : Nat, coS a I.toNat = c := ⟨(coS a I.toNat).toNat, by omega⟩
  rw [hs] at h1
  rw [hc] at h2
  have hsD : (s + 1) * D ≤ D * D := Nat.mul_le_mul_right D (by omega)
  rw [Nat.add_mul] at hsD
  have e : stS os a no * (D : Int) + coS a I.toNat = ((s * D + c : Nat) : Int) := by rw [hs, hc]; push_cast; rfl
  unfold ocC ocP
  rw [e, Int.toNat_natCast]
  refine ⟨⟨by omega, rfl⟩, by omega, by omega⟩
theorem dim_cases {I : Int} {D : Nat} (h : 1 ≤ I ∧ I ≤ 5) (hD : D = 2 ^ I.toNat) : (2 ≤ D ∧ D ≤ 32) ∧ D * D ≤ 1024 ∧ bits .and .i64 (D : Int) ((D : Int) - 1) = 0 := by
  rcases (by omega : I = 1 ∨ I = 2 ∨ I = 3 ∨ I = 4 ∨ I = 5) with rfl | rfl | rfl | rfl | rfl <;> subst hD <;> decide
theorem Weak.ifNil {bb : Bool} {v : Value} {e : TypeId} {size n : Nat} {xs : List Value} {H : List Res} : Weak (.own v e size n xs :: H) (.own (if bb = true then .slice none 0 0 else v) e size (if bb = true then 0 else n) (if bb = true then [] else xs) :: H) := by
  cases bb
  · exact Weak.refl _
  · exact (Weak.drop (Weak.refl H)).trans (Weak.nilOwn e size)

set_option maxHeartbeats 1000000 in
set_option maxRecDepth 20000 in
theorem opclo_spec {qc qd qp D : Nat} {I V X F : Int} {vc vt vo : Value} {cs : List Int} {w : World} {i j ci : Nat} (hi : i < D) (hj : j < D) (hci : ci = i * D + j) (hb5 : Sl w (.slice (some ⟨qc, 0, none⟩) 1 1) 1 1 [vc]) (hb4 : Sl w (.slice (some ⟨qd, 0, none⟩) 1 1) 1 1 [.int .i64 (D : Nat)]) (hb1 : Sl w (.slice (some ⟨qp, 0, none⟩) 1 1) 6 1 [.int .i64 I, .int .i64 V, .int .i64 X, .int .i64 F, vt, vo]) (hc : Sl w vc 8 (D * D) (ints cs)) (hX : -60 ≤ X ∧ X ≤ 60) (hD : (2 ≤ D ∧ D ≤ 32) ∧ D * D ≤ 1024 ∧ bits .and .i64 (D : Int) ((D : Int) - 1) = 0) (hcs : ∀ j, 0 ≤ ix cs j ∧ ix cs j ≤ 1000000) (hgd : ∀ c, gdR (cr cs c) = true) : Calls Try.prog 29 #[.int .i64 (i : Nat), .int .i64 (j : Nat), .pointer (some ⟨qc, 0, none⟩), .pointer (some ⟨qd, 0, none⟩), .pointer (some ⟨qp, 0, none⟩)] w (Post No w fun v H => ∃ (y : R4) (e : Int), (scB (cr cs ci) X = true → y = (scV (cr cs ci) X).1 ∧ e = (((scV (cr cs ci) X).2 : Nat) : Int)) ∧ v = .tuple #[.agg #[.int .i64 (y.a), .int .i64 (y.b), .int .i64 (y.c), .int .i64 (y.d), .int .i64 e], .bool (scB (cr cs ci) X)] ∧ H = []) := by
  have hcl := hc.len
  obtain ⟨Ac, cc, rfl, _, _⟩ := hc.form0
  have hciD : ci < D * D := by
    have h1 : (i + 1) * D ≤ D * D := Nat.mul_le_mul_right D hi
    rw [Nat.add_mul] at h1; omega
  have hmul : ((i : Nat) : Int) * ((D : Nat) : Int) = ((i * D : Nat) : Int) := by push_cast; rfl
  obtain ⟨iD, hiD⟩ : ∃ q : Nat, i * D = q := ⟨_, rfl⟩
  rw [hiD] at hci hmul
  refine enter (n := 23) (args := [.int .i64 (((i : Nat) : Int)), .int .i64 (((j : Nat) : Int)), .pointer (some ⟨qc, 0, none⟩), .pointer (some ⟨qd, 0, none⟩), .pointer (some ⟨qp, 0, none⟩)]) Try.func29 rfl rfl (St.empty _ _) ?_
  refine Run.seq ?_
  refine Run.region ?_
  refine Run.step rfl (OpStep.alloc (zs := [.int .i64 0, .int .i64 0, .int .i64 0, .int .i64 0, .int .i64 0]) Tzero_61 fun b1 => ?_)
  refine Run.q (v := .bool false) rfl (OpQ.y (OpY.pure rfl)) ?_
  refine Run.done ?_
  refine Run.seq ?_
  obtain ⟨bc, oc, rfl⟩ := hc.opn (by omega)
  refine Run.heldB (base := []) (by kernel_rfl) ?_
  refine DW.take (i := 0) (v := .slice (some ⟨bc, oc, none⟩) (D * D) cc) rfl (by kernel_rfl) (by kernel_rfl) (by kernel_rfl) (fun _ _ _ h => h) (Some'.weak (.nil _)) rfl (OpY.load1 Tone_67 rfl (Cells.env (k := 0) hb5 rfl (by decide) ⟨rfl, trivial⟩)) ?_
  refine DW.take (i := 1) (v := .int .i64 (((i : Nat) : Int))) rfl (by kernel_rfl) (by kernel_rfl) (by kernel_rfl) (fun _ _ _ h => h) (Some'.weak (.nil _)) rfl (OpY.pure rfl) ?_
  refine DW.take (i := 2) (v := .int .i64 (((D : Nat) : Int))) rfl (by kernel_rfl) (by kernel_rfl) (by kernel_rfl) (fun _ _ _ h => h) (Some'.weak (.nil _)) rfl (OpY.load1 Tone_3 rfl (Cells.env (k := 0) hb4 rfl (by decide) ⟨rfl, trivial⟩)) ?_
  refine DW.take (i := 3) (v := .int .i64 (((iD : Nat) : Int))) rfl (by kernel_rfl) (by kernel_rfl) (by kernel_rfl) (fun _ _ _ h => h) (Some'.weak (.nil _)) rfl (OpY.mul rfl rfl hmul (by omega) (by omega)) ?_
  refine DW.take (i := 4) (v := .int .i64 (((j : Nat) : Int))) rfl (by kernel_rfl) (by kernel_rfl) (by kernel_rfl) (fun _ _ _ h => h) (Some'.weak (.nil _)) rfl (OpY.pure rfl) ?_
  refine DW.take (i := 5) (v := .int .i64 (((ci : Nat) : Int))) rfl (by kernel_rfl) (by kernel_rfl) (by kernel_rfl) (fun _ _ _ h => h) (Some'.weak (.nil _)) rfl (OpY.add rfl rfl (by omega) (by omega) (by omega)) ?_
  refine DW.take (i := 6) (v := .pointer (some ⟨bc, oc + ci * 8, none⟩)) rfl (by kernel_rfl) (by kernel_rfl) (by kernel_rfl) (fun _ _ _ h => h) (Some'.weak (.nil _)) rfl (OpY.index (kk := ci) Tsl_67 rfl rfl (by omega) (by omega) (by first | rfl | omega)) ?_
  refine DW.take (i := 7) (v := .agg #[.int .i64 (ix cs (ci * 8)), .int .i64 (ix cs (ci * 8 + 1)), .int .i64 (ix cs (ci * 8 + 2)), .int .i64 (ix cs (ci * 8 + 3)), .int .i64 (ix cs (ci * 8 + 4)), .int .i64 (ix cs (ci * 8 + 5)), .int .i64 (ix cs (ci * 8 + 6)), .int .i64 (ix cs (ci * 8 + 7))]) rfl (by kernel_rfl) (by kernel_rfl) (by kernel_rfl) (fun _ _ _ h => h) (Some'.weak (.nil _)) rfl (OpY.loadN (cs := [.int .i64 (ix cs (ci * 8)), .int .i64 (ix cs (ci * 8 + 1)), .int .i64 (ix cs (ci * 8 + 2)), .int .i64 (ix cs (ci * 8 + 3)), .int .i64 (ix cs (ci * 8 + 4)), .int .i64 (ix cs (ci * 8 + 5)), .int .i64 (ix cs (ci * 8 + 6)), .int .i64 (ix cs (ci * 8 + 7))]) Tagg_70 rfl (Cells.arg (k := ci * 8) hc rfl (by omega) (pre8 (by omega)))) ?_
  refine DW.take (i := 9) (v := .pointer (some ⟨qp, 2, none⟩)) rfl (by kernel_rfl) (by kernel_rfl) (by kernel_rfl) (fun _ _ _ h => h) (Some'.weak (.nil _)) rfl (OpY.fieldAddr Tfo_35_2 rfl rfl) ?_
  refine DW.take (i := 10) (v := .int .i64 X) rfl (by kernel_rfl) (by kernel_rfl) (by kernel_rfl) (fun _ _ _ h => h) (Some'.weak (.nil _)) rfl (OpY.load1 Tone_3 rfl (Cells.env (k := 2) hb1 rfl (by decide) ⟨rfl, trivial⟩)) ?_
  refine DW.step (i := 8) (by kernel_rfl) rfl rfl (OpStep.q (v := .agg #[.int .i64 (ix cs (ci * 8) - ix cs (ci * 8 + 4)), .int .i64 (ix cs (ci * 8 + 1) - ix cs (ci * 8 + 5)), .int .i64 (ix cs (ci * 8 + 2) - ix cs (ci * 8 + 6)), .int .i64 (ix cs (ci * 8 + 3) - ix cs (ci * 8 + 7))]) (OpQ.call (vs := [.agg #[.int .i64 (ix cs (ci * 8)), .int .i64 (ix cs (ci * 8 + 1)), .int .i64 (ix cs (ci * 8 + 2)), .int .i64 (ix cs (ci * 8 + 3)), .int .i64 (ix cs (ci * 8 + 4)), .int .i64 (ix cs (ci * 8 + 5)), .int .i64 (ix cs (ci * 8 + 6)), .int .i64 (ix cs (ci * 8 + 7))]]) (caps := []) Tcall_31 rfl rfl (fun w hs => summed_spec ⟨hcs _, hcs _, hcs _, hcs _, hcs _, hcs _, hcs _, hcs _⟩)) ?_)
  refine ⟨(Some'.weak (.nil _)), ?_⟩
  refine DW.step (i := 11) (by kernel_rfl) rfl rfl (OpStep.call (vs := [.agg #[.int .i64 (ix cs (ci * 8) - ix cs (ci * 8 + 4)), .int .i64 (ix cs (ci * 8 + 1) - ix cs (ci * 8 + 5)), .int .i64 (ix cs (ci * 8 + 2) - ix cs (ci * 8 + 6)), .int .i64 (ix cs (ci * 8 + 3) - ix cs (ci * 8 + 7))], .int .i64 X]) (caps := []) Tcall_30 rfl rfl (fun w hs => scaled_spec (x := cr cs ci) (X := X) hX (hgd ci)) ?_)
  rintro _ _ ⟨y, e, hye, rfl, rfl⟩
  refine ⟨(Some'.weak (.nil _)), ?_⟩
  refine DW.take (i := 12) (v := .agg #[.int .i64 (y.a), .int .i64 (y.b), .int .i64 (y.c), .int .i64 (y.d), .int .i64 e]) rfl (by kernel_rfl) (by kernel_rfl) (by kernel_rfl) (fun _ _ _ h => h) (Some'.weak (.nil _)) rfl (OpY.pure rfl) ?_
  refine DW.take (i := 13) (v := .bool (scB (cr cs ci) X)) rfl (by kernel_rfl) (by kernel_rfl) (by kernel_rfl) (fun _ _ _ h => h) (Some'.weak (.nil _)) rfl (OpY.pure rfl) ?_
  refine DW.step (i := 14) (by kernel_rfl) rfl rfl (OpStep.storeAll (us := [.int .i64 (y.a), .int .i64 (y.b), .int .i64 (y.c), .int .i64 (y.d), .int .i64 e]) Tsize_61 rfl rfl rfl (.here _) rfl ?_)
  refine ⟨(Some'.weak (.nil _)), ?_⟩
  refine DW.take (i := 15) (v := .bool (scB (cr cs ci) X)) rfl (by kernel_rfl) (by kernel_rfl) (by kernel_rfl) (fun _ _ _ h => h) (Some'.weak (.nil _)) rfl (OpY.pure rfl) ?_
  refine DW.done (by kernel_rfl) ?_
  refine Run.ret ?_
  refine ⟨.tuple #[.agg #[.int .i64 (y.a), .int .i64 (y.b), .int .i64 (y.c), .int .i64 (y.d), .int .i64 e], .bool (scB (cr cs ci) X)], [], Out.cell2 (cs := [.int .i64 (y.a), .int .i64 (y.b), .int .i64 (y.c), .int .i64 (y.d), .int .i64 e]) rfl Tagg_61 rfl (Cells.blk (.head _) ⟨rfl, rfl, rfl, rfl, rfl, trivial⟩) rfl, (Some'.weak (.nil _)), ?_⟩
  exact ⟨y, e, hye, rfl, rfl⟩


def opD (b : Bool) (D : Nat) : Int := if b then (D : Int) else 0
def opN (b : Bool) (D : Nat) : Nat := if b then D * D else 0
def opL (b : Bool) (cs : List Int) (X : Int) (D : Nat) : List Int := if b then mxL cs X (D * D) else []
theorem opL_length (b : Bool) (cs : List Int) (X : Int) (D : Nat) : (opL b cs X D).length = opN b D * 5 := by
  cases b <;> simp [opL, opN]

set_option maxHeartbeats 1000000 in
set_option maxRecDepth 20000 in
theorem isDim_spec {D : Nat} {w : World} (hD : (2 ≤ D ∧ D ≤ 32) ∧ D * D ≤ 1024 ∧ bits .and .i64 (D : Int) ((D : Int) - 1) = 0) : Calls Try.prog 53 #[.int .i64 (D : Nat)] w (Post No w fun v _ => v = .bool true) := by
  have hw : within ((D : Nat) : Int) 1 32 = true := within_iff.2 (by omega)
  refine enter (n := 12) (args := [.int .i64 (((D : Nat) : Int))]) Try.func53 rfl rfl (St.empty _ _) ?_
  refine Run.seq ?_
  refine Run.region ?_
  refine Run.q (v := .bool false) rfl (OpQ.y (OpY.pure rfl)) ?_
  refine Run.done ?_
  refine Run.seq ?_
  refine Run.region ?_
  refine Run.q (v := .int .i64 (((D : Nat) : Int))) rfl (OpQ.y (OpY.pure rfl)) ?_
  refine Run.q (v := .bool true) rfl (OpQ.call (vs := [.int .i64 (((D : Nat) : Int)), .int .i64 1, .int .i64 32]) (caps := []) Tcall_47 rfl rfl (fun w hs => (by have h := within_spec ((D : Nat) : Int) 1 32 w; rw [hw] at h; exact h))) ?_
  refine Run.q (v := .bool true) rfl (OpQ.y (OpY.pure rfl)) ?_
  refine Run.q (v := .int .i64 (((D : Nat) : Int))) rfl (OpQ.y (OpY.pure rfl)) ?_
  refine Run.q (v := .int .i64 (((D : Nat) : Int))) rfl (OpQ.y (OpY.pure rfl)) ?_
  refine Run.q (v := .int .i64 (((D : Nat) : Int) - 1)) rfl (OpQ.y (OpY.sub rfl rfl (by omega) (by omega) (by omega))) ?_
  refine Run.q (v := .int .i64 0) rfl (OpQ.y (OpY.andEq rfl rfl hD.2.2)) ?_
  refine Run.q (v := .bool true) rfl (OpQ.y (OpY.pure rfl)) ?_
  refine Run.q (v := .bool true) rfl (OpQ.y (OpY.pure rfl)) ?_
  refine Run.q (v := .bool true) rfl (OpQ.y (OpY.pure rfl)) ?_
  refine Run.done ?_
  refine Run.ret ?_
  refine ⟨.bool true, [], Out.one rfl rfl, (Some'.weak (.nil _)), ?_⟩
  rfl

set_option maxHeartbeats 1000000 in
set_option maxRecDepth 20000 in
theorem matrixOf_spec {qc qd qp D : Nat} {I V X F : Int} {vc vt vo : Value} {cs : List Int} {w : World} (hb5 : Sl w (.slice (some ⟨qc, 0, none⟩) 1 1) 1 1 [vc]) (hb4 : Sl w (.slice (some ⟨qd, 0, none⟩) 1 1) 1 1 [.int .i64 (D : Nat)]) (hb1 : Sl w (.slice (some ⟨qp, 0, none⟩) 1 1) 6 1 [.int .i64 I, .int .i64 V, .int .i64 X, .int .i64 F, vt, vo]) (hc : Sl w vc 8 (D * D) (ints cs)) (hX : -60 ≤ X ∧ X ≤ 60) (hD : (2 ≤ D ∧ D ≤ 32) ∧ D * D ≤ 1024 ∧ bits .and .i64 (D : Int) ((D : Int) - 1) = 0) (hcs : ∀ j, 0 ≤ ix cs j ∧ ix cs j ≤ 1000000) (hgd : ∀ c, gdR (cr cs c) = true) : Calls Try.prog 28 #[.int .i64 (D : Nat), .int .i64 (D : Nat), .func (.func 29) #[] #[.pointer (some ⟨qc, 0, none⟩), .pointer (some ⟨qd, 0, none⟩), .pointer (some ⟨qp, 0, none⟩)]] w (Post No w fun v H => ∃ u, v = .tuple #[.agg #[.int .i64 (opD (mxB cs X (D * D)) D), .int .i64 (opD (mxB cs X (D * D)) D), u], .bool (mxB cs X (D * D))] ∧ H = [.own u 61 5 (opN (mxB cs X (D * D)) D) (ints (opL (mxB cs X (D * D)) cs X D))]) := by
  refine enter (n := 52) (args := [.int .i64 (((D : Nat) : Int)), .int .i64 (((D : Nat) : Int)), .func (.func 29) #[] #[.pointer (some ⟨qc, 0, none⟩), .pointer (some ⟨qd, 0, none⟩), .pointer (some ⟨qp, 0, none⟩)]]) Try.func28 rfl rfl (St.empty _ _) ?_
  refine Run.seq ?_
  refine Run.region ?_
  refine Run.step rfl (OpStep.alloc (zs := [.int .i64 0, .int .i64 0, .slice none 0 0]) Tzero_29 fun b1 => ?_)
  refine Run.q (v := .bool false) rfl (OpQ.y (OpY.pure rfl)) ?_
  refine Run.done ?_
  refine Run.seq ?_
  refine Run.region ?_
  refine Run.q (v := .int .i64 (((D : Nat) : Int))) rfl (OpQ.y (OpY.pure rfl)) ?_
  refine Run.q (v := .int .i64 (((D : Nat) : Int))) rfl (OpQ.y (OpY.pure rfl)) ?_
  refine Run.q (v := .agg #[.int .i64 (((D : Nat) : Int)), .int .i64 (((D : Nat) : Int)), .slice none 0 0]) rfl (OpQ.y (OpY.build (cs := [.int .i64 (((D : Nat) : Int)), .int .i64 (((D : Nat) : Int)), .slice none 0 0]) (by kernel_rfl))) ?_
  refine Run.step rfl (OpStep.alloc (zs := [.int .i64 0, .int .i64 0, .slice none 0 0]) Tzero_29 fun b2 => ?_)
  refine Run.step rfl (OpStep.storeAll (us := [.int .i64 (((D : Nat) : Int)), .int .i64 (((D : Nat) : Int)), .slice none 0 0]) Tsize_29 rfl rfl rfl (.here _) rfl ?_)
  refine Run.done ?_
  refine Run.seq ?_
  refine Run.seq ?_
  refine Run.region ?_
  refine Run.q (v := .int .i64 (((D : Nat) : Int))) rfl (OpQ.y (OpY.pure rfl)) ?_
  refine Run.q (v := .bool true) rfl (OpQ.call (vs := [.int .i64 (((D : Nat) : Int))]) (caps := []) Tcall_53 rfl rfl (fun w hs => isDim_spec hD)) ?_
  refine Run.q (v := .bool false) rfl (OpQ.y (OpY.pure rfl)) ?_
  refine Run.q (v := .bool false) rfl (OpQ.y (OpY.pure rfl)) ?_
  refine Run.q (v := .int .i64 (((D : Nat) : Int))) rfl (OpQ.y (OpY.pure rfl)) ?_
  refine Run.q (v := .bool true) rfl (OpQ.call (vs := [.int .i64 (((D : Nat) : Int))]) (caps := []) Tcall_53 rfl rfl (fun w hs => isDim_spec hD)) ?_
  refine Run.q (v := .bool false) rfl (OpQ.y (OpY.pure rfl)) ?_
  refine Run.q (v := .bool false) rfl (OpQ.y (OpY.pure rfl)) ?_
  refine Run.done ?_
  refine Run.cond (b := false) rfl (fun h => nomatch h) (fun _ => ?_)
  refine Run.skip ?_
  refine Run.seq ?_
  refine Run.seq ?_
  refine Run.region ?_
  refine Run.q (v := .int .i64 (((D : Nat) : Int))) rfl (OpQ.y (OpY.pure rfl)) ?_
  refine Run.q (v := .int .i64 0) rfl (OpQ.y (OpY.pure rfl)) ?_
  refine Run.done ?_
  refine Run.block ?_
  refine Run.weak (H' := [.own (.slice none 0 0) 61 5 0 ([]), .blk b2 29 [.int .i64 (((D : Nat) : Int)), .int .i64 (((D : Nat) : Int)), .slice none 0 0], .blk b1 29 [.int .i64 0, .int .i64 0, .slice none 0 0]]) (Weak.nilOwn _ _) ?_ ⟨_, _, rfl, fun _ => nofun, fun _ => nofun⟩
  refine Run.loop (ι := Nat × Nat × Value) [7, 9, 10, 11, 12, 26, 27, 28, 29, 30, 31, 32, 33, 34, 35, 36, 37, 38, 39, 40, 41, 42, 43, 44, 45, 46, 47, 48, 49, 50] (fun ⟨i, q, vo⟩ => [(26, .int .i64 (((i : Nat) : Int)))]) (fun ⟨i, q, vo⟩ => [.own vo 61 5 q (ints (mxL cs X (q))), .blk b2 29 [.int .i64 (((D : Nat) : Int)), .int .i64 (((D : Nat) : Int)), vo], .blk b1 29 [.int .i64 0, .int .i64 0, .slice none 0 0]]) (fun ⟨i, q, vo⟩ => i ≤ D ∧ q = i * D ∧ mxB cs X q = true) (fun ⟨i, q, vo⟩ => D - i) (0, 0, .slice none 0 0) ?_ ?_ ?_ ?_
  · exact ⟨Nat.zero_le _, (Nat.zero_mul _).symm, rfl⟩
  · exact ⟨rfl, trivial⟩
  · exact (Some'.weak (.takeEq (by first | rfl | simp [mxL, ints]) (.takeEq (by first | rfl | simp [mxL, ints]) (.take (.nil _)))))
  · rintro ⟨i, q, vo⟩ fr hinv
    show Run _ _ (over _ _ [(26, .int .i64 (((i : Nat) : Int)))] fr) [.own vo 61 5 q (ints (mxL cs X (q))), .blk b2 29 [.int .i64 (((D : Nat) : Int)), .int .i64 (((D : Nat) : Int)), vo], .blk b1 29 [.int .i64 0, .int .i64 0, .slice none 0 0]]
    try dsimp only at hinv
    refine Run.seq ?_
    refine Run.region ?_
    refine Run.q (v := .bool (decide ((((i : Nat) : Int)) < (((D : Nat) : Int))))) rfl (OpQ.y (OpY.pure rfl)) ?_
    refine Run.done ?_
    refine Run.seq ?_
    refine Run.cond (b := decide ((((i : Nat) : Int)) < (((D : Nat) : Int)))) rfl (fun h27 => ?_) (fun h27 => ?_)
    · have p27 := h27; try simp only [bs] at p27
      have hiD : i < D := by omega
      have hq1 : (i + 1) * D = q + D := by rw [Nat.add_mul, hinv.2.1]; omega
      have hqD : q + D ≤ D * D := by rw [← hq1]; exact Nat.mul_le_mul_right D hiD
      refine Run.skip ?_
      refine Run.seq ?_
      refine Run.block ?_
      refine Run.seq ?_
      refine Run.region ?_
      refine Run.q (v := .int .i64 (((i : Nat) : Int))) rfl (OpQ.y (OpY.pure rfl)) ?_
      refine Run.q (v := .int .i64 (((i : Nat) : Int))) rfl (OpQ.y (OpY.pure rfl)) ?_
      refine Run.done ?_
      refine Run.seq ?_
      refine Run.region ?_
      refine Run.q (v := .int .i64 (((D : Nat) : Int))) rfl (OpQ.y (OpY.pure rfl)) ?_
      refine Run.q (v := .int .i64 0) rfl (OpQ.y (OpY.pure rfl)) ?_
      refine Run.done ?_
      refine Run.block ?_
      refine Run.loop (ι := Nat × Value) [7, 10, 11, 12, 30, 31, 32, 33, 34, 35, 36, 37, 38, 39, 40, 41, 42, 43, 44, 45, 46, 47, 48, 49] (fun ⟨j, vj⟩ => [(30, .int .i64 (((j : Nat) : Int)))]) (fun ⟨j, vj⟩ => [.own vj 61 5 (q + j) (ints (mxL cs X (q + j))), .blk b2 29 [.int .i64 (((D : Nat) : Int)), .int .i64 (((D : Nat) : Int)), vj], .blk b1 29 [.int .i64 0, .int .i64 0, .slice none 0 0]]) (fun ⟨j, vj⟩ => j ≤ D ∧ mxB cs X (q + j) = true) (fun ⟨j, vj⟩ => D - j) (0, vo) ?_ ?_ ?_ ?_
      · exact ⟨Nat.zero_le _, hinv.2.2⟩
      · exact ⟨rfl, trivial⟩
      · exact (Some'.weak (.takeEq (by first | rfl | simp) (.takeEq (by first | rfl | simp) (.take (.nil _)))))
      · rintro ⟨j, vj⟩ fr hinv
        show Run _ _ (over _ _ [(30, .int .i64 (((j : Nat) : Int)))] fr) [.own vj 61 5 (q + j) (ints (mxL cs X (q + j))), .blk b2 29 [.int .i64 (((D : Nat) : Int)), .int .i64 (((D : Nat) : Int)), vj], .blk b1 29 [.int .i64 0, .int .i64 0, .slice none 0 0]]
        try dsimp only at hinv
        refine Run.seq ?_
        refine Run.region ?_
        refine Run.q (v := .bool (decide ((((j : Nat) : Int)) < (((D : Nat) : Int))))) rfl (OpQ.y (OpY.pure rfl)) ?_
        refine Run.done ?_
        refine Run.seq ?_
        refine Run.cond (b := decide ((((j : Nat) : Int)) < (((D : Nat) : Int)))) rfl (fun h31 => ?_) (fun h31 => ?_)
        · have p31 := h31; try simp only [bs] at p31
          have hjD : j < D := by omega
          refine Run.skip ?_
          refine Run.seq ?_
          refine Run.block ?_
          refine Run.seq ?_
          refine Run.region ?_
          refine Run.q (v := .int .i64 (((j : Nat) : Int))) rfl (OpQ.y (OpY.pure rfl)) ?_
          refine Run.q (v := .int .i64 (((j : Nat) : Int))) rfl (OpQ.y (OpY.pure rfl)) ?_
          refine Run.done ?_
          refine Run.seq ?_
          refine Run.region ?_
          refine Run.q (v := .func (.func 29) #[] #[.pointer (some ⟨qc, 0, none⟩), .pointer (some ⟨qd, 0, none⟩), .pointer (some ⟨qp, 0, none⟩)]) rfl (OpQ.y (OpY.pure rfl)) ?_
          refine Run.q (v := .int .i64 (((i : Nat) : Int))) rfl (OpQ.y (OpY.pure rfl)) ?_
          refine Run.q (v := .int .i64 (((j : Nat) : Int))) rfl (OpQ.y (OpY.pure rfl)) ?_
          refine Run.step rfl (OpStep.call (vs := [.int .i64 (((i : Nat) : Int)), .int .i64 (((j : Nat) : Int)), .pointer (some ⟨qc, 0, none⟩), .pointer (some ⟨qd, 0, none⟩), .pointer (some ⟨qp, 0, none⟩)]) (caps := [.pointer (some ⟨qc, 0, none⟩), .pointer (some ⟨qd, 0, none⟩), .pointer (some ⟨qp, 0, none⟩)]) Tcall_29 rfl rfl (fun w hs => opclo_spec (ci := q + j) (i := i) (j := j) (by omega) (by omega) (by omega) (hs.sl hb5) (hs.sl hb4) (hs.sl hb1) (hs.sl hc) hX hD hcs hgd) ?_)
          rintro _ _ ⟨y, e, hye, rfl, rfl⟩
          show Run _ _ (putF _ _ _ (.tuple #[.agg #[.int .i64 (y.a), .int .i64 (y.b), .int .i64 (y.c), .int .i64 (y.d), .int .i64 e], .bool (scB (cr cs (q + j)) X)])) [.own vj 61 5 (q + j) (ints (mxL cs X (q + j))), .blk b2 29 [.int .i64 (((D : Nat) : Int)), .int .i64 (((D : Nat) : Int)), vj], .blk b1 29 [.int .i64 0, .int .i64 0, .slice none 0 0]]
          refine Run.q (v := .tuple #[.agg #[.int .i64 (y.a), .int .i64 (y.b), .int .i64 (y.c), .int .i64 (y.d), .int .i64 e], .bool (scB (cr cs (q + j)) X)]) rfl (OpQ.y (OpY.pure rfl)) ?_
          refine Run.q (v := .agg #[.int .i64 (y.a), .int .i64 (y.b), .int .i64 (y.c), .int .i64 (y.d), .int .i64 e]) rfl (OpQ.y (OpY.pure rfl)) ?_
          refine Run.q (v := .bool (scB (cr cs (q + j)) X)) rfl (OpQ.y (OpY.pure rfl)) ?_
          refine Run.step rfl (OpStep.alloc (zs := [.int .i64 0, .int .i64 0, .int .i64 0, .int .i64 0, .int .i64 0]) Tzero_61 fun b3 => ?_)
          refine Run.step rfl (OpStep.storeAll (us := [.int .i64 (y.a), .int .i64 (y.b), .int .i64 (y.c), .int .i64 (y.d), .int .i64 e]) Tsize_61 rfl rfl rfl (.here _) rfl ?_)
          refine Run.q (v := .bool (scB (cr cs (q + j)) X)) rfl (OpQ.y (OpY.pure rfl)) ?_
          refine Run.done ?_
          refine Run.seq ?_
          refine Run.seq ?_
          refine Run.region ?_
          refine Run.q (v := .bool (scB (cr cs (q + j)) X)) rfl (OpQ.y (OpY.pure rfl)) ?_
          refine Run.q (v := .bool (!(scB (cr cs (q + j)) X))) rfl (OpQ.y (OpY.pure rfl)) ?_
          refine Run.done ?_
          refine Run.cond (b := !(scB (cr cs (q + j)) X)) rfl (fun h41 => ?_) (fun h41 => ?_)
          · have p41 := h41; try simp only [bs] at p41
            have hno : mxB cs X (D * D) = false := mxB_no (c := q + j) (by omega) (by simpa using p41)
            refine Run.seq ?_
            refine Run.weak (H' := [.own (.slice none 0 0) 61 5 0 ([]), .blk b3 61 [.int .i64 (y.a), .int .i64 (y.b), .int .i64 (y.c), .int .i64 (y.d), .int .i64 e], .own vj 61 5 (q + j) (ints (mxL cs X (q + j))), .blk b2 29 [.int .i64 (((D : Nat) : Int)), .int .i64 (((D : Nat) : Int)), vj], .blk b1 29 [.int .i64 0, .int .i64 0, .slice none 0 0]]) (Weak.nilOwn _ _) ?_ ⟨_, _, rfl, fun _ => nofun, fun _ => nofun⟩
            refine Run.region ?_
            refine Run.q (v := .agg #[.int .i64 0, .int .i64 0, .slice none 0 0]) rfl (OpQ.y (OpY.build (cs := [.int .i64 0, .int .i64 0, .slice none 0 0]) (by kernel_rfl))) ?_
            refine Run.step rfl (OpStep.storeAll (us := [.int .i64 0, .int .i64 0, .slice none 0 0]) Tsize_29 rfl rfl rfl (.there _ (.there _ (.there _ (.there _ (.here _))))) rfl ?_)
            refine Run.q (v := .bool false) rfl (OpQ.y (OpY.pure rfl)) ?_
            refine Run.done ?_
            refine Run.ret ?_
            refine ⟨.tuple #[.agg #[.int .i64 0, .int .i64 0, .slice none 0 0], .bool false], [.own (.slice none 0 0) 61 5 (opN (mxB cs X (D * D)) D) (ints (opL (mxB cs X (D * D)) cs X D))], Out.cell2 (cs := [.int .i64 0, .int .i64 0, .slice none 0 0]) rfl Tagg_29 rfl (Cells.blk (.tail _ (.tail _ (.tail _ (.tail _ (List.Mem.head _))))) ⟨rfl, rfl, rfl, trivial⟩) rfl, (Some'.weak (.takeEq (by first | (rw [hno]; rfl) | (rw [hok, hqD]; rfl)) (.nil _))), ?_⟩
            first | exact ⟨_, by rw [hno]; rfl, rfl⟩ | exact ⟨_, by rw [hok]; rfl, rfl⟩
          · have p41 := h41; try simp only [bs] at p41
            have hyes : scB (cr cs (q + j)) X = true := by simpa using p41
            have hb1 : mxB cs X (q + j + 1) = true := by rw [mxB_succ, hinv.2, hyes]; rfl
            have hyy : scl (cr cs (q + j)) X = [y.a, y.b, y.c, y.d, e] := by rw [scl, ← (hye hyes).1, ← (hye hyes).2]
            refine Run.skip ?_
            refine Run.region ?_
            refine Run.q (v := .pointer (some ⟨b2, 2, none⟩)) rfl (OpQ.y (OpY.fieldAddr Tfo_29_2 rfl rfl)) ?_
            refine Run.q (v := vj) rfl (OpQ.y (OpY.load1 Tone_27 rfl (Cells.blk (.tail _ (.tail _ (List.Mem.head _))) ⟨rfl, trivial⟩))) ?_
            refine Run.q (v := .agg #[.int .i64 (y.a), .int .i64 (y.b), .int .i64 (y.c), .int .i64 (y.d), .int .i64 e]) rfl (OpQ.y (OpY.loadN (cs := [.int .i64 (y.a), .int .i64 (y.b), .int .i64 (y.c), .int .i64 (y.d), .int .i64 e]) Tagg_61 rfl (Cells.blk (.head _) ⟨rfl, rfl, rfl, rfl, rfl, trivial⟩))) ?_
            refine Run.step rfl (OpStep.buildSlice (us := [.int .i64 (y.a), .int .i64 (y.b), .int .i64 (y.c), .int .i64 (y.d), .int .i64 e]) Tsl_27 (by decide) (by decide) ⟨rfl, [.int .i64 (y.a), .int .i64 (y.b), .int .i64 (y.c), .int .i64 (y.d), .int .i64 e], _, rfl, rfl, rfl, rfl⟩ rfl fun b4 => ?_)
            refine Run.step rfl (OpStep.append (H1 := [.own (.slice (some ⟨b4, 0, none⟩) 1 1) 61 5 1 ([.int .i64 (y.a), .int .i64 (y.b), .int .i64 (y.c), .int .i64 (y.d), .int .i64 e]), .blk b3 61 [.int .i64 (y.a), .int .i64 (y.b), .int .i64 (y.c), .int .i64 (y.d), .int .i64 e]]) (H2 := [.blk b2 29 [.int .i64 (((D : Nat) : Int)), .int .i64 (((D : Nat) : Int)), vj], .blk b1 29 [.int .i64 0, .int .i64 0, .slice none 0 0]]) (v := vj) (u := .slice (some ⟨b4, 0, none⟩) 1 1) (n := q + j) (m := 1) (xs := ints (mxL cs X (q + j))) (ys := [.int .i64 (y.a), .int .i64 (y.b), .int .i64 (y.c), .int .i64 (y.d), .int .i64 e]) Tsl_27 (by decide) rfl rfl rfl rfl (fun w hs => hs.slOwn (.head _)) (by simp [Value.oneCell']) (by omega) (by simp only [maxLen]; omega) fun av1 hnav1 => ?_)
            refine Run.weak (H' := [.own (.slice (some ⟨b4, 0, none⟩) 1 1) 61 5 1 ([.int .i64 (y.a), .int .i64 (y.b), .int .i64 (y.c), .int .i64 (y.d), .int .i64 e]), .blk b3 61 [.int .i64 (y.a), .int .i64 (y.b), .int .i64 (y.c), .int .i64 (y.d), .int .i64 e], .own av1 61 5 (q + j + 1) (ints (mxL cs X (q + j + 1))), .blk b2 29 [.int .i64 (((D : Nat) : Int)), .int .i64 (((D : Nat) : Int)), vj], .blk b1 29 [.int .i64 0, .int .i64 0, .slice none 0 0]]) (Some'.weak (.take (.take (.takeEq (by rw [mxL, ints_append, hyy]; rfl) (.take (.take (.nil _))))))) ?_ ⟨_, _, rfl, fun _ => nofun, fun _ => nofun⟩
            refine Run.q (v := .pointer (some ⟨b2, 2, none⟩)) rfl (OpQ.y (OpY.fieldAddr Tfo_29_2 rfl rfl)) ?_
            refine Run.formOwn (.tail _ (.tail _ (List.Mem.head _))) (fun A_av11 c_av11 hv hcapc_av11 hmaxc_av11 => ?_) (fun _ _ _ => ⟨nofun, nofun, nofun⟩)
            subst hv
            refine Run.step rfl (OpStep.store (us := [.slice A_av11 (q + j + 1) c_av11]) Tsize_27 rfl rfl rfl (.there _ (.there _ (.there _ (.here _)))) (by simp only [List.length_cons, List.length_nil]; omega) ?_)
            show Run _ _ _ [.own (.slice (some ⟨b4, 0, none⟩) 1 1) 61 5 1 ([.int .i64 (y.a), .int .i64 (y.b), .int .i64 (y.c), .int .i64 (y.d), .int .i64 e]), .blk b3 61 [.int .i64 (y.a), .int .i64 (y.b), .int .i64 (y.c), .int .i64 (y.d), .int .i64 e], .own (.slice A_av11 (q + j + 1) c_av11) 61 5 (q + j + 1) (ints (mxL cs X (q + j + 1))), .blk b2 29 [.int .i64 (((D : Nat) : Int)), .int .i64 (((D : Nat) : Int)), .slice A_av11 (q + j + 1) c_av11], .blk b1 29 [.int .i64 0, .int .i64 0, .slice none 0 0]]
            refine Run.done ?_
            refine Run.blockEnd ?_
            refine Run.region ?_
            refine Run.q (v := .int .i64 ((((j : Nat) : Int)) + 1)) rfl (OpQ.y (OpY.add rfl rfl rfl (by omega) (by omega))) ?_
            refine Run.q (v := .int .i64 ((((j : Nat) : Int)) + 1)) rfl (OpQ.y (OpY.pure rfl)) ?_
            refine Run.done ?_
            refine Run.goal ⟨(by repeat (first | exact Same.refl _ _ | refine Same.put rfl ?_ | refine Same.over rfl rfl ?_)), (j + 1, .slice A_av11 (q + j + 1) c_av11), ?_, ?_, ?_, ?_⟩
            · exact ⟨hjD, hb1⟩
            · dsimp only; omega
            · exact ⟨(by first | rfl | (congr 1; omega) | simp), trivial⟩
            · exact (Some'.weak (.skip (.skip (.takeEq (by first | rfl | simp) (.takeEq (by first | rfl | simp) (.take (.nil _)))))))
        · have p31 := h31; try simp only [bs] at p31
          have hjD : j = D := by omega
          refine Run.exit rfl ?_
          refine Run.blockEnd ?_
          refine Run.region ?_
          refine Run.q (v := .int .i64 ((((i : Nat) : Int)) + 1)) rfl (OpQ.y (OpY.add rfl rfl rfl (by omega) (by omega))) ?_
          refine Run.q (v := .int .i64 ((((i : Nat) : Int)) + 1)) rfl (OpQ.y (OpY.pure rfl)) ?_
          refine Run.done ?_
          refine Run.goal ⟨(by repeat (first | exact Same.refl _ _ | refine Same.put rfl ?_ | refine Same.over rfl rfl ?_)), (i + 1, q + j, vj), ?_, ?_, ?_, ?_⟩
          · exact ⟨hiD, by rw [hq1, hjD], hinv.2⟩
          · dsimp only; omega
          · exact ⟨(by first | rfl | (congr 1; omega) | simp), trivial⟩
          · exact (Some'.weak (.takeEq (by first | rfl | simp [mxL, ints]) (.takeEq (by first | rfl | simp [mxL, ints]) (.take (.nil _)))))
    · have p27 := h27; try simp only [bs] at p27
      have hiD : i = D := by omega
      have hqD : q = D * D := by rw [hinv.2.1, hiD]
      have hok : mxB cs X (D * D) = true := by rw [← hqD]; exact hinv.2.2
      refine Run.exit rfl ?_
      refine Run.seq ?_
      refine Run.region ?_
      refine Run.q (v := .agg #[.int .i64 (((D : Nat) : Int)), .int .i64 (((D : Nat) : Int)), vo]) rfl (OpQ.y (OpY.loadN (cs := [.int .i64 (((D : Nat) : Int)), .int .i64 (((D : Nat) : Int)), vo]) Tagg_29 rfl (Cells.blk (.tail _ (List.Mem.head _)) ⟨rfl, rfl, rfl, trivial⟩))) ?_
      refine Run.formOwn (.head _) (fun A_vo1 c_vo1 hv hcapc_vo1 hmaxc_vo1 => ?_) (fun _ _ _ => ⟨nofun, nofun, nofun⟩)
      subst hv
      refine Run.step rfl (OpStep.storeAll (us := [.int .i64 (((D : Nat) : Int)), .int .i64 (((D : Nat) : Int)), .slice A_vo1 q c_vo1]) Tsize_29 rfl rfl rfl (.there _ (.there _ (.here _))) rfl ?_)
      refine Run.q (v := .bool true) rfl (OpQ.y (OpY.pure rfl)) ?_
      refine Run.done ?_
      refine Run.ret ?_
      refine ⟨.tuple #[.agg #[.int .i64 (((D : Nat) : Int)), .int .i64 (((D : Nat) : Int)), .slice A_vo1 q c_vo1], .bool true], [.own (.slice A_vo1 q c_vo1) 61 5 (opN (mxB cs X (D * D)) D) (ints (opL (mxB cs X (D * D)) cs X D))], Out.cell2 (cs := [.int .i64 (((D : Nat) : Int)), .int .i64 (((D : Nat) : Int)), .slice A_vo1 q c_vo1]) rfl Tagg_29 rfl (Cells.blk (.tail _ (.tail _ (List.Mem.head _))) ⟨rfl, rfl, rfl, trivial⟩) rfl, (Some'.weak (.takeEq (by first | (rw [hno]; rfl) | (rw [hok, hqD]; rfl)) (.nil _))), ?_⟩
      first | exact ⟨_, by rw [hno]; rfl, rfl⟩ | exact ⟨_, by rw [hok]; rfl, rfl⟩

end Go.Proofs.Ytadobifnhcafpaa
