/- Walks: the operator of a path sum, of the program. -/
import Derived.Test.YtadobifnhcafpaaOsb
import Derived.Test.YtadobifnhcafpaaProg
set_option linter.unusedSimpArgs false
set_option linter.unusedVariables false
namespace Go.Proofs.Ytadobifnhcafpaa
open Go Go.RowKit
namespace OscT
theorem Tagg_29 : aggOf Try.prog 29 = some 3 := by kernel_rfl
theorem Tagg_35 : aggOf Try.prog 35 = some 6 := by kernel_rfl
theorem Tarr_70 : arrayOf Try.prog 70 = some (8, 1) := by kernel_rfl
theorem Tcall_26 : callable Try.prog 26 = true := by kernel_rfl
theorem Tcall_27 : callable Try.prog 27 = true := by kernel_rfl
theorem Tcall_28 : callable Try.prog 28 = true := by kernel_rfl
theorem Tfo_35_0 : fieldOff Try.prog 35 0 = some 0 := by kernel_rfl
theorem Tfo_35_1 : fieldOff Try.prog 35 1 = some 1 := by kernel_rfl
theorem Tone_3 : oneOf Try.prog 3 = true := by kernel_rfl
theorem Tone_67 : oneOf Try.prog 67 = true := by kernel_rfl
theorem Tsize_29 : (Try.prog.info? 29).map (·.size) = some 3 := by kernel_rfl
theorem Tsize_3 : (Try.prog.info? 3).map (·.size) = some 1 := by kernel_rfl
theorem Tsize_67 : (Try.prog.info? 67).map (·.size) = some 1 := by kernel_rfl
theorem Tsl_67 : sliceOf Try.prog 67 = some (70, 8, 64, [.int .i64 0, .int .i64 0, .int .i64 0, .int .i64 0, .int .i64 0, .int .i64 0, .int .i64 0, .int .i64 0]) := by kernel_rfl
theorem Tzero_29 : zeroOf Try.prog 29 = some [.int .i64 0, .int .i64 0, .slice none 0 0] := by kernel_rfl
theorem Tzero_3 : zeroOf Try.prog 3 = some [.int .i64 0] := by kernel_rfl
theorem Tzero_67 : zeroOf Try.prog 67 = some [.slice none 0 0] := by kernel_rfl
end OscT
open OscT

def osD (I : Int) : Nat := 2 ^ I.toNat
def osC (I V F : Int) (ts : List Int) (nt : Nat) (os : List Int) (no : Nat) : List Int := cnS (ocC I os no (osD I)) (ocP ts F nt) (osD I * osD I) (2 ^ (I + V).toNat)
def osB (I V R F : Int) (ts : List Int) (nt : Nat) (os : List Int) (no : Nat) : Bool := (psOk I V R F ts nt os no && decide (I + V ≤ 10)) && mxB (osC I V F ts nt os no) R (osD I * osD I)
def osL (I V R F : Int) (ts : List Int) (nt : Nat) (os : List Int) (no : Nat) : List Int := opL (osB I V R F ts nt os no) (osC I V F ts nt os no) R (osD I)
structure OsF (I V : Int) (D A : Nat) : Prop where
  hI : 1 ≤ I ∧ I ≤ 5
  hV : 0 ≤ V ∧ I + V ≤ 10
  hD1 : (1 : Int) * 2 ^ I.toNat = (D : Nat)
  hA1 : (1 : Int) * 2 ^ (I + V).toNat = (A : Nat)
  hD : (2 ≤ D ∧ D ≤ 32) ∧ D * D ≤ 1024 ∧ bits .and .i64 (D : Int) ((D : Int) - 1) = 0
  hA : 1 ≤ A ∧ A ≤ 1024
theorem osF_of {I V : Int} (hI : 1 ≤ I ∧ I ≤ 5) (hV : 0 ≤ V ∧ I + V ≤ 10) : OsF I V (osD I) (2 ^ (I + V).toNat) := by
  refine ⟨hI, hV, by rw [osD, Int.one_mul]; push_cast; rfl, by rw [Int.one_mul]; push_cast; rfl, dim_cases hI rfl, Nat.one_le_two_pow, ?_⟩
  have h : 2 ^ (I + V).toNat ≤ 2 ^ 10 := Nat.pow_le_pow_right (by omega) (by omega)
  omega
theorem osB_no {I V R F : Int} {ts : List Int} {nt : Nat} {os : List Int} {no : Nat} (h : ¬ (psOk I V R F ts nt os no = true ∧ I + V ≤ 10)) : osB I V R F ts nt os no = false := by
  unfold osB
  cases hp : psOk I V R F ts nt os no with
  | false => rfl
  | true => rw [hp] at h; rw [show decide (I + V ≤ 10) = false from decide_eq_false fun h2 => h ⟨rfl, h2⟩]; rfl
theorem osB_yes {I V R F : Int} {ts : List Int} {nt : Nat} {os : List Int} {no : Nat} (h : psOk I V R F ts nt os no = true) (h2 : I + V ≤ 10) : osB I V R F ts nt os no = mxB (osC I V F ts nt os no) R (osD I * osD I) := by
  rw [osB, h, decide_eq_true h2]; rfl

set_option maxHeartbeats 1000000 in
set_option maxRecDepth 20000 in
theorem OperatorOfSum_spec {I V R F : Int} {vt vo : Value} {nt no : Nat} {ts os : List Int} {w : World} (ht : Sl w vt 2 nt (ints ts)) (ho : Sl w vo 2 no (ints os)) (hnt9 : nt ≤ 1048576) : Calls Try.prog 7 #[.agg #[.int .i64 I, .int .i64 V, .int .i64 R, .int .i64 F, vt, vo]] w (Post No w fun v H => ∃ u, v = .tuple #[.agg #[.int .i64 (opD (osB I V R F ts nt os no) (osD I)), .int .i64 (opD (osB I V R F ts nt os no) (osD I)), u], .bool (osB I V R F ts nt os no)] ∧ H = [.own u 61 5 (opN (osB I V R F ts nt os no) (osD I)) (ints (osL I V R F ts nt os no))]) := by
  refine enter (n := 78) (args := [.agg #[.int .i64 I, .int .i64 V, .int .i64 R, .int .i64 F, vt, vo]]) Try.func7 rfl rfl (St.empty _ _) ?_
  refine Run.seq ?_
  refine Run.region ?_
  refine Run.step rfl (OpStep.box (us := [.int .i64 I, .int .i64 V, .int .i64 R, .int .i64 F, vt, vo]) rfl fun b1 => ?_)
  refine Run.step rfl (OpStep.alloc (zs := [.int .i64 0, .int .i64 0, .slice none 0 0]) Tzero_29 fun b2 => ?_)
  refine Run.q (v := .bool false) rfl (OpQ.y (OpY.pure rfl)) ?_
  refine Run.done ?_
  refine Run.seq ?_
  refine Run.seq ?_
  refine Run.region ?_
  refine Run.q (v := .agg #[.int .i64 I, .int .i64 V, .int .i64 R, .int .i64 F, vt, vo]) rfl (OpQ.y (OpY.loadN (cs := [.int .i64 I, .int .i64 V, .int .i64 R, .int .i64 F, vt, vo]) Tagg_35 rfl (Cells.blk (.tail _ (List.Mem.head _)) ⟨rfl, rfl, rfl, rfl, rfl, rfl, trivial⟩))) ?_
  refine Run.q (v := .bool (psOk I V R F ts nt os no)) rfl (OpQ.call (vs := [.agg #[.int .i64 I, .int .i64 V, .int .i64 R, .int .i64 F, vt, vo]]) (caps := []) Tcall_26 rfl rfl (fun w hs => IsValidPathSum_spec (hs.sl ht) (hs.sl ho))) ?_
  refine Run.q (v := .bool (!(psOk I V R F ts nt os no))) rfl (OpQ.y (OpY.pure rfl)) ?_
  rcases Bool.eq_false_or_eq_true (!(psOk I V R F ts nt os no)) with h14 | h14
  · refine Run.q (v := .bool true) rfl (OpQ.y (OpY.moveB rfl h14)) ?_
    have p14 := h14; try simp only [bs] at p14
    refine Run.pass rfl ?_
    refine Run.pass rfl ?_
    refine Run.pass rfl ?_
    refine Run.pass rfl ?_
    refine Run.pass rfl ?_
    refine Run.pass rfl ?_
    refine Run.q (v := .bool true) rfl (OpQ.y (OpY.pure rfl)) ?_
    refine Run.done ?_
    refine Run.cond (b := true) rfl (fun _ => ?_) (fun h => nomatch h)
    refine Run.seq ?_
    have hno : osB I V R F ts nt os no = false := osB_no (by first | (intro h; have := h.1; simp_all; done) | (intro h; have := h.2; omega) | (intro h; simp_all; omega))
    refine Run.weak (H' := [.own (.slice none 0 0) 61 5 0 ([]), .blk b2 29 [.int .i64 0, .int .i64 0, .slice none 0 0], .blk b1 35 [.int .i64 I, .int .i64 V, .int .i64 R, .int .i64 F, vt, vo]]) (Weak.nilOwn _ _) ?_ ⟨_, _, rfl, fun _ => nofun, fun _ => nofun⟩
    refine Run.region ?_
    refine Run.q (v := .agg #[.int .i64 0, .int .i64 0, .slice none 0 0]) rfl (OpQ.y (OpY.build (cs := [.int .i64 0, .int .i64 0, .slice none 0 0]) (by kernel_rfl))) ?_
    refine Run.step rfl (OpStep.storeAll (us := [.int .i64 0, .int .i64 0, .slice none 0 0]) Tsize_29 rfl rfl rfl (.there _ (.here _)) rfl ?_)
    refine Run.q (v := .bool false) rfl (OpQ.y (OpY.pure rfl)) ?_
    refine Run.done ?_
    refine Run.ret ?_
    refine ⟨.tuple #[.agg #[.int .i64 0, .int .i64 0, .slice none 0 0], .bool false], [.own (.slice none 0 0) 61 5 (opN (osB I V R F ts nt os no) (osD I)) (ints (osL I V R F ts nt os no))], Out.cell2 (cs := [.int .i64 0, .int .i64 0, .slice none 0 0]) rfl Tagg_29 rfl (Cells.blk (.tail _ (List.Mem.head _)) ⟨rfl, rfl, rfl, trivial⟩) rfl, (Some'.weak (.takeEq (by first | (rw [hno]; rfl) | (rw [osL, hno]; rfl) | (rw [hbe, ← hDe]; done) | (rw [osL, hbe, osC, ← hDe, ← hAe]; done)) (.nil _))), ?_⟩
    first | exact ⟨_, by rw [hno]; rfl, rfl⟩ | exact ⟨_, by rw [hbe, ← hDe], rfl⟩
  · refine Run.q (v := .bool false) rfl (OpQ.y (OpY.moveB rfl h14)) ?_
    have p14 := h14; try simp only [bs] at p14
    have hok : psOk I V R F ts nt os no = true := by simpa using p14
    have hpf0 := psF_of hok
    have hhd := psHead_iff (I := I) (V := V) (R := R) (F := F) (no := no) (by simp only [psOk, Bool.and_eq_true] at hok; exact hok.1.1)
    refine Run.q (v := .pointer (some ⟨b1, 0, none⟩)) rfl (OpQ.y (OpY.fieldAddr Tfo_35_0 rfl rfl)) ?_
    refine Run.q (v := .int .i64 I) rfl (OpQ.y (OpY.load1 Tone_3 rfl (Cells.blk (.tail _ (List.Mem.head _)) ⟨rfl, trivial⟩))) ?_
    refine Run.q (v := .pointer (some ⟨b1, 1, none⟩)) rfl (OpQ.y (OpY.fieldAddr Tfo_35_1 rfl rfl)) ?_
    refine Run.q (v := .int .i64 V) rfl (OpQ.y (OpY.load1 Tone_3 rfl (Cells.blk (.tail _ (List.Mem.head _)) ⟨rfl, trivial⟩))) ?_
    refine Run.q (v := .int .i64 (I + V)) rfl (OpQ.y (OpY.add rfl rfl rfl (by omega) (by omega))) ?_
    refine Run.q (v := .bool (decide ((I + V) > 10))) rfl (OpQ.y (OpY.pure rfl)) ?_
    refine Run.q (v := .bool (decide ((I + V) > 10))) rfl (OpQ.y (OpY.pure rfl)) ?_
    refine Run.done ?_
    refine Run.cond (b := decide ((I + V) > 10)) rfl (fun h21 => ?_) (fun h21 => ?_)
    · have p21 := h21; try simp only [bs] at p21
      refine Run.seq ?_
      have hno : osB I V R F ts nt os no = false := osB_no (by first | (intro h; have := h.1; simp_all; done) | (intro h; have := h.2; omega) | (intro h; simp_all; omega))
      refine Run.weak (H' := [.own (.slice none 0 0) 61 5 0 ([]), .blk b2 29 [.int .i64 0, .int .i64 0, .slice none 0 0], .blk b1 35 [.int .i64 I, .int .i64 V, .int .i64 R, .int .i64 F, vt, vo]]) (Weak.nilOwn _ _) ?_ ⟨_, _, rfl, fun _ => nofun, fun _ => nofun⟩
      refine Run.region ?_
      refine Run.q (v := .agg #[.int .i64 0, .int .i64 0, .slice none 0 0]) rfl (OpQ.y (OpY.build (cs := [.int .i64 0, .int .i64 0, .slice none 0 0]) (by kernel_rfl))) ?_
      refine Run.step rfl (OpStep.storeAll (us := [.int .i64 0, .int .i64 0, .slice none 0 0]) Tsize_29 rfl rfl rfl (.there _ (.here _)) rfl ?_)
      refine Run.q (v := .bool false) rfl (OpQ.y (OpY.pure rfl)) ?_
      refine Run.done ?_
      refine Run.ret ?_
      refine ⟨.tuple #[.agg #[.int .i64 0, .int .i64 0, .slice none 0 0], .bool false], [.own (.slice none 0 0) 61 5 (opN (osB I V R F ts nt os no) (osD I)) (ints (osL I V R F ts nt os no))], Out.cell2 (cs := [.int .i64 0, .int .i64 0, .slice none 0 0]) rfl Tagg_29 rfl (Cells.blk (.tail _ (List.Mem.head _)) ⟨rfl, rfl, rfl, trivial⟩) rfl, (Some'.weak (.takeEq (by first | (rw [hno]; rfl) | (rw [osL, hno]; rfl) | (rw [hbe, ← hDe]; done) | (rw [osL, hbe, osC, ← hDe, ← hAe]; done)) (.nil _))), ?_⟩
      first | exact ⟨_, by rw [hno]; rfl, rfl⟩ | exact ⟨_, by rw [hbe, ← hDe], rfl⟩
    · have p21 := h21; try simp only [bs] at p21
      refine Run.skip ?_
      refine Run.seq ?_
      have hpf := psF_of (by assumption : psOk I V R F ts nt os no = true)
      have hfa := osF_of (V := V) hpf.hI ⟨hpf.hV, by omega⟩
      obtain ⟨D, hDe⟩ : ∃ D : Nat, D = osD I := ⟨_, rfl⟩
      obtain ⟨A, hAe⟩ : ∃ A : Nat, A = 2 ^ (I + V).toNat := ⟨_, rfl⟩
      have hbe := osB_yes (by assumption : psOk I V R F ts nt os no = true) (by omega)
      unfold osC at hbe
      rw [← hDe, ← hAe] at hfa hbe
      obtain ⟨hI, hV, hD1, hA1, hD, hA⟩ := hfa
      refine Run.region ?_
      refine Run.q (v := .pointer (some ⟨b1, 0, none⟩)) rfl (OpQ.y (OpY.fieldAddr Tfo_35_0 rfl rfl)) ?_
      refine Run.q (v := .int .i64 I) rfl (OpQ.y (OpY.load1 Tone_3 rfl (Cells.blk (.tail _ (List.Mem.head _)) ⟨rfl, trivial⟩))) ?_
      refine Run.q (v := .int .i64 (((D : Nat) : Int))) rfl (OpQ.y (OpY.shl (n := I.toNat) rfl rfl (by omega) (by omega) hD1 (by omega) (by omega))) ?_
      refine Run.step rfl (OpStep.alloc (zs := [.int .i64 0]) Tzero_3 fun b3 => ?_)
      refine Run.step rfl (OpStep.storeAll (us := [.int .i64 (((D : Nat) : Int))]) Tsize_3 rfl rfl rfl (.here _) rfl ?_)
      refine Run.done ?_
      refine Run.seq ?_
      refine Run.region ?_
      refine Run.q (v := .int .i64 (((D : Nat) : Int))) rfl (OpQ.y (OpY.load1 Tone_3 rfl (Cells.blk (.head _) ⟨rfl, trivial⟩))) ?_
      refine Run.q (v := .int .i64 (((D : Nat) : Int))) rfl (OpQ.y (OpY.load1 Tone_3 rfl (Cells.blk (.head _) ⟨rfl, trivial⟩))) ?_
      refine Run.q (v := .int .i64 (((D * D : Nat) : Int))) rfl (OpQ.y (OpY.mul rfl rfl (by push_cast; rfl) (by omega) (by omega))) ?_
      refine Run.step rfl (OpStep.makeSlice (n := D * D) Tsl_67 rfl (by decide) (by first | rfl | omega) (by first | rfl | omega) (by omega) (by simp only [maxLen]; omega) fun b4 => ?_)
      refine Run.step rfl (OpStep.alloc (zs := [.slice none 0 0]) Tzero_67 fun b5 => ?_)
      refine Run.step rfl (OpStep.storeAll (us := [.slice (some ⟨b4, 0, none⟩) (D * D) (D * D)]) Tsize_67 rfl rfl rfl (.here _) rfl ?_)
      refine Run.done ?_
      refine Run.seq ?_
      refine Run.seq ?_
      refine Run.region ?_
      refine Run.q (v := .pointer (some ⟨b1, 0, none⟩)) rfl (OpQ.y (OpY.fieldAddr Tfo_35_0 rfl rfl)) ?_
      refine Run.q (v := .int .i64 I) rfl (OpQ.y (OpY.load1 Tone_3 rfl (Cells.blk (.tail _ (.tail _ (.tail _ (.tail _ (List.Mem.head _))))) ⟨rfl, trivial⟩))) ?_
      refine Run.q (v := .pointer (some ⟨b1, 1, none⟩)) rfl (OpQ.y (OpY.fieldAddr Tfo_35_1 rfl rfl)) ?_
      refine Run.q (v := .int .i64 V) rfl (OpQ.y (OpY.load1 Tone_3 rfl (Cells.blk (.tail _ (.tail _ (.tail _ (.tail _ (List.Mem.head _))))) ⟨rfl, trivial⟩))) ?_
      refine Run.q (v := .int .i64 (I + V)) rfl (OpQ.y (OpY.add rfl rfl rfl (by omega) (by omega))) ?_
      refine Run.q (v := .int .i64 (((A : Nat) : Int))) rfl (OpQ.y (OpY.shl (n := (I + V).toNat) rfl rfl (by omega) (by omega) hA1 (by omega) (by omega))) ?_
      refine Run.q (v := .int .i64 0) rfl (OpQ.y (OpY.pure rfl)) ?_
      refine Run.done ?_
      refine Run.block ?_
      refine Run.loop (ι := Nat) [6, 7, 8, 9, 10, 36, 37, 38, 39, 40, 41, 42, 43, 44, 45, 46, 47, 48, 49, 50, 51, 52, 53, 54, 55, 56, 57, 58, 59, 60, 61, 62, 63, 64, 65, 66, 67, 68, 69, 70, 71] (fun a => [(36, .int .i64 (((a : Nat) : Int)))]) (fun a => [.blk b5 67 [.slice (some ⟨b4, 0, none⟩) (D * D) (D * D)], .own (.slice (some ⟨b4, 0, none⟩) (D * D) (D * D)) 70 8 (D * D) (ints (cnS (ocC I os no D) (ocP ts F nt) (D * D) a)), .blk b3 3 [.int .i64 (((D : Nat) : Int))], .blk b2 29 [.int .i64 0, .int .i64 0, .slice none 0 0], .blk b1 35 [.int .i64 I, .int .i64 V, .int .i64 R, .int .i64 F, vt, vo]]) (fun a => a ≤ A) (fun a => A - a) 0 ?_ ?_ ?_ ?_
      · exact Nat.zero_le _
      · exact ⟨rfl, trivial⟩
      · exact (Some'.weak (.take (.takeEq (by first | rfl | exact congrArg _ (repK _ 8)) (.take (.take (.take (.nil _)))))))
      · rintro a fr hinv
        show Run _ _ (over _ _ [(36, .int .i64 (((a : Nat) : Int)))] fr) [.blk b5 67 [.slice (some ⟨b4, 0, none⟩) (D * D) (D * D)], .own (.slice (some ⟨b4, 0, none⟩) (D * D) (D * D)) 70 8 (D * D) (ints (cnS (ocC I os no D) (ocP ts F nt) (D * D) a)), .blk b3 3 [.int .i64 (((D : Nat) : Int))], .blk b2 29 [.int .i64 0, .int .i64 0, .slice none 0 0], .blk b1 35 [.int .i64 I, .int .i64 V, .int .i64 R, .int .i64 F, vt, vo]]
        try dsimp only at hinv
        refine Run.seq ?_
        refine Run.region ?_
        refine Run.q (v := .bool (decide ((((a : Nat) : Int)) < (((A : Nat) : Int))))) rfl (OpQ.y (OpY.pure rfl)) ?_
        refine Run.done ?_
        refine Run.seq ?_
        refine Run.cond (b := decide ((((a : Nat) : Int)) < (((A : Nat) : Int)))) rfl (fun h37 => ?_) (fun h37 => ?_)
        · have p37 := h37; try simp only [bs] at p37
          have hoc := oc_spec hpf hDe a
          have hcn := cn_range (ci := ocC I os no D) (pi := ocP ts F nt) (n := D * D) a (ocC I os no D a * 8 + ocP ts F nt a)
          obtain ⟨sD, hsD⟩ : ∃ sD : Int, stS os a no * ((D : Nat) : Int) = sD := ⟨_, rfl⟩
          rw [hsD] at hoc
          have hcr := coS_range a I.toNat
          have hst := stS_range hpf a no (Nat.le_refl _)
          have hs0 : 0 ≤ sD := by rw [← hsD]; exact Int.mul_nonneg hst.1 (by omega)
          have hlen : (cnS (ocC I os no D) (ocP ts F nt) (D * D) a).length = D * D * 8 := cnS_length ..
          have hhave := hinv
          have ha : a < A := by omega
          refine Run.skip ?_
          refine Run.seq ?_
          refine Run.block ?_
          refine Run.seq ?_
          refine Run.region ?_
          refine Run.q (v := .int .i64 (((a : Nat) : Int))) rfl (OpQ.y (OpY.pure rfl)) ?_
          refine Run.q (v := .int .i64 (((a : Nat) : Int))) rfl (OpQ.y (OpY.pure rfl)) ?_
          refine Run.done ?_
          refine Run.seq ?_
          refine Run.region ?_
          refine Run.q (v := .int .i64 0) rfl (OpQ.y (OpY.pure rfl)) ?_
          refine Run.done ?_
          refine Run.seq ?_
          refine Run.seq ?_
          refine Run.region ?_
          refine Run.q (v := .pointer (some ⟨b1, 0, none⟩)) rfl (OpQ.y (OpY.fieldAddr Tfo_35_0 rfl rfl)) ?_
          refine Run.q (v := .int .i64 I) rfl (OpQ.y (OpY.load1 Tone_3 rfl (Cells.blk (.tail _ (.tail _ (.tail _ (.tail _ (List.Mem.head _))))) ⟨rfl, trivial⟩))) ?_
          refine Run.q (v := .int .i64 0) rfl (OpQ.y (OpY.pure rfl)) ?_
          refine Run.done ?_
          refine Run.block ?_
          refine Run.loop (ι := Nat) [7, 8, 41, 42, 43, 44, 45, 46, 47, 48, 49, 50, 51] (fun q => [(7, .int .i64 (coS a q)), (41, .int .i64 (((q : Nat) : Int)))]) (fun q => [.blk b5 67 [.slice (some ⟨b4, 0, none⟩) (D * D) (D * D)], .own (.slice (some ⟨b4, 0, none⟩) (D * D) (D * D)) 70 8 (D * D) (ints (cnS (ocC I os no D) (ocP ts F nt) (D * D) a)), .blk b3 3 [.int .i64 (((D : Nat) : Int))], .blk b2 29 [.int .i64 0, .int .i64 0, .slice none 0 0], .blk b1 35 [.int .i64 I, .int .i64 V, .int .i64 R, .int .i64 F, vt, vo]]) (fun q => q ≤ I.toNat) (fun q => I.toNat - q) 0 ?_ ?_ ?_ ?_
          · exact Nat.zero_le _
          · exact ⟨rfl, rfl, trivial⟩
          · exact (Some'.weak (.take (.take (.take (.take (.take (.nil _)))))))
          · rintro q fr hinv
            show Run _ _ (over _ _ [(7, .int .i64 (coS a q)), (41, .int .i64 (((q : Nat) : Int)))] fr) [.blk b5 67 [.slice (some ⟨b4, 0, none⟩) (D * D) (D * D)], .own (.slice (some ⟨b4, 0, none⟩) (D * D) (D * D)) 70 8 (D * D) (ints (cnS (ocC I os no D) (ocP ts F nt) (D * D) a)), .blk b3 3 [.int .i64 (((D : Nat) : Int))], .blk b2 29 [.int .i64 0, .int .i64 0, .slice none 0 0], .blk b1 35 [.int .i64 I, .int .i64 V, .int .i64 R, .int .i64 F, vt, vo]]
            try dsimp only at hinv
            refine Run.seq ?_
            refine Run.region ?_
            refine Run.q (v := .bool (decide ((((q : Nat) : Int)) < I))) rfl (OpQ.y (OpY.pure rfl)) ?_
            refine Run.done ?_
            refine Run.seq ?_
            refine Run.cond (b := decide ((((q : Nat) : Int)) < I)) rfl (fun h42 => ?_) (fun h42 => ?_)
            · have p42 := h42; try simp only [bs] at p42
              have hq : q < I.toNat := by omega
              have hcq := coS_range a q
              have hpq := pow_no (k := q) (by omega)
              refine Run.skip ?_
              refine Run.seq ?_
              refine Run.block ?_
              refine Run.seq ?_
              refine Run.region ?_
              refine Run.q (v := .int .i64 (((q : Nat) : Int))) rfl (OpQ.y (OpY.pure rfl)) ?_
              refine Run.q (v := .int .i64 (((q : Nat) : Int))) rfl (OpQ.y (OpY.pure rfl)) ?_
              refine Run.done ?_
              refine Run.region ?_
              refine Run.q (v := .int .i64 (coS a q)) rfl (OpQ.y (OpY.pure rfl)) ?_
              refine Run.q (v := .int .i64 (2 * (coS a q))) rfl (OpQ.y (OpY.mul rfl rfl (by first | rfl | grind) (by omega) (by omega))) ?_
              refine Run.q (v := .int .i64 (((a : Nat) : Int))) rfl (OpQ.y (OpY.pure rfl)) ?_
              refine Run.q (v := .int .i64 (((q : Nat) : Int))) rfl (OpQ.y (OpY.pure rfl)) ?_
              refine Run.q (v := .int .i64 ((((a : Nat) : Int)) >>> q)) rfl (OpQ.y (OpY.shr rfl rfl (by first | rfl | omega) (by omega))) ?_
              refine Run.q (v := .int .i64 (((((a : Nat) : Int)) >>> q) % 2)) rfl (OpQ.y (OpY.and1 rfl rfl)) ?_
              refine Run.q (v := .int .i64 ((2 * (coS a q)) + (((((a : Nat) : Int)) >>> q) % 2))) rfl (OpQ.y (OpY.add rfl rfl rfl (by omega) (by omega))) ?_
              refine Run.q (v := .int .i64 ((2 * (coS a q)) + (((((a : Nat) : Int)) >>> q) % 2))) rfl (OpQ.y (OpY.pure rfl)) ?_
              refine Run.done ?_
              refine Run.blockEnd ?_
              refine Run.region ?_
              refine Run.q (v := .int .i64 ((((q : Nat) : Int)) + 1)) rfl (OpQ.y (OpY.add rfl rfl rfl (by omega) (by omega))) ?_
              refine Run.q (v := .int .i64 ((((q : Nat) : Int)) + 1)) rfl (OpQ.y (OpY.pure rfl)) ?_
              refine Run.done ?_
              refine Run.goal ⟨(by repeat (first | exact Same.refl _ _ | refine Same.put rfl ?_ | refine Same.over rfl rfl ?_)), q + 1, ?_, ?_, ?_, ?_⟩
              · exact hq
              · omega
              · exact ⟨(by first | rfl | (congr 1; omega) | simp), (by first | rfl | (congr 1; omega) | simp), trivial⟩
              · exact (Some'.weak (.take (.takeEq (by first | rfl | simp) (.take (.take (.take (.nil _)))))))
            · have p42 := h42; try simp only [bs] at p42
              have hqI : q = I.toNat := by omega
              have hoc2 : sD + coS a q = (ocC I os no D a : Nat) := by rw [hqI]; exact hoc.1.2
              refine Run.exit rfl ?_
              refine Run.seq ?_
              refine Run.region ?_
              refine Run.q (v := .agg #[.int .i64 I, .int .i64 V, .int .i64 R, .int .i64 F, vt, vo]) rfl (OpQ.y (OpY.loadN (cs := [.int .i64 I, .int .i64 V, .int .i64 R, .int .i64 F, vt, vo]) Tagg_35 rfl (Cells.blk (.tail _ (.tail _ (.tail _ (.tail _ (List.Mem.head _))))) ⟨rfl, rfl, rfl, rfl, rfl, rfl, trivial⟩))) ?_
              refine Run.q (v := .int .i64 (((a : Nat) : Int))) rfl (OpQ.y (OpY.pure rfl)) ?_
              refine Run.q (v := .tuple #[.int .i64 (stS os a no), .int .i64 (pwS ts F a nt % 8)]) rfl (OpQ.call (vs := [.agg #[.int .i64 I, .int .i64 V, .int .i64 R, .int .i64 F, vt, vo], .int .i64 (((a : Nat) : Int))]) (caps := []) Tcall_27 rfl rfl (fun w hs => outcome_spec (by omega) hnt9 hpf (hs.sl ht) (hs.sl ho))) ?_
              refine Run.q (v := .tuple #[.int .i64 (stS os a no), .int .i64 (pwS ts F a nt % 8)]) rfl (OpQ.y (OpY.pure rfl)) ?_
              refine Run.q (v := .int .i64 (stS os a no)) rfl (OpQ.y (OpY.pure rfl)) ?_
              refine Run.q (v := .int .i64 (pwS ts F a nt % 8)) rfl (OpQ.y (OpY.pure rfl)) ?_
              refine Run.q (v := .int .i64 (stS os a no)) rfl (OpQ.y (OpY.pure rfl)) ?_
              refine Run.q (v := .int .i64 (pwS ts F a nt % 8)) rfl (OpQ.y (OpY.pure rfl)) ?_
              refine Run.done ?_
              refine Run.lastly [13] (by kernel_rfl) ?_
              refine DL.take (i := 0) (v := .slice (some ⟨b4, 0, none⟩) (D * D) (D * D)) rfl (by kernel_rfl) (by kernel_rfl) (by kernel_rfl) (by kernel_rfl) (fun _ _ _ h => h) (Some'.weak (.take (.take (.take (.take (.take (.nil _))))))) rfl (OpY.load1 Tone_67 rfl (Cells.blk (.head _) ⟨rfl, trivial⟩)) ?_
              refine DL.takeP (i := 1) (v := .int .i64 (stS os a no)) rfl (by kernel_rfl) (by kernel_rfl) (by kernel_rfl) (fun _ _ _ h => h) rfl (fun _ => OpY.pure rfl) ?_
              refine DL.take (i := 2) (v := .int .i64 (((D : Nat) : Int))) rfl (by kernel_rfl) (by kernel_rfl) (by kernel_rfl) (by kernel_rfl) (fun _ _ _ h => h) (Some'.weak (.take (.take (.take (.take (.take (.nil _))))))) rfl (OpY.load1 Tone_3 rfl (Cells.blk (.tail _ (.tail _ (List.Mem.head _))) ⟨rfl, trivial⟩)) ?_
              refine DL.takeP (i := 3) (v := .int .i64 sD) rfl (by kernel_rfl) (by kernel_rfl) (by kernel_rfl) (fun _ _ _ h => h) rfl (fun _ => OpY.mul rfl rfl hsD (by omega) (by omega)) ?_
              refine DL.takeP (i := 4) (v := .int .i64 (coS a q)) rfl (by kernel_rfl) (by kernel_rfl) (by kernel_rfl) (fun _ _ _ h => h) rfl (fun _ => OpY.pure rfl) ?_
              refine DL.takeP (i := 5) (v := .int .i64 (((ocC I os no D a : Nat) : Int))) rfl (by kernel_rfl) (by kernel_rfl) (by kernel_rfl) (fun _ _ _ h => h) rfl (fun _ => OpY.add rfl rfl hoc2 (by omega) (by omega)) ?_
              refine DL.takeP (i := 6) (v := .int .i64 (pwS ts F a nt % 8)) rfl (by kernel_rfl) (by kernel_rfl) (by kernel_rfl) (fun _ _ _ h => h) rfl (fun _ => OpY.pure rfl) ?_
              refine DL.takeP (i := 7) (v := .pointer (some ⟨b4, (ocC I os no D a) * 8, none⟩)) rfl (by kernel_rfl) (by kernel_rfl) (by kernel_rfl) (fun _ _ _ h => h) rfl (fun _ => OpY.index (kk := ocC I os no D a) Tsl_67 rfl rfl (by omega) (by omega) (by first | rfl | omega)) ?_
              refine DL.takeP (i := 8) (v := .pointer (some ⟨b4, (ocC I os no D a) * 8 + ocP ts F nt a, none⟩)) rfl (by kernel_rfl) (by kernel_rfl) (by kernel_rfl) (fun _ _ _ h => h) rfl (fun _ => OpY.indexArr (kk := ocP ts F nt a) Tarr_70 rfl rfl (by omega) (by omega) (by first | rfl | omega)) ?_
              refine DL.take (i := 9) (v := .int .i64 (ix (cnS (ocC I os no D) (ocP ts F nt) (D * D) a) ((ocC I os no D a) * 8 + ocP ts F nt a))) rfl (by kernel_rfl) (by kernel_rfl) (by kernel_rfl) (by kernel_rfl) (fun _ _ _ h => h) (Some'.weak (.take (.take (.take (.take (.take (.nil _))))))) rfl (OpY.load1 Tone_3 rfl (Cells.own0 (.tail _ (List.Mem.head _)) (pre1 (by omega)))) ?_
              refine DL.takeP (i := 10) (v := .int .i64 ((ix (cnS (ocC I os no D) (ocP ts F nt) (D * D) a) ((ocC I os no D a) * 8 + ocP ts F nt a)) + 1)) rfl (by kernel_rfl) (by kernel_rfl) (by kernel_rfl) (fun _ _ _ h => h) rfl (fun _ => OpY.add rfl rfl rfl (by omega) (by omega)) ?_
              refine DL.takeP (i := 11) (v := .pointer (some ⟨b4, (ocC I os no D a) * 8, none⟩)) rfl (by kernel_rfl) (by kernel_rfl) (by kernel_rfl) (fun _ _ _ h => h) rfl (fun _ => OpY.index (kk := ocC I os no D a) Tsl_67 rfl rfl (by omega) (by omega) (by first | rfl | omega)) ?_
              refine DL.takeP (i := 12) (v := .pointer (some ⟨b4, (ocC I os no D a) * 8 + ocP ts F nt a, none⟩)) rfl (by kernel_rfl) (by kernel_rfl) (by kernel_rfl) (fun _ _ _ h => h) rfl (fun _ => OpY.indexArr (kk := ocP ts F nt a) Tarr_70 rfl rfl (by omega) (by omega) (by first | rfl | omega)) ?_
              refine DL.step (i := 13) (by kernel_rfl) (by kernel_rfl) rfl rfl (OpStep.storeOwnInt (o := (ocC I os no D a) * 8 + ocP ts F nt a) (a := (ix (cnS (ocC I os no D) (ocP ts F nt) (D * D) a) ((ocC I os no D a) * 8 + ocP ts F nt a)) + 1) Tsize_3 rfl rfl (.there _ (.here _)) (by omega) ?_)
              refine DL.done (by kernel_rfl) ?_
              refine Run.blockEnd ?_
              refine Run.region ?_
              refine Run.q (v := .int .i64 ((((a : Nat) : Int)) + 1)) rfl (OpQ.y (OpY.add rfl rfl rfl (by omega) (by omega))) ?_
              refine Run.q (v := .int .i64 ((((a : Nat) : Int)) + 1)) rfl (OpQ.y (OpY.pure rfl)) ?_
              refine Run.done ?_
              refine Run.goal ⟨(by repeat (first | exact Same.refl _ _ | refine Same.put rfl ?_ | refine Same.over rfl rfl ?_)), a + 1, ?_, ?_, ?_, ?_⟩
              · exact ha
              · omega
              · exact ⟨(by first | rfl | (congr 1; omega) | simp), trivial⟩
              · exact (Some'.weak (.take (.takeEq (by first | rfl | exact congrArg _ (repK _ 8)) (.take (.take (.take (.nil _)))))))
        · have p37 := h37; try simp only [bs] at p37
          have haA : A = a := by omega
          rw [haA] at hbe hAe
          refine Run.exit rfl ?_
          refine Run.seq ?_
          refine Run.region ?_
          refine Run.q (v := .int .i64 (((D : Nat) : Int))) rfl (OpQ.y (OpY.load1 Tone_3 rfl (Cells.blk (.tail _ (.tail _ (List.Mem.head _))) ⟨rfl, trivial⟩))) ?_
          refine Run.q (v := .int .i64 (((D : Nat) : Int))) rfl (OpQ.y (OpY.load1 Tone_3 rfl (Cells.blk (.tail _ (.tail _ (List.Mem.head _))) ⟨rfl, trivial⟩))) ?_
          refine Run.q (v := .func (.func 29) #[] #[.pointer (some ⟨b5, 0, none⟩), .pointer (some ⟨b3, 0, none⟩), .pointer (some ⟨b1, 0, none⟩)]) rfl (OpQ.y (OpY.makeFunc (caps := [.pointer (some ⟨b5, 0, none⟩), .pointer (some ⟨b3, 0, none⟩), .pointer (some ⟨b1, 0, none⟩)]) rfl)) ?_
          refine Run.step rfl (OpStep.call (vs := [.int .i64 (((D : Nat) : Int)), .int .i64 (((D : Nat) : Int)), .func (.func 29) #[] #[.pointer (some ⟨b5, 0, none⟩), .pointer (some ⟨b3, 0, none⟩), .pointer (some ⟨b1, 0, none⟩)]]) (caps := []) Tcall_28 rfl rfl (fun w hs => matrixOf_spec (cs := cnS (ocC I os no D) (ocP ts F nt) (D * D) a) (hs.slBlk (.head _)) (hs.slBlk (.tail _ (.tail _ (List.Mem.head _)))) (hs.slBlk (.tail _ (.tail _ (.tail _ (.tail _ (List.Mem.head _)))))) (hs.slOwn (.tail _ (List.Mem.head _))) hpf.hR hD (fun j => by have := cn_range (ci := ocC I os no D) (pi := ocP ts F nt) (n := D * D) a j; omega) (fun c => cr_lim (by omega) c)) ?_)
          rintro _ _ ⟨u, rfl, rfl⟩
          show Run _ _ (putF _ _ _ (.tuple #[.agg #[.int .i64 (opD (mxB (cnS (ocC I os no D) (ocP ts F nt) (D * D) a) R (D * D)) D), .int .i64 (opD (mxB (cnS (ocC I os no D) (ocP ts F nt) (D * D) a) R (D * D)) D), u], .bool (mxB (cnS (ocC I os no D) (ocP ts F nt) (D * D) a) R (D * D))])) [.own u 61 5 (opN (mxB (cnS (ocC I os no D) (ocP ts F nt) (D * D) a) R (D * D)) D) (ints (opL (mxB (cnS (ocC I os no D) (ocP ts F nt) (D * D) a) R (D * D)) (cnS (ocC I os no D) (ocP ts F nt) (D * D) a) R D)), .blk b5 67 [.slice (some ⟨b4, 0, none⟩) (D * D) (D * D)], .own (.slice (some ⟨b4, 0, none⟩) (D * D) (D * D)) 70 8 (D * D) (ints (cnS (ocC I os no D) (ocP ts F nt) (D * D) a)), .blk b3 3 [.int .i64 (((D : Nat) : Int))], .blk b2 29 [.int .i64 0, .int .i64 0, .slice none 0 0], .blk b1 35 [.int .i64 I, .int .i64 V, .int .i64 R, .int .i64 F, vt, vo]]
          refine Run.q (v := .agg #[.int .i64 (opD (mxB (cnS (ocC I os no D) (ocP ts F nt) (D * D) a) R (D * D)) D), .int .i64 (opD (mxB (cnS (ocC I os no D) (ocP ts F nt) (D * D) a) R (D * D)) D), u]) rfl (OpQ.y (OpY.pure rfl)) ?_
          refine Run.q (v := .bool (mxB (cnS (ocC I os no D) (ocP ts F nt) (D * D) a) R (D * D))) rfl (OpQ.y (OpY.pure rfl)) ?_
          refine Run.formOwn (.head _) (fun A_u1 c_u1 hv hcapc_u1 hmaxc_u1 => ?_) (fun _ _ _ => ⟨nofun, nofun, nofun⟩)
          subst hv
          refine Run.step rfl (OpStep.storeAll (us := [.int .i64 (opD (mxB (cnS (ocC I os no D) (ocP ts F nt) (D * D) a) R (D * D)) D), .int .i64 (opD (mxB (cnS (ocC I os no D) (ocP ts F nt) (D * D) a) R (D * D)) D), .slice A_u1 (opN (mxB (cnS (ocC I os no D) (ocP ts F nt) (D * D) a) R (D * D)) D) c_u1]) Tsize_29 rfl rfl rfl (.there _ (.there _ (.there _ (.there _ (.here _))))) rfl ?_)
          refine Run.q (v := .bool (mxB (cnS (ocC I os no D) (ocP ts F nt) (D * D) a) R (D * D))) rfl (OpQ.y (OpY.pure rfl)) ?_
          refine Run.done ?_
          refine Run.ret ?_
          refine ⟨.tuple #[.agg #[.int .i64 (opD (mxB (cnS (ocC I os no D) (ocP ts F nt) (D * D) a) R (D * D)) D), .int .i64 (opD (mxB (cnS (ocC I os no D) (ocP ts F nt) (D * D) a) R (D * D)) D), .slice A_u1 (opN (mxB (cnS (ocC I os no D) (ocP ts F nt) (D * D) a) R (D * D)) D) c_u1], .bool (mxB (cnS (ocC I os no D) (ocP ts F nt) (D * D) a) R (D * D))], [.own (.slice A_u1 (opN (mxB (cnS (ocC I os no D) (ocP ts F nt) (D * D) a) R (D * D)) D) c_u1) 61 5 (opN (osB I V R F ts nt os no) (osD I)) (ints (osL I V R F ts nt os no))], Out.cell2 (cs := [.int .i64 (opD (mxB (cnS (ocC I os no D) (ocP ts F nt) (D * D) a) R (D * D)) D), .int .i64 (opD (mxB (cnS (ocC I os no D) (ocP ts F nt) (D * D) a) R (D * D)) D), .slice A_u1 (opN (mxB (cnS (ocC I os no D) (ocP ts F nt) (D * D) a) R (D * D)) D) c_u1]) rfl Tagg_29 rfl (Cells.blk (.tail _ (.tail _ (.tail _ (.tail _ (List.Mem.head _))))) ⟨rfl, rfl, rfl, trivial⟩) rfl, (Some'.weak (.takeEq (by first | (rw [hno]; rfl) | (rw [osL, hno]; rfl) | (rw [hbe, ← hDe]; done) | (rw [osL, hbe, osC, ← hDe, ← hAe]; done)) (.nil _))), ?_⟩
          first | exact ⟨_, by rw [hno]; rfl, rfl⟩ | exact ⟨_, by rw [hbe, ← hDe], rfl⟩

end Go.Proofs.Ytadobifnhcafpaa
