/- Walks: gates in the order of Foata, of program and reference. -/
import Derived.Test.YtbepibalnnbmgaaFo
import Derived.Test.YtbepibalnnbmgaaProg
set_option linter.unusedSimpArgs false
set_option linter.unusedVariables false
namespace Go.Proofs.Ytbepibalnnbmgaa
open Go Go.RowKit
namespace FpT
theorem Tagg_30 : aggOf Try.prog 30 = some 2 := by kernel_rfl
theorem Tagg_47 : aggOf Try.prog 47 = some 3 := by kernel_rfl
theorem Tcall_15 : callable Try.prog 15 = true := by kernel_rfl
theorem Tcall_17 : callable Try.prog 17 = true := by kernel_rfl
theorem Tcall_21 : callable Try.prog 21 = true := by kernel_rfl
theorem Tcall_22 : callable Try.prog 22 = true := by kernel_rfl
theorem Tcall_23 : callable Try.prog 23 = true := by kernel_rfl
theorem Tcall_29 : callable Try.prog 29 = true := by kernel_rfl
theorem Tcall_30 : callable Try.prog 30 = true := by kernel_rfl
theorem Tfo_30_0 : fieldOff Try.prog 30 0 = some 0 := by kernel_rfl
theorem Tfo_30_1 : fieldOff Try.prog 30 1 = some 1 := by kernel_rfl
theorem Tfo_47_1 : fieldOff Try.prog 47 1 = some 1 := by kernel_rfl
theorem Tone_28 : oneOf Try.prog 28 = true := by kernel_rfl
theorem Tone_3 : oneOf Try.prog 3 = true := by kernel_rfl
theorem Tsize_28 : (Try.prog.info? 28).map (·.size) = some 1 := by kernel_rfl
theorem Tsize_3 : (Try.prog.info? 3).map (·.size) = some 1 := by kernel_rfl
theorem Tsize_30 : (Try.prog.info? 30).map (·.size) = some 2 := by kernel_rfl
theorem Tsize_43 : (Try.prog.info? 43).map (·.size) = some 1 := by kernel_rfl
theorem Tsize_47 : (Try.prog.info? 47).map (·.size) = some 3 := by kernel_rfl
theorem Tsl_28 : sliceOf Try.prog 28 = some (47, 3, 24, [.int .i64 0, .int .i64 0, .int .i64 0]) := by kernel_rfl
theorem Tsl_43 : sliceOf Try.prog 43 = some (3, 1, 8, [.int .i64 0]) := by kernel_rfl
theorem Tzero_30 : zeroOf Try.prog 30 = some [.int .i64 0, .slice none 0 0] := by kernel_rfl
theorem Tzero_43 : zeroOf Try.prog 43 = some [.slice none 0 0] := by kernel_rfl
theorem Tzero_47 : zeroOf Try.prog 47 = some [.int .i64 0, .int .i64 0, .int .i64 0] := by kernel_rfl
end FpT
open FpT

theorem fits_of {N : Int} {xs : List Int} {n : Nat} (h : circOk N xs n = true) : Fits (deepL incL xs n) xs n := by
  have hN := circOk_N h
  have hn := circOk_n h
  refine ⟨by simp, fun i hi => ?_⟩
  have h1 := dep_nonneg (fun k => (incL_range k).1) xs i
  have h2 := (bst_le (fun k => (incL_range k).2) xs i).2.2
  have h3 := gateOk_split (circOk_gate h hi)
  rw [ix_deepL hi]
  omega
def foN (N : Int) (xs : List Int) (n : Nat) : Int := if circOk N xs n then N else 0
def foM (N : Int) (xs : List Int) (n : Nat) : Nat := if circOk N xs n then n else 0
noncomputable def foR (N : Int) (xs : List Int) (n : Nat) : List Int := if circOk N xs n then foL (deepL incL xs n) xs n else []
theorem foM_le (N : Int) (xs : List Int) (n : Nat) : foM N xs n ≤ 400 := by
  unfold foM; split
  · rename_i h; exact circOk_n h
  · omega
theorem ix_snocL {xs : List Int} {x : Int} {i : Nat} (h : i < xs.length) : ix (xs ++ [x]) i = ix xs i := by simp only [ix, List.getD, List.getElem?_append_left h]
theorem ix_snocR {xs : List Int} {x : Int} : ix (xs ++ [x]) xs.length = x := by simp [ix, List.getD]
/-- The list o with i behind it, in which the places behind k have been put one place on. -/
def hol (o : List Int) (i k : Nat) : List Int := (rot (o ++ [(i : Int)]) k i (i + 1)).set k (ix (o ++ [(i : Int)]) k)
theorem hol_length {o : List Int} {i k : Nat} (hl : o.length = i) (hk : k ≤ i) : (hol o i k).length = i + 1 := by
  rw [hol, List.length_set, rot_length hk (by omega) (by simp [hl])]; simp [hl]
theorem ix_hol {o : List Int} {i k j : Nat} (hl : o.length = i) (hk : k ≤ i) (hj : j ≤ i) : ix (hol o i k) j = if j ≤ k then ix (o ++ [(i : Int)]) j else ix (o ++ [(i : Int)]) (j - 1) := by
  have hL : (o ++ [(i : Int)]).length = i + 1 := by simp [hl]
  rw [hol, ix_set (by rw [rot_length hk (by omega) (by omega)]; omega), ix_rot hk (by omega) (by omega) j (by omega)]
  repeat' split
  all_goals first | (exfalso; omega) | rfl | (congr 1 <;> omega)
theorem hol_top {o : List Int} {i : Nat} (hl : o.length = i) : hol o i i = o ++ [(i : Int)] := by
  refine ext_ix (by simp [hol_length hl (Nat.le_refl i), hl]) fun j hj => ?_
  rw [hol_length hl (Nat.le_refl i)] at hj
  rw [ix_hol hl (Nat.le_refl i) (by omega), if_pos (by omega)]
theorem hol_step {o : List Int} {i k : Nat} (hl : o.length = i) (h0 : 0 < k) (hk : k ≤ i) : (hol o i k).set k (ix (hol o i k) (k - 1)) = hol o i (k - 1) := by
  refine ext_ix (by rw [List.length_set, hol_length hl hk, hol_length hl (by omega)]) fun j hj => ?_
  rw [List.length_set, hol_length hl hk] at hj
  rw [ix_set (by rw [hol_length hl hk]; omega), ix_hol hl hk (by omega), ix_hol hl hk (by omega), ix_hol hl (by omega) (by omega)]
  repeat' split
  all_goals first | (exfalso; omega) | rfl | (congr 1 <;> omega)
theorem hol_done {o : List Int} {i k : Nat} (hl : o.length = i) (hk : k ≤ i) : (hol o i k).set k (i : Int) = rot (o ++ [(i : Int)]) k i (i + 1) := by
  have hL : (o ++ [(i : Int)]).length = i + 1 := by simp [hl]
  have hi : ix (o ++ [(i : Int)]) i = (i : Int) := by rw [← hl, ix_snocR]
  refine ext_ix (by rw [List.length_set, hol_length hl hk, rot_length hk (by omega) (by omega), hL]) fun j hj => ?_
  rw [List.length_set, hol_length hl hk] at hj
  rw [ix_set (by rw [hol_length hl hk]; omega), ix_hol hl hk (by omega), ix_rot hk (by omega) (by omega) j (by omega)]
  repeat' split
  all_goals first | (exfalso; omega) | rfl | (congr 1 <;> omega) | (rw [show j - k + i = i by omega, hi])
/-- The number by which the reference sorts. -/
def kyB (bs : List Int) (x : Int) : Int := ix bs x.toNat
theorem ins_ref {bs o : List Int} {i k : Nat} (hp : o.Perm (mks 0 i)) (hs : SrtT (kyB bs) o 0 i) (hk : k ≤ i) (hlo : k = 0 ∨ ¬ ix bs i < kyB bs (ix o (k - 1))) (hhi : ∀ h, k ≤ h → h < i → ix bs i < kyB bs (ix o h)) :
    (rot (o ++ [(i : Int)]) k i (i + 1)).Perm (mks 0 (i + 1)) ∧ SrtT (kyB bs) (rot (o ++ [(i : Int)]) k i (i + 1)) 0 (i + 1) := by
  have hr := inR_perm hp
  have hL : (o ++ [(i : Int)]).length = i + 1 := by simp [hr.1]
  have hi : ix (o ++ [(i : Int)]) i = (i : Int) := by have := hr.1; rw [← this, ix_snocR]
  have hx : ∀ h, h < i → ix (o ++ [(i : Int)]) h = ix o h := fun h hh => ix_snocL (by have := hr.1; omega)
  have hki : kyB bs (i : Int) = ix bs i := by simp [kyB]
  refine ⟨?_, ?_⟩
  · refine (rot_perm hk (by omega) (by omega)).trans ?_
    have : mks 0 i ++ [(i : Int)] = mks 0 (i + 1) := by simp [mks, List.range_succ]
    rw [← this]; exact hp.append_right _
  · refine ins_right rfl (Nat.zero_le k) hk (by omega) (hs.keep fun h _ hh => hx h hh) ?_ ?_ ?_
    · intro p q _ h1 h2 h3
      obtain rfl : q = i := by omega
      rw [hx p h1, hi]; exact (hr.2 p h1).2
    · intro h _ hh
      rw [hi, hx h (by omega), hki]
      rcases hlo with e | e
      · omega
      · have := hs.le (p := h) (q := k - 1) (Nat.zero_le _) (by omega) (by omega); omega
    · intro h e1 e2
      rw [hi, hx h e2, hki]; exact hhi h e1 e2
/-- The numbers of the reference, of which the first i are ready. -/
def fkP (ks xs : List Int) (n i : Nat) : List Int := (List.range n).map fun j => if j < i then fkey ks xs (j : Nat) else ix ks j
@[simp] theorem fkP_length (ks xs : List Int) (n i : Nat) : (fkP ks xs n i).length = n := by simp [fkP]
theorem ix_fkP {ks xs : List Int} {n i j : Nat} (h : j < n) : ix (fkP ks xs n i) j = if j < i then fkey ks xs (j : Nat) else ix ks j := by
  simp [fkP, ix, List.getD, h]
theorem fkP_zero {ks xs : List Int} {n : Nat} (h : ks.length = n) : fkP ks xs n 0 = ks := by
  refine ext_ix (by simp [h]) fun j hj => ?_
  rw [ix_fkP (by simpa using hj), if_neg (by omega)]
theorem fkP_set {ks xs : List Int} {n i : Nat} : (fkP ks xs n i).set i (ix ks i * 5 + ix xs (i * 3 + 1)) = fkP ks xs n (i + 1) := by
  refine ext_ix (by simp) fun j hj => ?_
  simp only [List.length_set, fkP_length] at hj
  rw [ix_set (by simpa using hj), ix_fkP hj, ix_fkP hj]
  repeat' split
  all_goals first | (exfalso; omega) | rfl | (subst_vars; simp [fkey])
theorem ord_ref {ks xs ys : List Int} {n : Nat} (hp : ys.Perm (mks 0 n)) (hs : SrtT (kyB (fkP ks xs n n)) ys 0 n) : ys = ordF (fkey ks xs) n := by
  refine ordF_eq hp (srt_congr (inR_perm hp) (fun x h0 h1 => ?_) hs)
  rw [kyB, ix_fkP (by omega), if_pos (by omega), show ((x.toNat : Nat) : Int) = x by omega]

set_option maxHeartbeats 1000000 in
set_option maxRecDepth 20000 in
theorem FoataOf_spec {N : Int} {va : Value} {n : Nat} {xs : List Int} {w : World} (ha : Sl w va 3 n (ints xs)) : Calls Try.prog 11 #[.agg #[.int .i64 N, va]] w (Post No w fun v H => ∃ u, v = .tuple #[.agg #[.int .i64 (foN N xs n), u], .bool (circOk N xs n)] ∧ H = [.own u 47 3 (foM N xs n) (ints (foR N xs n))]) := by
  have hxl := ha.len
  have hn := ha.le
  obtain ⟨A, c, rfl, _, _⟩ := ha.form0
  have hi1 := incL_range
  refine enter (n := 14) (args := [.agg #[.int .i64 N, .slice A n c]]) Try.func11 rfl rfl (St.empty _ _) ?_
  refine Run.seq ?_
  refine Run.region ?_
  refine Run.step rfl (OpStep.box (us := [.int .i64 N, .slice A n c]) rfl fun b1 => ?_)
  refine Run.step rfl (OpStep.alloc (zs := [.int .i64 0, .slice none 0 0]) Tzero_30 fun b2 => ?_)
  refine Run.q (v := .bool false) rfl (OpQ.y (OpY.pure rfl)) ?_
  refine Run.done ?_
  refine Run.seq ?_
  refine Run.seq ?_
  refine Run.region ?_
  refine Run.q (v := .agg #[.int .i64 N, .slice A n c]) rfl (OpQ.y (OpY.loadN (cs := [.int .i64 N, .slice A n c]) Tagg_30 rfl (Cells.blk (.tail _ (List.Mem.head _)) ⟨rfl, rfl, trivial⟩))) ?_
  refine Run.q (v := .bool (circOk N xs n)) rfl (OpQ.call (vs := [.agg #[.int .i64 N, .slice A n c]]) (caps := []) Tcall_21 rfl rfl (fun w hs => IsValidCircuit_spec (hs.sl ha))) ?_
  refine Run.q (v := .bool (!(circOk N xs n))) rfl (OpQ.y (OpY.pure rfl)) ?_
  refine Run.done ?_
  refine Run.cond (b := !(circOk N xs n)) rfl (fun h7 => ?_) (fun h7 => ?_)
  · have p7 := h7; try simp only [decide_eq_true_eq, decide_eq_false_iff_not, beq_iff_eq, bne_iff_ne, beq_eq_false_iff_ne, ne_eq, gt_iff_lt, ge_iff_le, Int.not_lt, Int.not_le, bne_eq_false_iff_eq, Bool.not_eq_true', Bool.not_eq_false', Bool.and_eq_true, Bool.and_eq_false_iff, Bool.or_eq_true, Bool.or_eq_false_iff, Decidable.not_not, List.cons.injEq, and_true] at p7
    have hok : circOk N xs n = false := by simpa using p7
    have e1 : foN N xs n = 0 := by rw [foN, hok]; rfl
    have e2 : foM N xs n = 0 := by rw [foM, hok]; rfl
    have e3 : foR N xs n = [] := by rw [foR, hok]; rfl
    refine Run.seq ?_
    refine Run.region ?_
    refine Run.q (v := .agg #[.int .i64 0, .slice none 0 0]) rfl (OpQ.y (OpY.build (cs := [.int .i64 0, .slice none 0 0]) (by kernel_rfl))) ?_
    refine Run.step rfl (OpStep.storeAll (us := [.int .i64 0, .slice none 0 0]) Tsize_30 rfl rfl rfl (.here _) rfl ?_)
    refine Run.q (v := .bool false) rfl (OpQ.y (OpY.pure rfl)) ?_
    refine Run.done ?_
    refine Run.ret ?_
    refine ⟨.tuple #[.agg #[.int .i64 0, .slice none 0 0], .bool false], [.own (.slice none 0 0) 47 3 (foM N xs n) (ints (foR N xs n))], Out.cell2 (cs := [.int .i64 0, .slice none 0 0]) rfl Tagg_30 rfl (Cells.blk (.head _) ⟨rfl, rfl, trivial⟩) rfl, ((Weak.nilOwn 47 3).trans (Some'.weak (.takeEq (by rw [e2, e3]; first | done | rfl) (.nil _)))), ?_⟩
    exact ⟨_, by rw [e1, hok], rfl⟩
  · have p7 := h7; try simp only [decide_eq_true_eq, decide_eq_false_iff_not, beq_iff_eq, bne_iff_ne, beq_eq_false_iff_ne, ne_eq, gt_iff_lt, ge_iff_le, Int.not_lt, Int.not_le, bne_eq_false_iff_eq, Bool.not_eq_true', Bool.not_eq_false', Bool.and_eq_true, Bool.and_eq_false_iff, Bool.or_eq_true, Bool.or_eq_false_iff, Decidable.not_not, List.cons.injEq, and_true] at p7
    have hok : circOk N xs n = true := by simpa using p7
    have hn4 := circOk_n hok
    have e1 : foN N xs n = N := by rw [foN, hok]; rfl
    have e2 : foM N xs n = n := by rw [foM, hok]; rfl
    have e3 : foR N xs n = foL (deepL incL xs n) xs n := by rw [foR, hok]; rfl
    refine Run.skip ?_
    refine Run.seq ?_
    refine Run.region ?_
    refine Run.q (v := .agg #[.int .i64 N, .slice A n c]) rfl (OpQ.y (OpY.loadN (cs := [.int .i64 N, .slice A n c]) Tagg_30 rfl (Cells.blk (.tail _ (List.Mem.head _)) ⟨rfl, rfl, trivial⟩))) ?_
    refine Run.step rfl (OpStep.call (vs := [.agg #[.int .i64 N, .slice A n c]]) (caps := []) Tcall_22 rfl rfl (fun w hs => layers_spec hok (hs.sl ha)) ?_)
    rintro u _ rfl
    show Run _ _ (putF _ _ _ u) [.own u 3 1 n (ints (deepL incL xs n)), .blk b2 30 [.int .i64 0, .slice none 0 0], .blk b1 30 [.int .i64 N, .slice A n c]]
    refine Run.step rfl (OpStep.alloc (zs := [.slice none 0 0]) Tzero_43 fun b3 => ?_)
    refine Run.formOwn (.tail _ (List.Mem.head _)) (fun A_u1 c_u1 hv hcapc_u1 hmaxc_u1 => ?_) (fun _ _ _ => ⟨nofun, nofun, nofun⟩)
    subst hv
    refine Run.step rfl (OpStep.storeAll (us := [.slice A_u1 n c_u1]) Tsize_43 rfl rfl rfl (.here _) rfl ?_)
    refine Run.done ?_
    refine Run.seq ?_
    refine Run.region ?_
    refine Run.q (v := .agg #[.int .i64 N, .slice A n c]) rfl (OpQ.y (OpY.loadN (cs := [.int .i64 N, .slice A n c]) Tagg_30 rfl (Cells.blk (.tail _ (.tail _ (.tail _ (List.Mem.head _)))) ⟨rfl, rfl, trivial⟩))) ?_
    refine Run.q (v := .func (.func 24) #[] #[.pointer (some ⟨b3, 0, none⟩), .pointer (some ⟨b1, 0, none⟩)]) rfl (OpQ.y (OpY.makeFunc (caps := [.pointer (some ⟨b3, 0, none⟩), .pointer (some ⟨b1, 0, none⟩)]) rfl)) ?_
    refine Run.step rfl (OpStep.call (vs := [.agg #[.int .i64 N, .slice A n c], .func (.func 24) #[] #[.pointer (some ⟨b3, 0, none⟩), .pointer (some ⟨b1, 0, none⟩)]]) (caps := []) Tcall_23 rfl rfl (fun w hs => sortedBy_spec (by omega) (fits_of hok) (hs.slBlk (.head _)) (hs.slBlk (.tail _ (.tail _ (.tail _ (List.Mem.head _))))) (hs.slOwn (.tail _ (List.Mem.head _))) (hs.sl ha)) ?_)
    rintro _ _ ⟨u2, rfl, rfl⟩
    show Run _ _ (putF _ _ _ (.agg #[.int .i64 N, u2])) [.own u2 47 3 n (ints (foL (deepL incL xs n) xs n)), .blk b3 43 [.slice A_u1 n c_u1], .own (.slice A_u1 n c_u1) 3 1 n (ints (deepL incL xs n)), .blk b2 30 [.int .i64 0, .slice none 0 0], .blk b1 30 [.int .i64 N, .slice A n c]]
    refine Run.formOwn (.head _) (fun A_u21 c_u21 hv hcapc_u21 hmaxc_u21 => ?_) (fun _ _ _ => ⟨nofun, nofun, nofun⟩)
    subst hv
    refine Run.step rfl (OpStep.storeAll (us := [.int .i64 N, .slice A_u21 n c_u21]) Tsize_30 rfl rfl rfl (.there _ (.there _ (.there _ (.here _)))) rfl ?_)
    refine Run.q (v := .bool true) rfl (OpQ.y (OpY.pure rfl)) ?_
    refine Run.done ?_
    refine Run.ret ?_
    refine ⟨.tuple #[.agg #[.int .i64 N, .slice A_u21 n c_u21], .bool true], [.own (.slice A_u21 n c_u21) 47 3 (foM N xs n) (ints (foR N xs n))], Out.cell2 (cs := [.int .i64 N, .slice A_u21 n c_u21]) rfl Tagg_30 rfl (Cells.blk (.tail _ (.tail _ (.tail _ (List.Mem.head _)))) ⟨rfl, rfl, trivial⟩) rfl, (Some'.weak (.takeEq (by rw [e2, e3]; first | done | rfl) (.nil _))), ?_⟩
    exact ⟨_, by rw [e1, hok], rfl⟩

set_option maxHeartbeats 2000000 in
set_option maxRecDepth 20000 in
theorem l24Sort_spec {N : Int} {va vb : Value} {n : Nat} {xs bs : List Int} {w : World} (hn : n ≤ 1000000) (ha : Sl w va 3 n (ints xs)) (hb : Sl w vb 1 n (ints bs)) : Calls Try.prog 30 #[.agg #[.int .i64 N, va], vb] w (Post No w fun v H => ∃ u ys, (ys.Perm (mks 0 n) ∧ SrtT (kyB bs) ys 0 n) ∧ v = .agg #[.int .i64 N, u] ∧ H = [.own u 47 3 n (ints (p3 xs ys))]) := by
  have hal := ha.len
  have hbl := hb.len
  obtain ⟨A, c, rfl, _, _⟩ := ha.form0
  obtain ⟨Ab, cb, rfl, _, _⟩ := hb.form0
  refine enter (n := 84) (args := [.agg #[.int .i64 N, .slice A n c], .slice Ab n cb]) Try.func30 rfl rfl (St.empty _ _) ?_
  refine Run.seq ?_
  refine Run.region ?_
  refine Run.step rfl (OpStep.box (us := [.int .i64 N, .slice A n c]) rfl fun b1 => ?_)
  refine Run.step rfl (OpStep.alloc (zs := [.int .i64 0, .slice none 0 0]) Tzero_30 fun b2 => ?_)
  refine Run.done ?_
  refine Run.seq ?_
  refine Run.region ?_
  refine Run.q (v := .pointer (some ⟨b1, 0, none⟩)) rfl (OpQ.y (OpY.fieldAddr Tfo_30_0 rfl rfl)) ?_
  refine Run.q (v := .int .i64 N) rfl (OpQ.y (OpY.load1 Tone_3 rfl (Cells.blk (.tail _ (List.Mem.head _)) ⟨rfl, trivial⟩))) ?_
  refine Run.q (v := .agg #[.int .i64 N, .slice none 0 0]) rfl (OpQ.y (OpY.build (cs := [.int .i64 N, .slice none 0 0]) (by kernel_rfl))) ?_
  refine Run.step rfl (OpStep.alloc (zs := [.int .i64 0, .slice none 0 0]) Tzero_30 fun b3 => ?_)
  refine Run.step rfl (OpStep.storeAll (us := [.int .i64 N, .slice none 0 0]) Tsize_30 rfl rfl rfl (.here _) rfl ?_)
  refine Run.done ?_
  refine Run.seq ?_
  refine Run.region ?_
  refine Run.q (v := .slice none 0 0) rfl (OpQ.y (OpY.pure rfl)) ?_
  refine Run.done ?_
  refine Run.seq ?_
  refine Run.seq ?_
  refine Run.region ?_
  refine Run.q (v := .pointer (some ⟨b1, 1, none⟩)) rfl (OpQ.y (OpY.fieldAddr Tfo_30_1 rfl rfl)) ?_
  refine Run.q (v := .slice A n c) rfl (OpQ.y (OpY.load1 Tone_28 rfl (Cells.blk (.tail _ (.tail _ (List.Mem.head _))) ⟨rfl, trivial⟩))) ?_
  refine Run.q (v := .int .i64 (((n : Nat) : Int))) rfl (OpQ.y (OpY.len Tsl_28 rfl)) ?_
  refine Run.q (v := .int .i64 0) rfl (OpQ.y (OpY.pure rfl)) ?_
  refine Run.done ?_
  refine Run.block ?_
  refine Run.weak (H' := [.own (.slice none 0 0) 47 3 0 ([]), .blk b3 30 [.int .i64 N, .slice none 0 0], .blk b2 30 [.int .i64 0, .slice none 0 0], .blk b1 30 [.int .i64 N, .slice A n c]]) (Weak.nilOwn _ _) ?_ ⟨_, _, rfl, fun _ => nofun, fun _ => nofun⟩
  refine Run.weak (H' := [.own (.slice none 0 0) 3 1 0 ([]), .own (.slice none 0 0) 47 3 0 ([]), .blk b3 30 [.int .i64 N, .slice none 0 0], .blk b2 30 [.int .i64 0, .slice none 0 0], .blk b1 30 [.int .i64 N, .slice A n c]]) (Weak.nilOwn _ _) ?_ ⟨_, _, rfl, fun _ => nofun, fun _ => nofun⟩
  refine Run.loop (ι := Nat × List Int × Value × Value) ([6, 7, 8, 9, 16, 17, 18, 19, 20, 21, 22, 23, 24, 25, 26, 27, 28, 29, 30, 31, 32, 33, 34, 35, 36, 37, 38, 39, 40, 41, 42, 43, 44, 45, 46, 47, 48, 49, 50, 51, 52, 53, 54, 55, 56, 57, 58, 59, 60, 61] ++ [62, 63, 64, 65, 66, 67, 68, 69, 70, 71, 72, 73, 74, 75, 76, 77, 78, 79, 80, 81, 82]) (fun ⟨i, o, vk, vo⟩ => [(6, vk), (16, .int .i64 (((i : Nat) : Int)))]) (fun ⟨i, o, vk, vo⟩ => [.own vk 3 1 i (ints (pk bs o)), .own vo 47 3 i (ints (p3 xs o)), .blk b3 30 [.int .i64 N, vo], .blk b2 30 [.int .i64 0, .slice none 0 0], .blk b1 30 [.int .i64 N, .slice A n c]]) (fun ⟨i, o, vk, vo⟩ => i ≤ n ∧ o.Perm (mks 0 i) ∧ SrtT (kyB bs) o 0 i) (fun ⟨i, o, vk, vo⟩ => n - i) (0, [], .slice none 0 0, .slice none 0 0) ?_ ?_ ?_ ?_
  · exact ⟨Nat.zero_le _, List.Perm.refl _, SrtT.nil (by omega)⟩
  · exact ⟨rfl, rfl, trivial⟩
  · exact (Some'.weak (.takeEq (by first | rfl | (rw [hDk]; done) | (rw [hDg]; done) | simp) (.takeEq (by first | rfl | (rw [hDk]; done) | (rw [hDg]; done) | simp) (.takeEq (by first | rfl | (rw [hDk]; done) | (rw [hDg]; done) | simp) (.take (.take (.nil _)))))))
  · rintro ⟨i, o, vk, vo⟩ fr hinv
    show Run _ _ (over _ _ [(6, vk), (16, .int .i64 (((i : Nat) : Int)))] fr) [.own vk 3 1 i (ints (pk bs o)), .own vo 47 3 i (ints (p3 xs o)), .blk b3 30 [.int .i64 N, vo], .blk b2 30 [.int .i64 0, .slice none 0 0], .blk b1 30 [.int .i64 N, .slice A n c]]
    try dsimp only at hinv
    refine Run.seq ?_
    refine Run.region ?_
    refine Run.q (v := .bool (decide ((((i : Nat) : Int)) < (((n : Nat) : Int))))) rfl (OpQ.y (OpY.pure rfl)) ?_
    refine Run.done ?_
    refine Run.seq ?_
    refine Run.cond (b := decide ((((i : Nat) : Int)) < (((n : Nat) : Int)))) rfl (fun h17 => ?_) (fun h17 => ?_)
    · have p17 := h17; try simp only [decide_eq_true_eq, decide_eq_false_iff_not, beq_iff_eq, bne_iff_ne, beq_eq_false_iff_ne, ne_eq, gt_iff_lt, ge_iff_le, Int.not_lt, Int.not_le, bne_eq_false_iff_eq, Bool.not_eq_true', Bool.not_eq_false', Bool.and_eq_true, Bool.and_eq_false_iff, Bool.or_eq_true, Bool.or_eq_false_iff, Decidable.not_not, List.cons.injEq, and_true] at p17
      have hin : i < n := by omega
      have hol1 : o.length = i := (inR_perm hinv.2.1).1
      obtain ⟨b, o_, rfl⟩ := ha.opn (by omega)
      obtain ⟨bb, ob, rfl⟩ := hb.opn (by omega)
      refine Run.skip ?_
      refine Run.seq ?_
      refine Run.block ?_
      refine Run.seq ?_
      refine Run.region ?_
      refine Run.q (v := .int .i64 (((i : Nat) : Int))) rfl (OpQ.y (OpY.pure rfl)) ?_
      refine Run.q (v := .pointer (some ⟨b, o_ + i * 3, none⟩)) rfl (OpQ.y (OpY.index (kk := i) Tsl_28 rfl rfl (by omega) (by omega) (by first | rfl | omega))) ?_
      refine Run.q (v := .agg #[.int .i64 (ix xs (i * 3)), .int .i64 (ix xs (i * 3 + 1)), .int .i64 (ix xs (i * 3 + 2))]) rfl (OpQ.y (OpY.loadN (cs := [.int .i64 (ix xs (i * 3)), .int .i64 (ix xs (i * 3 + 1)), .int .i64 (ix xs (i * 3 + 2))]) Tagg_47 rfl (Cells.arg (k := i * 3) ha rfl (by omega) (pre3 (by omega))))) ?_
      refine Run.step rfl (OpStep.alloc (zs := [.int .i64 0, .int .i64 0, .int .i64 0]) Tzero_47 fun b4 => ?_)
      refine Run.q (v := .int .i64 (((i : Nat) : Int))) rfl (OpQ.y (OpY.pure rfl)) ?_
      refine Run.step rfl (OpStep.storeAll (us := [.int .i64 (ix xs (i * 3)), .int .i64 (ix xs (i * 3 + 1)), .int .i64 (ix xs (i * 3 + 2))]) Tsize_47 rfl rfl rfl (.here _) rfl ?_)
      refine Run.done ?_
      refine Run.seq ?_
      refine Run.region ?_
      refine Run.q (v := vk) rfl (OpQ.y (OpY.pure rfl)) ?_
      refine Run.formOwn (.tail _ (List.Mem.head _)) (fun A_vk1 c_vk1 hv hcapc_vk1 hmaxc_vk1 => ?_) (fun _ _ _ => ⟨nofun, nofun, nofun⟩)
      subst hv
      refine Run.q (v := .int .i64 (((i : Nat) : Int))) rfl (OpQ.y (OpY.len Tsl_43 rfl)) ?_
      refine Run.q (v := .int .i64 (((i : Nat) : Int))) rfl (OpQ.y (OpY.pure rfl)) ?_
      refine Run.done ?_
      refine Run.seq ?_
      refine Run.region ?_
      refine Run.q (v := .slice A_vk1 i c_vk1) rfl (OpQ.y (OpY.pure rfl)) ?_
      refine Run.q (v := .slice (some ⟨bb, ob, none⟩) n cb) rfl (OpQ.y (OpY.pure rfl)) ?_
      refine Run.q (v := .int .i64 (((i : Nat) : Int))) rfl (OpQ.y (OpY.pure rfl)) ?_
      refine Run.q (v := .pointer (some ⟨bb, ob + i, none⟩)) rfl (OpQ.y (OpY.index (kk := i) Tsl_43 rfl rfl (by omega) (by omega) (by first | rfl | omega))) ?_
      refine Run.q (v := .int .i64 (ix bs (i))) rfl (OpQ.y (OpY.load1 Tone_3 rfl (Cells.arg (k := i) hb rfl (by omega) (pre1 (by omega))))) ?_
      refine Run.step rfl (OpStep.buildSlice (us := [.int .i64 (ix bs (i))]) Tsl_43 (by decide) (by decide) ⟨rfl, [.int .i64 (ix bs (i))], _, rfl, rfl, rfl, rfl⟩ rfl fun b5 => ?_)
      refine Run.step rfl (OpStep.append (H1 := [.own (.slice (some ⟨b5, 0, none⟩) 1 1) 3 1 1 ([.int .i64 (ix bs (i))]), .blk b4 47 [.int .i64 (ix xs (i * 3)), .int .i64 (ix xs (i * 3 + 1)), .int .i64 (ix xs (i * 3 + 2))]]) (H2 := [.own vo 47 3 i (ints (p3 xs o)), .blk b3 30 [.int .i64 N, vo], .blk b2 30 [.int .i64 0, .slice none 0 0], .blk b1 30 [.int .i64 N, .slice (some ⟨b, o_, none⟩) n c]]) (v := .slice A_vk1 i c_vk1) (u := .slice (some ⟨b5, 0, none⟩) 1 1) (n := i) (m := 1) (xs := ints (pk bs o)) (ys := [.int .i64 (ix bs (i))]) Tsl_43 (by decide) rfl rfl rfl rfl (fun w hs => hs.slOwn (.head _)) (by simp [Value.oneCell']) (by omega) (by simp only [maxLen]; omega) fun av1 hnav1 => ?_)
      refine Run.weak (H' := [.own (.slice (some ⟨b5, 0, none⟩) 1 1) 3 1 1 ([.int .i64 (ix bs (i))]), .blk b4 47 [.int .i64 (ix xs (i * 3)), .int .i64 (ix xs (i * 3 + 1)), .int .i64 (ix xs (i * 3 + 2))], .own av1 3 1 (i + 1) (ints (pk bs (o ++ [(i : Int)]))), .own vo 47 3 i (ints (p3 xs o)), .blk b3 30 [.int .i64 N, vo], .blk b2 30 [.int .i64 0, .slice none 0 0], .blk b1 30 [.int .i64 N, .slice (some ⟨b, o_, none⟩) n c]]) (Some'.weak (.take (.take (.takeEq (by rw [pk_snoc, ints_append]; rfl) (.take (.take (.take (.take (.nil _))))))))) ?_ ⟨_, _, rfl, fun _ => nofun, fun _ => nofun⟩
      refine Run.q (v := av1) rfl (OpQ.y (OpY.pure rfl)) ?_
      refine Run.done ?_
      refine Run.seq ?_
      refine Run.region ?_
      refine Run.q (v := .pointer (some ⟨b3, 1, none⟩)) rfl (OpQ.y (OpY.fieldAddr Tfo_30_1 rfl rfl)) ?_
      refine Run.q (v := vo) rfl (OpQ.y (OpY.load1 Tone_28 rfl (Cells.blk (.tail _ (.tail _ (.tail _ (.tail _ (List.Mem.head _))))) ⟨rfl, trivial⟩))) ?_
      refine Run.q (v := .agg #[.int .i64 (ix xs (i * 3)), .int .i64 (ix xs (i * 3 + 1)), .int .i64 (ix xs (i * 3 + 2))]) rfl (OpQ.y (OpY.loadN (cs := [.int .i64 (ix xs (i * 3)), .int .i64 (ix xs (i * 3 + 1)), .int .i64 (ix xs (i * 3 + 2))]) Tagg_47 rfl (Cells.blk (.tail _ (List.Mem.head _)) ⟨rfl, rfl, rfl, trivial⟩))) ?_
      refine Run.step rfl (OpStep.buildSlice (us := [.int .i64 (ix xs (i * 3)), .int .i64 (ix xs (i * 3 + 1)), .int .i64 (ix xs (i * 3 + 2))]) Tsl_28 (by decide) (by decide) ⟨rfl, [.int .i64 (ix xs (i * 3)), .int .i64 (ix xs (i * 3 + 1)), .int .i64 (ix xs (i * 3 + 2))], _, rfl, rfl, rfl, rfl⟩ rfl fun b6 => ?_)
      refine Run.step rfl (OpStep.append (H1 := [.own (.slice (some ⟨b6, 0, none⟩) 1 1) 47 3 1 ([.int .i64 (ix xs (i * 3)), .int .i64 (ix xs (i * 3 + 1)), .int .i64 (ix xs (i * 3 + 2))]), .own (.slice (some ⟨b5, 0, none⟩) 1 1) 3 1 1 ([.int .i64 (ix bs (i))]), .blk b4 47 [.int .i64 (ix xs (i * 3)), .int .i64 (ix xs (i * 3 + 1)), .int .i64 (ix xs (i * 3 + 2))], .own av1 3 1 (i + 1) (ints (pk bs (o ++ [(i : Int)])))]) (H2 := [.blk b3 30 [.int .i64 N, vo], .blk b2 30 [.int .i64 0, .slice none 0 0], .blk b1 30 [.int .i64 N, .slice (some ⟨b, o_, none⟩) n c]]) (v := vo) (u := .slice (some ⟨b6, 0, none⟩) 1 1) (n := i) (m := 1) (xs := ints (p3 xs o)) (ys := [.int .i64 (ix xs (i * 3)), .int .i64 (ix xs (i * 3 + 1)), .int .i64 (ix xs (i * 3 + 2))]) Tsl_28 (by decide) rfl rfl rfl rfl (fun w hs => hs.slOwn (.head _)) (by simp [Value.oneCell']) (by omega) (by simp only [maxLen]; omega) fun av2 hnav2 => ?_)
      refine Run.weak (H' := [.own (.slice (some ⟨b6, 0, none⟩) 1 1) 47 3 1 ([.int .i64 (ix xs (i * 3)), .int .i64 (ix xs (i * 3 + 1)), .int .i64 (ix xs (i * 3 + 2))]), .own (.slice (some ⟨b5, 0, none⟩) 1 1) 3 1 1 ([.int .i64 (ix bs (i))]), .blk b4 47 [.int .i64 (ix xs (i * 3)), .int .i64 (ix xs (i * 3 + 1)), .int .i64 (ix xs (i * 3 + 2))], .own av1 3 1 (i + 1) (ints (pk bs (o ++ [(i : Int)]))), .own av2 47 3 (i + 1) (ints (p3 xs (o ++ [(i : Int)]))), .blk b3 30 [.int .i64 N, vo], .blk b2 30 [.int .i64 0, .slice none 0 0], .blk b1 30 [.int .i64 N, .slice (some ⟨b, o_, none⟩) n c]]) (Some'.weak (.take (.take (.take (.take (.takeEq (by rw [p3_append, ints_append]; simp [p3, ints]) (.take (.take (.take (.nil _)))))))))) ?_ ⟨_, _, rfl, fun _ => nofun, fun _ => nofun⟩
      refine Run.q (v := .pointer (some ⟨b3, 1, none⟩)) rfl (OpQ.y (OpY.fieldAddr Tfo_30_1 rfl rfl)) ?_
      refine Run.formOwn (.tail _ (.tail _ (.tail _ (.tail _ (List.Mem.head _))))) (fun A_av21 c_av21 hv hcapc_av21 hmaxc_av21 => ?_) (fun _ _ _ => ⟨nofun, nofun, nofun⟩)
      subst hv
      refine Run.step rfl (OpStep.store (us := [.slice A_av21 (i + 1) c_av21]) Tsize_28 rfl rfl rfl (.there _ (.there _ (.there _ (.there _ (.there _ (.here _)))))) (by simp only [List.length_cons, List.length_nil]; omega) ?_)
      show Run _ _ _ [.own (.slice (some ⟨b6, 0, none⟩) 1 1) 47 3 1 ([.int .i64 (ix xs (i * 3)), .int .i64 (ix xs (i * 3 + 1)), .int .i64 (ix xs (i * 3 + 2))]), .own (.slice (some ⟨b5, 0, none⟩) 1 1) 3 1 1 ([.int .i64 (ix bs (i))]), .blk b4 47 [.int .i64 (ix xs (i * 3)), .int .i64 (ix xs (i * 3 + 1)), .int .i64 (ix xs (i * 3 + 2))], .own av1 3 1 (i + 1) (ints (pk bs (o ++ [(i : Int)]))), .own (.slice A_av21 (i + 1) c_av21) 47 3 (i + 1) (ints (p3 xs (o ++ [(i : Int)]))), .blk b3 30 [.int .i64 N, .slice A_av21 (i + 1) c_av21], .blk b2 30 [.int .i64 0, .slice none 0 0], .blk b1 30 [.int .i64 N, .slice (some ⟨b, o_, none⟩) n c]]
      refine Run.done ?_
      refine Run.openOwn (.tail _ (.tail _ (.tail _ (List.Mem.head _)))) (by omega) (fun gk ck hvgk hcapgk _ => ?_) (fun _ _ _ => ⟨nofun, nofun, nofun⟩)
      subst hvgk
      refine Run.openOwn (.tail _ (.tail _ (.tail _ (.tail _ (List.Mem.head _))))) (by omega) (fun gg cgg hvgg hcapgg _ => ?_) (fun _ _ _ => ⟨nofun, nofun, nofun⟩)
      injection hvgg with hAgg _ hcgg; subst hAgg; subst hcgg
      refine Run.seq ?_
      refine Run.block ?_
      have hinv1 := hinv
      refine Run.loop (ι := Nat) [9, 36, 37, 38, 39, 40, 41, 42, 43, 44, 45, 46, 47, 48, 49, 50, 51, 52, 53, 54, 55, 56, 57, 58, 59, 60, 61, 62, 63, 64, 65, 66, 67, 68, 69] (fun k => [(9, .int .i64 (((k : Nat) : Int)))]) (fun k => [.own (.slice (some ⟨gk, 0, none⟩) (i + 1) ck) 3 1 (i + 1) (ints (pk bs (hol o i k))), .own (.slice (some ⟨gg, 0, none⟩) (i + 1) c_av21) 47 3 (i + 1) (ints (p3 xs (hol o i k))), .blk b4 47 [.int .i64 (ix xs (i * 3)), .int .i64 (ix xs (i * 3 + 1)), .int .i64 (ix xs (i * 3 + 2))], .blk b3 30 [.int .i64 N, .slice (some ⟨gg, 0, none⟩) (i + 1) c_av21], .blk b2 30 [.int .i64 0, .slice none 0 0], .blk b1 30 [.int .i64 N, .slice (some ⟨b, o_, none⟩) n c]]) (fun k => k ≤ i ∧ ∀ h, k ≤ h → h < i → ix bs i < kyB bs (ix o h)) (fun k => k) i ?_ ?_ ?_ ?_
      · exact ⟨Nat.le_refl _, fun h _ _ => by omega⟩
      · exact ⟨rfl, trivial⟩
      · exact (((((((Weak.front [.own (.slice (some ⟨b6, 0, none⟩) 1 1) 47 3 1 ([.int .i64 (ix xs (i * 3)), .int .i64 (ix xs (i * 3 + 1)), .int .i64 (ix xs (i * 3 + 2))]), .own (.slice (some ⟨b5, 0, none⟩) 1 1) 3 1 1 ([.int .i64 (ix bs (i))]), .blk b4 47 [.int .i64 (ix xs (i * 3)), .int .i64 (ix xs (i * 3 + 1)), .int .i64 (ix xs (i * 3 + 2))], .own (.slice (some ⟨gk, 0, none⟩) (i + 1) ck) 3 1 (i + 1) (ints (pk bs (o ++ [(i : Int)]))), .own (.slice (some ⟨gg, 0, none⟩) (i + 1) c_av21) 47 3 (i + 1) (ints (p3 xs (o ++ [(i : Int)]))), .blk b3 30 [.int .i64 N, .slice (some ⟨gg, 0, none⟩) (i + 1) c_av21], .blk b2 30 [.int .i64 0, .slice none 0 0]] (.blk b1 30 [.int .i64 N, .slice (some ⟨b, o_, none⟩) n c]) []).trans (Weak.front [.blk b1 30 [.int .i64 N, .slice (some ⟨b, o_, none⟩) n c], .own (.slice (some ⟨b6, 0, none⟩) 1 1) 47 3 1 ([.int .i64 (ix xs (i * 3)), .int .i64 (ix xs (i * 3 + 1)), .int .i64 (ix xs (i * 3 + 2))]), .own (.slice (some ⟨b5, 0, none⟩) 1 1) 3 1 1 ([.int .i64 (ix bs (i))]), .blk b4 47 [.int .i64 (ix xs (i * 3)), .int .i64 (ix xs (i * 3 + 1)), .int .i64 (ix xs (i * 3 + 2))], .own (.slice (some ⟨gk, 0, none⟩) (i + 1) ck) 3 1 (i + 1) (ints (pk bs (o ++ [(i : Int)]))), .own (.slice (some ⟨gg, 0, none⟩) (i + 1) c_av21) 47 3 (i + 1) (ints (p3 xs (o ++ [(i : Int)]))), .blk b3 30 [.int .i64 N, .slice (some ⟨gg, 0, none⟩) (i + 1) c_av21]] (.blk b2 30 [.int .i64 0, .slice none 0 0]) [])).trans (Weak.front [.blk b2 30 [.int .i64 0, .slice none 0 0], .blk b1 30 [.int .i64 N, .slice (some ⟨b, o_, none⟩) n c], .own (.slice (some ⟨b6, 0, none⟩) 1 1) 47 3 1 ([.int .i64 (ix xs (i * 3)), .int .i64 (ix xs (i * 3 + 1)), .int .i64 (ix xs (i * 3 + 2))]), .own (.slice (some ⟨b5, 0, none⟩) 1 1) 3 1 1 ([.int .i64 (ix bs (i))]), .blk b4 47 [.int .i64 (ix xs (i * 3)), .int .i64 (ix xs (i * 3 + 1)), .int .i64 (ix xs (i * 3 + 2))], .own (.slice (some ⟨gk, 0, none⟩) (i + 1) ck) 3 1 (i + 1) (ints (pk bs (o ++ [(i : Int)]))), .own (.slice (some ⟨gg, 0, none⟩) (i + 1) c_av21) 47 3 (i + 1) (ints (p3 xs (o ++ [(i : Int)])))] (.blk b3 30 [.int .i64 N, .slice (some ⟨gg, 0, none⟩) (i + 1) c_av21]) [])).trans (Weak.front [.blk b3 30 [.int .i64 N, .slice (some ⟨gg, 0, none⟩) (i + 1) c_av21], .blk b2 30 [.int .i64 0, .slice none 0 0], .blk b1 30 [.int .i64 N, .slice (some ⟨b, o_, none⟩) n c], .own (.slice (some ⟨b6, 0, none⟩) 1 1) 47 3 1 ([.int .i64 (ix xs (i * 3)), .int .i64 (ix xs (i * 3 + 1)), .int .i64 (ix xs (i * 3 + 2))]), .own (.slice (some ⟨b5, 0, none⟩) 1 1) 3 1 1 ([.int .i64 (ix bs (i))])] (.blk b4 47 [.int .i64 (ix xs (i * 3)), .int .i64 (ix xs (i * 3 + 1)), .int .i64 (ix xs (i * 3 + 2))]) [.own (.slice (some ⟨gk, 0, none⟩) (i + 1) ck) 3 1 (i + 1) (ints (pk bs (o ++ [(i : Int)]))), .own (.slice (some ⟨gg, 0, none⟩) (i + 1) c_av21) 47 3 (i + 1) (ints (p3 xs (o ++ [(i : Int)])))])).trans (Weak.front [.blk b4 47 [.int .i64 (ix xs (i * 3)), .int .i64 (ix xs (i * 3 + 1)), .int .i64 (ix xs (i * 3 + 2))], .blk b3 30 [.int .i64 N, .slice (some ⟨gg, 0, none⟩) (i + 1) c_av21], .blk b2 30 [.int .i64 0, .slice none 0 0], .blk b1 30 [.int .i64 N, .slice (some ⟨b, o_, none⟩) n c], .own (.slice (some ⟨b6, 0, none⟩) 1 1) 47 3 1 ([.int .i64 (ix xs (i * 3)), .int .i64 (ix xs (i * 3 + 1)), .int .i64 (ix xs (i * 3 + 2))]), .own (.slice (some ⟨b5, 0, none⟩) 1 1) 3 1 1 ([.int .i64 (ix bs (i))]), .own (.slice (some ⟨gk, 0, none⟩) (i + 1) ck) 3 1 (i + 1) (ints (pk bs (o ++ [(i : Int)])))] (.own (.slice (some ⟨gg, 0, none⟩) (i + 1) c_av21) 47 3 (i + 1) (ints (p3 xs (o ++ [(i : Int)])))) [])).trans (Weak.front [.own (.slice (some ⟨gg, 0, none⟩) (i + 1) c_av21) 47 3 (i + 1) (ints (p3 xs (o ++ [(i : Int)]))), .blk b4 47 [.int .i64 (ix xs (i * 3)), .int .i64 (ix xs (i * 3 + 1)), .int .i64 (ix xs (i * 3 + 2))], .blk b3 30 [.int .i64 N, .slice (some ⟨gg, 0, none⟩) (i + 1) c_av21], .blk b2 30 [.int .i64 0, .slice none 0 0], .blk b1 30 [.int .i64 N, .slice (some ⟨b, o_, none⟩) n c], .own (.slice (some ⟨b6, 0, none⟩) 1 1) 47 3 1 ([.int .i64 (ix xs (i * 3)), .int .i64 (ix xs (i * 3 + 1)), .int .i64 (ix xs (i * 3 + 2))]), .own (.slice (some ⟨b5, 0, none⟩) 1 1) 3 1 1 ([.int .i64 (ix bs (i))])] (.own (.slice (some ⟨gk, 0, none⟩) (i + 1) ck) 3 1 (i + 1) (ints (pk bs (o ++ [(i : Int)])))) [])).trans (Some'.weak (.takeEq (by first | rfl | (rw [hol_top hol1]; done) | (rw [hHk]; done) | (rw [hHg]; done)) (.takeEq (by first | rfl | (rw [hol_top hol1]; done) | (rw [hHk]; done) | (rw [hHg]; done)) (.take (.take (.take (.take (.nil _)))))))))
      · rintro k fr hinv
        show Run _ _ (over _ _ [(9, .int .i64 (((k : Nat) : Int)))] fr) [.own (.slice (some ⟨gk, 0, none⟩) (i + 1) ck) 3 1 (i + 1) (ints (pk bs (hol o i k))), .own (.slice (some ⟨gg, 0, none⟩) (i + 1) c_av21) 47 3 (i + 1) (ints (p3 xs (hol o i k))), .blk b4 47 [.int .i64 (ix xs (i * 3)), .int .i64 (ix xs (i * 3 + 1)), .int .i64 (ix xs (i * 3 + 2))], .blk b3 30 [.int .i64 N, .slice (some ⟨gg, 0, none⟩) (i + 1) c_av21], .blk b2 30 [.int .i64 0, .slice none 0 0], .blk b1 30 [.int .i64 N, .slice (some ⟨b, o_, none⟩) n c]]
        try dsimp only at hinv
        refine Run.seq ?_
        refine Run.seq ?_
        refine Run.draws (by kernel_rfl) (by kernel_rfl) ?_
        refine Lex.q (v := .int .i64 (((k : Nat) : Int))) rfl (OpQ.y (OpY.pure rfl)) ?_
        refine Lex.q (v := .bool (decide ((((k : Nat) : Int)) > 0))) rfl (OpQ.y (OpY.pure rfl)) ?_
        rcases Bool.eq_false_or_eq_true (decide ((((k : Nat) : Int)) > 0)) with h38 | h38
        · refine Lex.q (v := .bool true) rfl (OpQ.y (OpY.moveB rfl h38)) ?_
          have p38 := h38; try simp only [decide_eq_true_eq, decide_eq_false_iff_not, beq_iff_eq, bne_iff_ne, beq_eq_false_iff_ne, ne_eq, gt_iff_lt, ge_iff_le, Int.not_lt, Int.not_le, bne_eq_false_iff_eq, Bool.not_eq_true', Bool.not_eq_false', Bool.and_eq_true, Bool.and_eq_false_iff, Bool.or_eq_true, Bool.or_eq_false_iff, Decidable.not_not, List.cons.injEq, and_true] at p38
          have hk0 : 0 < k := by omega
          have hhl := hol_length hol1 hinv.1
          refine Lex.q (v := .slice (some ⟨gk, 0, none⟩) (i + 1) ck) rfl (OpQ.y (OpY.pure rfl)) ?_
          refine Lex.q (v := .int .i64 (((k : Nat) : Int))) rfl (OpQ.y (OpY.pure rfl)) ?_
          refine Lex.q (v := .int .i64 (((k - 1 : Nat) : Int))) rfl (OpQ.y (OpY.sub rfl rfl (by omega) (by omega) (by omega))) ?_
          refine Lex.q (v := .pointer (some ⟨gk, k - 1, none⟩)) rfl (OpQ.y (OpY.index (kk := k - 1) Tsl_43 rfl rfl (by omega) (by omega) (by first | rfl | omega))) ?_
          refine Lex.q (v := .int .i64 (ix (pk bs (hol o i k)) (k - 1))) rfl (OpQ.y (OpY.load1 Tone_3 rfl (Cells.own0 (.head _) (pre1 (by first | omega | (simp; omega)))))) ?_
          refine Lex.q (v := .slice (some ⟨bb, ob, none⟩) n cb) rfl (OpQ.y (OpY.pure rfl)) ?_
          refine Lex.q (v := .int .i64 (((i : Nat) : Int))) rfl (OpQ.y (OpY.pure rfl)) ?_
          refine Lex.q (v := .pointer (some ⟨bb, ob + i, none⟩)) rfl (OpQ.y (OpY.index (kk := i) Tsl_43 rfl rfl (by omega) (by omega) (by first | rfl | omega))) ?_
          refine Lex.q (v := .int .i64 (ix bs (i))) rfl (OpQ.y (OpY.load1 Tone_3 rfl (Cells.arg (k := i) hb rfl (by omega) (pre1 (by omega))))) ?_
          refine Lex.q (v := .bool (decide ((ix (pk bs (hol o i k)) (k - 1)) > (ix bs (i))))) rfl (OpQ.y (OpY.pure rfl)) ?_
          refine Lex.q (v := .bool (decide ((ix (pk bs (hol o i k)) (k - 1)) > (ix bs (i))))) rfl (OpQ.y (OpY.pure rfl)) ?_
          refine Lex.done ?_
          refine Run.cond (b := decide ((ix (pk bs (hol o i k)) (k - 1)) > (ix bs (i)))) rfl (fun h49 => ?_) (fun h49 => ?_)
          · have p49 := h49; try simp only [decide_eq_true_eq, decide_eq_false_iff_not, beq_iff_eq, bne_iff_ne, beq_eq_false_iff_ne, ne_eq, gt_iff_lt, ge_iff_le, Int.not_lt, Int.not_le, bne_eq_false_iff_eq, Bool.not_eq_true', Bool.not_eq_false', Bool.and_eq_true, Bool.and_eq_false_iff, Bool.or_eq_true, Bool.or_eq_false_iff, Decidable.not_not, List.cons.injEq, and_true] at p49
            have hxk : ix (pk bs (hol o i k)) (k - 1) = kyB bs (ix o (k - 1)) := by rw [ix_pk (by omega), ix_hol hol1 hinv.1 (by omega), if_pos (by omega), ix_snocL (by omega)]; rfl
            have hgt : ix bs i < kyB bs (ix o (k - 1)) := by rw [← hxk]; omega
            have hHk : (pk bs (hol o i k)).set k (ix (pk bs (hol o i k)) (k - 1)) = pk bs (hol o i (k - 1)) := by rw [ix_pk (by omega), pk_set, hol_step hol1 hk0 hinv.1]
            have hHg : (((p3 xs (hol o i k)).set (k * 3) (ix (p3 xs (hol o i k)) ((k - 1) * 3))).set (k * 3 + 1) (ix (p3 xs (hol o i k)) ((k - 1) * 3 + 1))).set (k * 3 + 2) (ix (p3 xs (hol o i k)) ((k - 1) * 3 + 2)) = p3 xs (hol o i (k - 1)) := by
              have h0 := ix_p3 (xs := xs) (j := 0) (by decide) (o := hol o i k) (k := k - 1) (by omega)
              rw [Nat.add_zero, Nat.add_zero] at h0
              rw [h0, ix_p3 (by decide) (by omega), ix_p3 (by decide) (by omega), p3_set (by omega), hol_step hol1 hk0 hinv.1]
            refine Run.skip ?_
            refine Run.block ?_
            refine Run.seq ?_
            refine Run.region ?_
            refine Run.q (v := .slice (some ⟨gk, 0, none⟩) (i + 1) ck) rfl (OpQ.y (OpY.pure rfl)) ?_
            refine Run.q (v := .int .i64 (((k : Nat) : Int))) rfl (OpQ.y (OpY.pure rfl)) ?_
            refine Run.q (v := .slice (some ⟨gk, 0, none⟩) (i + 1) ck) rfl (OpQ.y (OpY.pure rfl)) ?_
            refine Run.q (v := .int .i64 (((k : Nat) : Int))) rfl (OpQ.y (OpY.pure rfl)) ?_
            refine Run.q (v := .int .i64 (((k - 1 : Nat) : Int))) rfl (OpQ.y (OpY.sub rfl rfl (by omega) (by omega) (by omega))) ?_
            refine Run.q (v := .pointer (some ⟨gk, k - 1, none⟩)) rfl (OpQ.y (OpY.index (kk := k - 1) Tsl_43 rfl rfl (by omega) (by omega) (by first | rfl | omega))) ?_
            refine Run.q (v := .int .i64 (ix (pk bs (hol o i k)) (k - 1))) rfl (OpQ.y (OpY.load1 Tone_3 rfl (Cells.own0 (.head _) (pre1 (by first | omega | (simp; omega)))))) ?_
            refine Run.q (v := .pointer (some ⟨gk, k, none⟩)) rfl (OpQ.y (OpY.index (kk := k) Tsl_43 rfl rfl (by omega) (by omega) (by first | rfl | omega))) ?_
            refine Run.step rfl (OpStep.storeOwnInt (o := k) (a := ix (pk bs (hol o i k)) (k - 1)) Tsize_3 rfl rfl (.here _) (by first | omega | (simp; omega)) ?_)
            refine Run.done ?_
            refine Run.seq ?_
            refine Run.lastly [10] (by kernel_rfl) ?_
            refine DL.takeP (i := 0) (v := .pointer (some ⟨b3, 1, none⟩)) rfl (by kernel_rfl) (by kernel_rfl) (by kernel_rfl) (fun _ _ _ h => h) rfl (fun _ => OpY.fieldAddr Tfo_30_1 rfl rfl) ?_
            refine DL.take (i := 1) (v := .slice (some ⟨gg, 0, none⟩) (i + 1) c_av21) rfl (by kernel_rfl) (by kernel_rfl) (by kernel_rfl) (by kernel_rfl) (fun _ _ _ h => h) (Some'.weak (.take (.take (.take (.take (.take (.take (.nil _)))))))) rfl (OpY.load1 Tone_28 rfl (Cells.blk (.tail _ (.tail _ (.tail _ (List.Mem.head _)))) ⟨rfl, trivial⟩)) ?_
            refine DL.takeP (i := 2) (v := .int .i64 (((k : Nat) : Int))) rfl (by kernel_rfl) (by kernel_rfl) (by kernel_rfl) (fun _ _ _ h => h) rfl (fun _ => OpY.pure rfl) ?_
            refine DL.takeP (i := 3) (v := .pointer (some ⟨b3, 1, none⟩)) rfl (by kernel_rfl) (by kernel_rfl) (by kernel_rfl) (fun _ _ _ h => h) rfl (fun _ => OpY.fieldAddr Tfo_30_1 rfl rfl) ?_
            refine DL.take (i := 4) (v := .slice (some ⟨gg, 0, none⟩) (i + 1) c_av21) rfl (by kernel_rfl) (by kernel_rfl) (by kernel_rfl) (by kernel_rfl) (fun _ _ _ h => h) (Some'.weak (.take (.take (.take (.take (.take (.take (.nil _)))))))) rfl (OpY.load1 Tone_28 rfl (Cells.blk (.tail _ (.tail _ (.tail _ (List.Mem.head _)))) ⟨rfl, trivial⟩)) ?_
            refine DL.takeP (i := 5) (v := .int .i64 (((k : Nat) : Int))) rfl (by kernel_rfl) (by kernel_rfl) (by kernel_rfl) (fun _ _ _ h => h) rfl (fun _ => OpY.pure rfl) ?_
            refine DL.takeP (i := 6) (v := .int .i64 (((k - 1 : Nat) : Int))) rfl (by kernel_rfl) (by kernel_rfl) (by kernel_rfl) (fun _ _ _ h => h) rfl (fun _ => OpY.sub rfl rfl (by omega) (by omega) (by omega)) ?_
            refine DL.takeP (i := 7) (v := .pointer (some ⟨gg, (k - 1) * 3, none⟩)) rfl (by kernel_rfl) (by kernel_rfl) (by kernel_rfl) (fun _ _ _ h => h) rfl (fun _ => OpY.index (kk := k - 1) Tsl_28 rfl rfl (by omega) (by omega) (by first | rfl | omega)) ?_
            refine DL.take (i := 8) (v := .agg #[.int .i64 (ix (p3 xs (hol o i k)) ((k - 1) * 3)), .int .i64 (ix (p3 xs (hol o i k)) ((k - 1) * 3 + 1)), .int .i64 (ix (p3 xs (hol o i k)) ((k - 1) * 3 + 2))]) rfl (by kernel_rfl) (by kernel_rfl) (by kernel_rfl) (by kernel_rfl) (fun _ _ _ h => h) (Some'.weak (.take (.take (.take (.take (.take (.take (.nil _)))))))) rfl (OpY.loadN (cs := [.int .i64 (ix (p3 xs (hol o i k)) ((k - 1) * 3)), .int .i64 (ix (p3 xs (hol o i k)) ((k - 1) * 3 + 1)), .int .i64 (ix (p3 xs (hol o i k)) ((k - 1) * 3 + 2))]) Tagg_47 rfl (Cells.own0 (.tail _ (List.Mem.head _)) (pre3 (by first | omega | (simp; omega))))) ?_
            refine DL.takeP (i := 9) (v := .pointer (some ⟨gg, k * 3, none⟩)) rfl (by kernel_rfl) (by kernel_rfl) (by kernel_rfl) (fun _ _ _ h => h) rfl (fun _ => OpY.index (kk := k) Tsl_28 rfl rfl (by omega) (by omega) (by first | rfl | omega)) ?_
            refine DL.step (i := 10) (by kernel_rfl) (by kernel_rfl) rfl rfl (OpStep.storeOwnInt3 (o := k * 3) (a := ix (p3 xs (hol o i k)) ((k - 1) * 3)) (b := ix (p3 xs (hol o i k)) ((k - 1) * 3 + 1)) (c := ix (p3 xs (hol o i k)) ((k - 1) * 3 + 2)) Tsize_47 rfl rfl (.there _ (.here _)) (by first | omega | (simp; omega)) ?_)
            refine DL.done (by kernel_rfl) ?_
            refine Run.region ?_
            refine Run.q (v := .int .i64 (((k : Nat) : Int))) rfl (OpQ.y (OpY.pure rfl)) ?_
            refine Run.q (v := .int .i64 (((k - 1 : Nat) : Int))) rfl (OpQ.y (OpY.sub rfl rfl (by omega) (by omega) (by omega))) ?_
            refine Run.q (v := .int .i64 (((k - 1 : Nat) : Int))) rfl (OpQ.y (OpY.pure rfl)) ?_
            refine Run.done ?_
            refine Run.blockEnd ?_
            refine Run.goal ⟨(by repeat (first | exact Same.refl _ _ | refine Same.put rfl ?_ | refine Same.over rfl rfl ?_)), k - 1, ?_, ?_, ?_, ?_⟩
            · refine ⟨by omega, fun h e1 e2 => ?_⟩
              by_cases e : h = k - 1
              · rw [e]; exact hgt
              · exact hinv.2 h (by omega) e2
            · omega
            · exact ⟨(by first | rfl | (congr 1; omega) | simp), trivial⟩
            · exact (Some'.weak (.takeEq (by first | rfl | (rw [hol_top hol1]; done) | (rw [hHk]; done) | (rw [hHg]; done)) (.takeEq (by first | rfl | (rw [hol_top hol1]; done) | (rw [hHk]; done) | (rw [hHg]; done)) (.take (.take (.take (.take (.nil _))))))))
          · have p49 := h49; try simp only [decide_eq_true_eq, decide_eq_false_iff_not, beq_iff_eq, bne_iff_ne, beq_eq_false_iff_ne, ne_eq, gt_iff_lt, ge_iff_le, Int.not_lt, Int.not_le, bne_eq_false_iff_eq, Bool.not_eq_true', Bool.not_eq_false', Bool.and_eq_true, Bool.and_eq_false_iff, Bool.or_eq_true, Bool.or_eq_false_iff, Decidable.not_not, List.cons.injEq, and_true] at p49
            have hxk : ix (pk bs (hol o i k)) (k - 1) = kyB bs (ix o (k - 1)) := by rw [ix_pk (by omega), ix_hol hol1 hinv.1 (by omega), if_pos (by omega), ix_snocL (by omega)]; rfl
            have hlo : k = 0 ∨ ¬ ix bs i < kyB bs (ix o (k - 1)) := .inr (by rw [← hxk]; omega)
            refine Run.exit rfl ?_
            refine Run.seq ?_
            have hins := ins_ref hinv1.2.1 hinv1.2.2 hinv.1 hlo hinv.2
            have hDk : (pk bs (hol o i k)).set k (ix bs i) = pk bs (rot (o ++ [(i : Int)]) k i (i + 1)) := by
              have h := pk_set bs (hol o i k) k (i : Int)
              rw [Int.toNat_natCast] at h
              rw [h, hol_done hol1 hinv.1]
            have hDg : (((p3 xs (hol o i k)).set (k * 3) (ix xs (i * 3))).set (k * 3 + 1) (ix xs (i * 3 + 1))).set (k * 3 + 2) (ix xs (i * 3 + 2)) = p3 xs (rot (o ++ [(i : Int)]) k i (i + 1)) := by
              have h := p3_set (xs := xs) (v := (i : Int)) (o := hol o i k) (k := k) (by omega)
              rw [Int.toNat_natCast] at h
              rw [h, hol_done hol1 hinv.1]
            refine Run.region ?_
            refine Run.q (v := .slice (some ⟨gk, 0, none⟩) (i + 1) ck) rfl (OpQ.y (OpY.pure rfl)) ?_
            refine Run.q (v := .int .i64 (((k : Nat) : Int))) rfl (OpQ.y (OpY.pure rfl)) ?_
            refine Run.q (v := .slice (some ⟨bb, ob, none⟩) n cb) rfl (OpQ.y (OpY.pure rfl)) ?_
            refine Run.q (v := .int .i64 (((i : Nat) : Int))) rfl (OpQ.y (OpY.pure rfl)) ?_
            refine Run.q (v := .pointer (some ⟨bb, ob + i, none⟩)) rfl (OpQ.y (OpY.index (kk := i) Tsl_43 rfl rfl (by omega) (by omega) (by first | rfl | omega))) ?_
            refine Run.q (v := .int .i64 (ix bs (i))) rfl (OpQ.y (OpY.load1 Tone_3 rfl (Cells.arg (k := i) hb rfl (by omega) (pre1 (by omega))))) ?_
            refine Run.q (v := .pointer (some ⟨gk, k, none⟩)) rfl (OpQ.y (OpY.index (kk := k) Tsl_43 rfl rfl (by omega) (by omega) (by first | rfl | omega))) ?_
            refine Run.step rfl (OpStep.storeOwnInt (o := k) (a := ix bs (i)) Tsize_3 rfl rfl (.here _) (by first | omega | (simp; omega)) ?_)
            refine Run.done ?_
            refine Run.region ?_
            refine Run.q (v := .pointer (some ⟨b3, 1, none⟩)) rfl (OpQ.y (OpY.fieldAddr Tfo_30_1 rfl rfl)) ?_
            refine Run.q (v := .slice (some ⟨gg, 0, none⟩) (i + 1) c_av21) rfl (OpQ.y (OpY.load1 Tone_28 rfl (Cells.blk (.tail _ (.tail _ (.tail _ (List.Mem.head _)))) ⟨rfl, trivial⟩))) ?_
            refine Run.q (v := .int .i64 (((k : Nat) : Int))) rfl (OpQ.y (OpY.pure rfl)) ?_
            refine Run.q (v := .agg #[.int .i64 (ix xs (i * 3)), .int .i64 (ix xs (i * 3 + 1)), .int .i64 (ix xs (i * 3 + 2))]) rfl (OpQ.y (OpY.loadN (cs := [.int .i64 (ix xs (i * 3)), .int .i64 (ix xs (i * 3 + 1)), .int .i64 (ix xs (i * 3 + 2))]) Tagg_47 rfl (Cells.blk (.tail _ (.tail _ (List.Mem.head _))) ⟨rfl, rfl, rfl, trivial⟩))) ?_
            refine Run.q (v := .pointer (some ⟨gg, k * 3, none⟩)) rfl (OpQ.y (OpY.index (kk := k) Tsl_28 rfl rfl (by omega) (by omega) (by first | rfl | omega))) ?_
            refine Run.step rfl (OpStep.storeOwnInt3 (o := k * 3) (a := ix xs (i * 3)) (b := ix xs (i * 3 + 1)) (c := ix xs (i * 3 + 2)) Tsize_47 rfl rfl (.there _ (.here _)) (by first | omega | (simp; omega)) ?_)
            refine Run.done ?_
            refine Run.blockEnd ?_
            refine Run.region ?_
            refine Run.q (v := .int .i64 (((i + 1 : Nat) : Int))) rfl (OpQ.y (OpY.add rfl rfl (by omega) (by omega) (by omega))) ?_
            refine Run.q (v := .int .i64 (((i + 1 : Nat) : Int))) rfl (OpQ.y (OpY.pure rfl)) ?_
            refine Run.done ?_
            refine Run.goal ⟨(by repeat (first | exact Same.refl _ _ | refine Same.put rfl ?_ | refine Same.over rfl rfl ?_)), (i + 1, rot (o ++ [(i : Int)]) k i (i + 1), .slice (some ⟨gk, 0, none⟩) (i + 1) ck, .slice (some ⟨gg, 0, none⟩) (i + 1) c_av21), ?_, ?_, ?_, ?_⟩
            · exact ⟨by omega, hins.1, hins.2⟩
            · dsimp only; omega
            · exact ⟨(by first | rfl | (congr 1; omega) | simp), (by first | rfl | (congr 1; omega) | simp), trivial⟩
            · exact (Some'.weak (.takeEq (by first | rfl | (rw [hDk]; done) | (rw [hDg]; done) | simp) (.takeEq (by first | rfl | (rw [hDk]; done) | (rw [hDg]; done) | simp) (.skip (.takeEq (by first | rfl | (rw [hDk]; done) | (rw [hDg]; done) | simp) (.take (.takeEq (by first | rfl | (rw [hDk]; done) | (rw [hDg]; done) | simp) (.nil _))))))))
        · refine Lex.q (v := .bool false) rfl (OpQ.y (OpY.moveB rfl h38)) ?_
          have p38 := h38; try simp only [decide_eq_true_eq, decide_eq_false_iff_not, beq_iff_eq, bne_iff_ne, beq_eq_false_iff_ne, ne_eq, gt_iff_lt, ge_iff_le, Int.not_lt, Int.not_le, bne_eq_false_iff_eq, Bool.not_eq_true', Bool.not_eq_false', Bool.and_eq_true, Bool.and_eq_false_iff, Bool.or_eq_true, Bool.or_eq_false_iff, Decidable.not_not, List.cons.injEq, and_true] at p38
          have hlo : k = 0 ∨ ¬ ix bs i < kyB bs (ix o (k - 1)) := .inl (by omega)
          have hhl := hol_length hol1 hinv.1
          refine Lex.pass rfl ?_
          refine Lex.pass rfl ?_
          refine Lex.pass rfl ?_
          refine Lex.pass rfl ?_
          refine Lex.pass rfl ?_
          refine Lex.pass rfl ?_
          refine Lex.pass rfl ?_
          refine Lex.pass rfl ?_
          refine Lex.pass rfl ?_
          refine Lex.pass rfl ?_
          refine Lex.q (v := .bool false) rfl (OpQ.y (OpY.pure rfl)) ?_
          refine Lex.done ?_
          refine Run.cond (b := false) rfl (fun h => nomatch h) (fun _ => ?_)
          refine Run.exit rfl ?_
          refine Run.seq ?_
          have hins := ins_ref hinv1.2.1 hinv1.2.2 hinv.1 hlo hinv.2
          have hDk : (pk bs (hol o i k)).set k (ix bs i) = pk bs (rot (o ++ [(i : Int)]) k i (i + 1)) := by
            have h := pk_set bs (hol o i k) k (i : Int)
            rw [Int.toNat_natCast] at h
            rw [h, hol_done hol1 hinv.1]
          have hDg : (((p3 xs (hol o i k)).set (k * 3) (ix xs (i * 3))).set (k * 3 + 1) (ix xs (i * 3 + 1))).set (k * 3 + 2) (ix xs (i * 3 + 2)) = p3 xs (rot (o ++ [(i : Int)]) k i (i + 1)) := by
            have h := p3_set (xs := xs) (v := (i : Int)) (o := hol o i k) (k := k) (by omega)
            rw [Int.toNat_natCast] at h
            rw [h, hol_done hol1 hinv.1]
          refine Run.region ?_
          refine Run.q (v := .slice (some ⟨gk, 0, none⟩) (i + 1) ck) rfl (OpQ.y (OpY.pure rfl)) ?_
          refine Run.q (v := .int .i64 (((k : Nat) : Int))) rfl (OpQ.y (OpY.pure rfl)) ?_
          refine Run.q (v := .slice (some ⟨bb, ob, none⟩) n cb) rfl (OpQ.y (OpY.pure rfl)) ?_
          refine Run.q (v := .int .i64 (((i : Nat) : Int))) rfl (OpQ.y (OpY.pure rfl)) ?_
          refine Run.q (v := .pointer (some ⟨bb, ob + i, none⟩)) rfl (OpQ.y (OpY.index (kk := i) Tsl_43 rfl rfl (by omega) (by omega) (by first | rfl | omega))) ?_
          refine Run.q (v := .int .i64 (ix bs (i))) rfl (OpQ.y (OpY.load1 Tone_3 rfl (Cells.arg (k := i) hb rfl (by omega) (pre1 (by omega))))) ?_
          refine Run.q (v := .pointer (some ⟨gk, k, none⟩)) rfl (OpQ.y (OpY.index (kk := k) Tsl_43 rfl rfl (by omega) (by omega) (by first | rfl | omega))) ?_
          refine Run.step rfl (OpStep.storeOwnInt (o := k) (a := ix bs (i)) Tsize_3 rfl rfl (.here _) (by first | omega | (simp; omega)) ?_)
          refine Run.done ?_
          refine Run.region ?_
          refine Run.q (v := .pointer (some ⟨b3, 1, none⟩)) rfl (OpQ.y (OpY.fieldAddr Tfo_30_1 rfl rfl)) ?_
          refine Run.q (v := .slice (some ⟨gg, 0, none⟩) (i + 1) c_av21) rfl (OpQ.y (OpY.load1 Tone_28 rfl (Cells.blk (.tail _ (.tail _ (.tail _ (List.Mem.head _)))) ⟨rfl, trivial⟩))) ?_
          refine Run.q (v := .int .i64 (((k : Nat) : Int))) rfl (OpQ.y (OpY.pure rfl)) ?_
          refine Run.q (v := .agg #[.int .i64 (ix xs (i * 3)), .int .i64 (ix xs (i * 3 + 1)), .int .i64 (ix xs (i * 3 + 2))]) rfl (OpQ.y (OpY.loadN (cs := [.int .i64 (ix xs (i * 3)), .int .i64 (ix xs (i * 3 + 1)), .int .i64 (ix xs (i * 3 + 2))]) Tagg_47 rfl (Cells.blk (.tail _ (.tail _ (List.Mem.head _))) ⟨rfl, rfl, rfl, trivial⟩))) ?_
          refine Run.q (v := .pointer (some ⟨gg, k * 3, none⟩)) rfl (OpQ.y (OpY.index (kk := k) Tsl_28 rfl rfl (by omega) (by omega) (by first | rfl | omega))) ?_
          refine Run.step rfl (OpStep.storeOwnInt3 (o := k * 3) (a := ix xs (i * 3)) (b := ix xs (i * 3 + 1)) (c := ix xs (i * 3 + 2)) Tsize_47 rfl rfl (.there _ (.here _)) (by first | omega | (simp; omega)) ?_)
          refine Run.done ?_
          refine Run.blockEnd ?_
          refine Run.region ?_
          refine Run.q (v := .int .i64 (((i + 1 : Nat) : Int))) rfl (OpQ.y (OpY.add rfl rfl (by omega) (by omega) (by omega))) ?_
          refine Run.q (v := .int .i64 (((i + 1 : Nat) : Int))) rfl (OpQ.y (OpY.pure rfl)) ?_
          refine Run.done ?_
          refine Run.goal ⟨(by repeat (first | exact Same.refl _ _ | refine Same.put rfl ?_ | refine Same.over rfl rfl ?_)), (i + 1, rot (o ++ [(i : Int)]) k i (i + 1), .slice (some ⟨gk, 0, none⟩) (i + 1) ck, .slice (some ⟨gg, 0, none⟩) (i + 1) c_av21), ?_, ?_, ?_, ?_⟩
          · exact ⟨by omega, hins.1, hins.2⟩
          · dsimp only; omega
          · exact ⟨(by first | rfl | (congr 1; omega) | simp), (by first | rfl | (congr 1; omega) | simp), trivial⟩
          · exact (Some'.weak (.takeEq (by first | rfl | (rw [hDk]; done) | (rw [hDg]; done) | simp) (.takeEq (by first | rfl | (rw [hDk]; done) | (rw [hDg]; done) | simp) (.skip (.takeEq (by first | rfl | (rw [hDk]; done) | (rw [hDg]; done) | simp) (.take (.takeEq (by first | rfl | (rw [hDk]; done) | (rw [hDg]; done) | simp) (.nil _))))))))
    · have p17 := h17; try simp only [decide_eq_true_eq, decide_eq_false_iff_not, beq_iff_eq, bne_iff_ne, beq_eq_false_iff_ne, ne_eq, gt_iff_lt, ge_iff_le, Int.not_lt, Int.not_le, bne_eq_false_iff_eq, Bool.not_eq_true', Bool.not_eq_false', Bool.and_eq_true, Bool.and_eq_false_iff, Bool.or_eq_true, Bool.or_eq_false_iff, Decidable.not_not, List.cons.injEq, and_true] at p17
      have hin : i = n := by omega
      refine Run.exit rfl ?_
      refine Run.seq ?_
      refine Run.region ?_
      refine Run.q (v := .agg #[.int .i64 N, vo]) rfl (OpQ.y (OpY.loadN (cs := [.int .i64 N, vo]) Tagg_30 rfl (Cells.blk (.tail _ (.tail _ (List.Mem.head _))) ⟨rfl, rfl, trivial⟩))) ?_
      refine Run.formOwn (.tail _ (List.Mem.head _)) (fun A_vo1 c_vo1 hv hcapc_vo1 hmaxc_vo1 => ?_) (fun _ _ _ => ⟨nofun, nofun, nofun⟩)
      subst hv
      refine Run.step rfl (OpStep.storeAll (us := [.int .i64 N, .slice A_vo1 i c_vo1]) Tsize_30 rfl rfl rfl (.there _ (.there _ (.there _ (.here _)))) rfl ?_)
      refine Run.done ?_
      refine Run.ret ?_
      refine ⟨.agg #[.int .i64 N, .slice A_vo1 i c_vo1], [.own (.slice A_vo1 i c_vo1) 47 3 n (ints (p3 xs o))], Out.cell1 (cs := [.int .i64 N, .slice A_vo1 i c_vo1]) rfl Tagg_30 rfl (Cells.blk (.tail _ (.tail _ (.tail _ (List.Mem.head _)))) ⟨rfl, rfl, trivial⟩), (Some'.weak (.skip (.takeEq (by rw [hin]) (.nil _)))), ?_⟩
      exact ⟨_, _, ⟨by rw [← hin]; exact hinv.2.1, by rw [← hin]; exact hinv.2.2⟩, rfl, rfl⟩

set_option maxHeartbeats 1000000 in
set_option maxRecDepth 20000 in
theorem l24Foata_spec {N : Int} {va : Value} {n : Nat} {xs : List Int} {w : World} (hok : circOk N xs n = true) (ha : Sl w va 3 n (ints xs)) : Calls Try.prog 17 #[.agg #[.int .i64 N, va]] w (Post No w fun v H => ∃ u, v = .agg #[.int .i64 N, u] ∧ H = [.own u 47 3 n (ints (foL (deepL incL xs n) xs n))]) := by
  have hxl := ha.len
  have hn := ha.le
  obtain ⟨A, c, rfl, _, _⟩ := ha.form0
  have hi1 := incL_range
  have hn4 := circOk_n hok
  have hfit := fits_of hok
  have hkl := hfit.1
  refine enter (n := 31) (args := [.agg #[.int .i64 N, .slice A n c]]) Try.func17 rfl rfl (St.empty _ _) ?_
  refine Run.seq ?_
  refine Run.region ?_
  refine Run.step rfl (OpStep.box (us := [.int .i64 N, .slice A n c]) rfl fun b1 => ?_)
  refine Run.step rfl (OpStep.alloc (zs := [.int .i64 0, .slice none 0 0]) Tzero_30 fun b2 => ?_)
  refine Run.done ?_
  refine Run.seq ?_
  refine Run.region ?_
  refine Run.q (v := .agg #[.int .i64 N, .slice A n c]) rfl (OpQ.y (OpY.loadN (cs := [.int .i64 N, .slice A n c]) Tagg_30 rfl (Cells.blk (.tail _ (List.Mem.head _)) ⟨rfl, rfl, trivial⟩))) ?_
  refine Run.step rfl (OpStep.call (vs := [.agg #[.int .i64 N, .slice A n c]]) (caps := []) Tcall_29 rfl rfl (fun w hs => l24Layers_spec hok (hs.sl ha)) ?_)
  rintro u _ rfl
  show Run _ _ (putF _ _ _ u) [.own u 3 1 n (ints (deepL incL xs n)), .blk b2 30 [.int .i64 0, .slice none 0 0], .blk b1 30 [.int .i64 N, .slice A n c]]
  refine Run.q (v := u) rfl (OpQ.y (OpY.pure rfl)) ?_
  refine Run.done ?_
  refine Run.seq ?_
  refine Run.seq ?_
  refine Run.region ?_
  refine Run.q (v := .pointer (some ⟨b1, 1, none⟩)) rfl (OpQ.y (OpY.fieldAddr Tfo_30_1 rfl rfl)) ?_
  refine Run.q (v := .slice A n c) rfl (OpQ.y (OpY.load1 Tone_28 rfl (Cells.blk (.tail _ (.tail _ (List.Mem.head _))) ⟨rfl, trivial⟩))) ?_
  refine Run.q (v := .int .i64 (((n : Nat) : Int))) rfl (OpQ.y (OpY.len Tsl_28 rfl)) ?_
  refine Run.q (v := .int .i64 0) rfl (OpQ.y (OpY.pure rfl)) ?_
  refine Run.done ?_
  refine Run.block ?_
  refine Run.loop (ι := Nat) [4, 5, 11, 12, 13, 14, 15, 16, 17, 18, 19, 20, 21, 22, 23, 24, 25, 26, 27] (fun i => [(11, .int .i64 (((i : Nat) : Int)))]) (fun i => [.own u 3 1 n (ints (fkP (deepL incL xs n) xs n i)), .blk b2 30 [.int .i64 0, .slice none 0 0], .blk b1 30 [.int .i64 N, .slice A n c]]) (fun i => i ≤ n) (fun i => n - i) 0 ?_ ?_ ?_ ?_
  · exact Nat.zero_le _
  · exact ⟨rfl, trivial⟩
  · exact (Some'.weak (.takeEq (by first | rfl | (rw [fkP_zero hkl]; done) | (rw [hxi, fkP_set]; done) | (rw [fkP_set]; done)) (.take (.take (.nil _)))))
  · rintro i fr hinv
    show Run _ _ (over _ _ [(11, .int .i64 (((i : Nat) : Int)))] fr) [.own u 3 1 n (ints (fkP (deepL incL xs n) xs n i)), .blk b2 30 [.int .i64 0, .slice none 0 0], .blk b1 30 [.int .i64 N, .slice A n c]]
    try dsimp only at hinv
    refine Run.seq ?_
    refine Run.region ?_
    refine Run.q (v := .bool (decide ((((i : Nat) : Int)) < (((n : Nat) : Int))))) rfl (OpQ.y (OpY.pure rfl)) ?_
    refine Run.done ?_
    refine Run.seq ?_
    refine Run.cond (b := decide ((((i : Nat) : Int)) < (((n : Nat) : Int)))) rfl (fun h12 => ?_) (fun h12 => ?_)
    · have p12 := h12; try simp only [decide_eq_true_eq, decide_eq_false_iff_not, beq_iff_eq, bne_iff_ne, beq_eq_false_iff_ne, ne_eq, gt_iff_lt, ge_iff_le, Int.not_lt, Int.not_le, bne_eq_false_iff_eq, Bool.not_eq_true', Bool.not_eq_false', Bool.and_eq_true, Bool.and_eq_false_iff, Bool.or_eq_true, Bool.or_eq_false_iff, Decidable.not_not, List.cons.injEq, and_true] at p12
      have hin : i < n := by omega
      have hfi := (hfit.2 i hin)
      have hxi : ix (fkP (deepL incL xs n) xs n i) i = ix (deepL incL xs n) i := by rw [ix_fkP hin, if_neg (by omega)]
      refine Run.openOwn (.head _) (by omega) (fun gu cu hvgu hcapgu _ => ?_) (fun _ _ _ => ⟨nofun, nofun, nofun⟩)
      subst hvgu
      obtain ⟨b, o, rfl⟩ := ha.opn (by omega)
      refine Run.skip ?_
      refine Run.seq ?_
      refine Run.block ?_
      refine Run.seq ?_
      refine Run.region ?_
      refine Run.q (v := .int .i64 (((i : Nat) : Int))) rfl (OpQ.y (OpY.pure rfl)) ?_
      refine Run.q (v := .pointer (some ⟨b, o + i * 3, none⟩)) rfl (OpQ.y (OpY.index (kk := i) Tsl_28 rfl rfl (by omega) (by omega) (by first | rfl | omega))) ?_
      refine Run.q (v := .agg #[.int .i64 (ix xs (i * 3)), .int .i64 (ix xs (i * 3 + 1)), .int .i64 (ix xs (i * 3 + 2))]) rfl (OpQ.y (OpY.loadN (cs := [.int .i64 (ix xs (i * 3)), .int .i64 (ix xs (i * 3 + 1)), .int .i64 (ix xs (i * 3 + 2))]) Tagg_47 rfl (Cells.arg (k := i * 3) ha rfl (by omega) (pre3 (by omega))))) ?_
      refine Run.step rfl (OpStep.alloc (zs := [.int .i64 0, .int .i64 0, .int .i64 0]) Tzero_47 fun b3 => ?_)
      refine Run.q (v := .int .i64 (((i : Nat) : Int))) rfl (OpQ.y (OpY.pure rfl)) ?_
      refine Run.step rfl (OpStep.storeAll (us := [.int .i64 (ix xs (i * 3)), .int .i64 (ix xs (i * 3 + 1)), .int .i64 (ix xs (i * 3 + 2))]) Tsize_47 rfl rfl rfl (.here _) rfl ?_)
      refine Run.done ?_
      refine Run.lastly [11] (by kernel_rfl) ?_
      refine DL.takeP (i := 0) (v := .slice (some ⟨gu, 0, none⟩) n cu) rfl (by kernel_rfl) (by kernel_rfl) (by kernel_rfl) (fun _ _ _ h => h) rfl (fun _ => OpY.pure rfl) ?_
      refine DL.takeP (i := 1) (v := .int .i64 (((i : Nat) : Int))) rfl (by kernel_rfl) (by kernel_rfl) (by kernel_rfl) (fun _ _ _ h => h) rfl (fun _ => OpY.pure rfl) ?_
      refine DL.takeP (i := 2) (v := .slice (some ⟨gu, 0, none⟩) n cu) rfl (by kernel_rfl) (by kernel_rfl) (by kernel_rfl) (fun _ _ _ h => h) rfl (fun _ => OpY.pure rfl) ?_
      refine DL.takeP (i := 3) (v := .int .i64 (((i : Nat) : Int))) rfl (by kernel_rfl) (by kernel_rfl) (by kernel_rfl) (fun _ _ _ h => h) rfl (fun _ => OpY.pure rfl) ?_
      refine DL.takeP (i := 4) (v := .pointer (some ⟨gu, i, none⟩)) rfl (by kernel_rfl) (by kernel_rfl) (by kernel_rfl) (fun _ _ _ h => h) rfl (fun _ => OpY.index (kk := i) Tsl_43 rfl rfl (by omega) (by omega) (by first | rfl | omega)) ?_
      refine DL.take (i := 5) (v := .int .i64 (ix (fkP (deepL incL xs n) xs n i) (i))) rfl (by kernel_rfl) (by kernel_rfl) (by kernel_rfl) (by kernel_rfl) (fun _ _ _ h => h) (Some'.weak (.take (.take (.take (.take (.nil _)))))) rfl (OpY.load1 Tone_3 rfl (Cells.own0 (.tail _ (List.Mem.head _)) (pre1 (by first | omega | (simp; omega))))) ?_
      refine DL.takeP (i := 6) (v := .int .i64 ((ix (fkP (deepL incL xs n) xs n i) (i)) * 5)) rfl (by kernel_rfl) (by kernel_rfl) (by kernel_rfl) (fun _ _ _ h => h) rfl (fun _ => OpY.mul rfl rfl (by first | rfl | grind) (by omega) (by omega)) ?_
      refine DL.takeP (i := 7) (v := .pointer (some ⟨b3, 1, none⟩)) rfl (by kernel_rfl) (by kernel_rfl) (by kernel_rfl) (fun _ _ _ h => h) rfl (fun _ => OpY.fieldAddr Tfo_47_1 rfl rfl) ?_
      refine DL.take (i := 8) (v := .int .i64 (ix xs (i * 3 + 1))) rfl (by kernel_rfl) (by kernel_rfl) (by kernel_rfl) (by kernel_rfl) (fun _ _ _ h => h) (Some'.weak (.take (.take (.take (.take (.nil _)))))) rfl (OpY.load1 Tone_3 rfl (Cells.blk (.head _) ⟨rfl, trivial⟩)) ?_
      refine DL.takeP (i := 9) (v := .int .i64 (((ix (fkP (deepL incL xs n) xs n i) (i)) * 5) + (ix xs (i * 3 + 1)))) rfl (by kernel_rfl) (by kernel_rfl) (by kernel_rfl) (fun _ _ _ h => h) rfl (fun _ => OpY.add rfl rfl rfl (by omega) (by omega)) ?_
      refine DL.takeP (i := 10) (v := .pointer (some ⟨gu, i, none⟩)) rfl (by kernel_rfl) (by kernel_rfl) (by kernel_rfl) (fun _ _ _ h => h) rfl (fun _ => OpY.index (kk := i) Tsl_43 rfl rfl (by omega) (by omega) (by first | rfl | omega)) ?_
      refine DL.step (i := 11) (by kernel_rfl) (by kernel_rfl) rfl rfl (OpStep.storeOwnInt (o := i) (a := ((ix (fkP (deepL incL xs n) xs n i) (i)) * 5) + (ix xs (i * 3 + 1))) Tsize_3 rfl rfl (.there _ (.here _)) (by first | omega | (simp; omega)) ?_)
      refine DL.done (by kernel_rfl) ?_
      refine Run.blockEnd ?_
      refine Run.region ?_
      refine Run.q (v := .int .i64 (((i + 1 : Nat) : Int))) rfl (OpQ.y (OpY.add rfl rfl (by omega) (by omega) (by omega))) ?_
      refine Run.q (v := .int .i64 (((i + 1 : Nat) : Int))) rfl (OpQ.y (OpY.pure rfl)) ?_
      refine Run.done ?_
      refine Run.goal ⟨(by repeat (first | exact Same.refl _ _ | refine Same.put rfl ?_ | refine Same.over rfl rfl ?_)), i + 1, ?_, ?_, ?_, ?_⟩
      · exact hin
      · omega
      · exact ⟨(by first | rfl | (congr 1; omega) | simp), trivial⟩
      · exact (Some'.weak (.skip (.takeEq (by first | rfl | (rw [fkP_zero hkl]; done) | (rw [hxi, fkP_set]; done) | (rw [fkP_set]; done)) (.take (.takeEq (by first | rfl | (rw [fkP_zero hkl]; done) | (rw [hxi, fkP_set]; done) | (rw [fkP_set]; done)) (.nil _))))))
    · have p12 := h12; try simp only [decide_eq_true_eq, decide_eq_false_iff_not, beq_iff_eq, bne_iff_ne, beq_eq_false_iff_ne, ne_eq, gt_iff_lt, ge_iff_le, Int.not_lt, Int.not_le, bne_eq_false_iff_eq, Bool.not_eq_true', Bool.not_eq_false', Bool.and_eq_true, Bool.and_eq_false_iff, Bool.or_eq_true, Bool.or_eq_false_iff, Decidable.not_not, List.cons.injEq, and_true] at p12
      have hin : i = n := by omega
      refine Run.exit rfl ?_
      refine Run.seq ?_
      refine Run.region ?_
      refine Run.q (v := .agg #[.int .i64 N, .slice A n c]) rfl (OpQ.y (OpY.loadN (cs := [.int .i64 N, .slice A n c]) Tagg_30 rfl (Cells.blk (.tail _ (.tail _ (List.Mem.head _))) ⟨rfl, rfl, trivial⟩))) ?_
      refine Run.q (v := u) rfl (OpQ.y (OpY.pure rfl)) ?_
      refine Run.step rfl (OpStep.call (vs := [.agg #[.int .i64 N, .slice A n c], u]) (caps := []) Tcall_30 rfl rfl (fun w hs => l24Sort_spec (by omega) (hs.sl ha) (hs.slOwn (.head _))) ?_)
      rintro _ _ ⟨u2, ys, hys, rfl, rfl⟩
      show Run _ _ (putF _ _ _ (.agg #[.int .i64 N, u2])) [.own u2 47 3 n (ints (p3 xs ys)), .own u 3 1 n (ints (fkP (deepL incL xs n) xs n i)), .blk b2 30 [.int .i64 0, .slice none 0 0], .blk b1 30 [.int .i64 N, .slice A n c]]
      rw [hin] at hys
      have hyF := ord_ref hys.1 hys.2
      refine Run.formOwn (.head _) (fun A_u21 c_u21 hv hcapc_u21 hmaxc_u21 => ?_) (fun _ _ _ => ⟨nofun, nofun, nofun⟩)
      subst hv
      refine Run.step rfl (OpStep.storeAll (us := [.int .i64 N, .slice A_u21 n c_u21]) Tsize_30 rfl rfl rfl (.there _ (.there _ (.here _))) rfl ?_)
      refine Run.done ?_
      refine Run.ret ?_
      refine ⟨.agg #[.int .i64 N, .slice A_u21 n c_u21], [.own (.slice A_u21 n c_u21) 47 3 n (ints (foL (deepL incL xs n) xs n))], Out.cell1 (cs := [.int .i64 N, .slice A_u21 n c_u21]) rfl Tagg_30 rfl (Cells.blk (.tail _ (.tail _ (List.Mem.head _))) ⟨rfl, rfl, trivial⟩), (Some'.weak (.takeEq (by rw [foL, ← hyF]) (.nil _))), ?_⟩
      exact ⟨_, rfl, rfl⟩

set_option maxHeartbeats 1000000 in
set_option maxRecDepth 20000 in
theorem sFoataOf_spec {N : Int} {va : Value} {n : Nat} {xs : List Int} {w : World} (ha : Sl w va 3 n (ints xs)) : Calls Try.prog 10 #[.agg #[.int .i64 N, va]] w (Post No w fun v H => ∃ u, v = .tuple #[.agg #[.int .i64 (foN N xs n), u], .bool (circOk N xs n)] ∧ H = [.own u 47 3 (foM N xs n) (ints (foR N xs n))]) := by
  have hxl := ha.len
  have hn := ha.le
  obtain ⟨A, c, rfl, _, _⟩ := ha.form0
  have hi1 := incL_range
  refine enter (n := 10) (args := [.agg #[.int .i64 N, .slice A n c]]) Try.func10 rfl rfl (St.empty _ _) ?_
  refine Run.seq ?_
  refine Run.region ?_
  refine Run.step rfl (OpStep.box (us := [.int .i64 N, .slice A n c]) rfl fun b1 => ?_)
  refine Run.step rfl (OpStep.alloc (zs := [.int .i64 0, .slice none 0 0]) Tzero_30 fun b2 => ?_)
  refine Run.q (v := .bool false) rfl (OpQ.y (OpY.pure rfl)) ?_
  refine Run.done ?_
  refine Run.seq ?_
  refine Run.seq ?_
  refine Run.region ?_
  refine Run.q (v := .agg #[.int .i64 N, .slice A n c]) rfl (OpQ.y (OpY.loadN (cs := [.int .i64 N, .slice A n c]) Tagg_30 rfl (Cells.blk (.tail _ (List.Mem.head _)) ⟨rfl, rfl, trivial⟩))) ?_
  refine Run.q (v := .bool (circOk N xs n)) rfl (OpQ.call (vs := [.agg #[.int .i64 N, .slice A n c]]) (caps := []) Tcall_15 rfl rfl (fun w hs => l4Good_spec (hs.sl ha))) ?_
  refine Run.q (v := .bool (!(circOk N xs n))) rfl (OpQ.y (OpY.pure rfl)) ?_
  refine Run.done ?_
  refine Run.cond (b := !(circOk N xs n)) rfl (fun h6 => ?_) (fun h6 => ?_)
  · have p6 := h6; try simp only [decide_eq_true_eq, decide_eq_false_iff_not, beq_iff_eq, bne_iff_ne, beq_eq_false_iff_ne, ne_eq, gt_iff_lt, ge_iff_le, Int.not_lt, Int.not_le, bne_eq_false_iff_eq, Bool.not_eq_true', Bool.not_eq_false', Bool.and_eq_true, Bool.and_eq_false_iff, Bool.or_eq_true, Bool.or_eq_false_iff, Decidable.not_not, List.cons.injEq, and_true] at p6
    have hok : circOk N xs n = false := by simpa using p6
    have e1 : foN N xs n = 0 := by rw [foN, hok]; rfl
    have e2 : foM N xs n = 0 := by rw [foM, hok]; rfl
    have e3 : foR N xs n = [] := by rw [foR, hok]; rfl
    refine Run.seq ?_
    refine Run.region ?_
    refine Run.q (v := .agg #[.int .i64 0, .slice none 0 0]) rfl (OpQ.y (OpY.build (cs := [.int .i64 0, .slice none 0 0]) (by kernel_rfl))) ?_
    refine Run.step rfl (OpStep.storeAll (us := [.int .i64 0, .slice none 0 0]) Tsize_30 rfl rfl rfl (.here _) rfl ?_)
    refine Run.q (v := .bool false) rfl (OpQ.y (OpY.pure rfl)) ?_
    refine Run.done ?_
    refine Run.ret ?_
    refine ⟨.tuple #[.agg #[.int .i64 0, .slice none 0 0], .bool false], [.own (.slice none 0 0) 47 3 (foM N xs n) (ints (foR N xs n))], Out.cell2 (cs := [.int .i64 0, .slice none 0 0]) rfl Tagg_30 rfl (Cells.blk (.head _) ⟨rfl, rfl, trivial⟩) rfl, ((Weak.nilOwn 47 3).trans (Some'.weak (.takeEq (by rw [e2, e3]; first | done | rfl) (.nil _)))), ?_⟩
    exact ⟨_, by rw [e1, hok], rfl⟩
  · have p6 := h6; try simp only [decide_eq_true_eq, decide_eq_false_iff_not, beq_iff_eq, bne_iff_ne, beq_eq_false_iff_ne, ne_eq, gt_iff_lt, ge_iff_le, Int.not_lt, Int.not_le, bne_eq_false_iff_eq, Bool.not_eq_true', Bool.not_eq_false', Bool.and_eq_true, Bool.and_eq_false_iff, Bool.or_eq_true, Bool.or_eq_false_iff, Decidable.not_not, List.cons.injEq, and_true] at p6
    have hok : circOk N xs n = true := by simpa using p6
    have hn4 := circOk_n hok
    have e1 : foN N xs n = N := by rw [foN, hok]; rfl
    have e2 : foM N xs n = n := by rw [foM, hok]; rfl
    have e3 : foR N xs n = foL (deepL incL xs n) xs n := by rw [foR, hok]; rfl
    refine Run.skip ?_
    refine Run.seq ?_
    refine Run.region ?_
    refine Run.q (v := .agg #[.int .i64 N, .slice A n c]) rfl (OpQ.y (OpY.loadN (cs := [.int .i64 N, .slice A n c]) Tagg_30 rfl (Cells.blk (.tail _ (List.Mem.head _)) ⟨rfl, rfl, trivial⟩))) ?_
    refine Run.step rfl (OpStep.call (vs := [.agg #[.int .i64 N, .slice A n c]]) (caps := []) Tcall_17 rfl rfl (fun w hs => l24Foata_spec hok (hs.sl ha)) ?_)
    rintro _ _ ⟨u2, rfl, rfl⟩
    show Run _ _ (putF _ _ _ (.agg #[.int .i64 N, u2])) [.own u2 47 3 n (ints (foL (deepL incL xs n) xs n)), .blk b2 30 [.int .i64 0, .slice none 0 0], .blk b1 30 [.int .i64 N, .slice A n c]]
    refine Run.formOwn (.head _) (fun A_u21 c_u21 hv hcapc_u21 hmaxc_u21 => ?_) (fun _ _ _ => ⟨nofun, nofun, nofun⟩)
    subst hv
    refine Run.step rfl (OpStep.storeAll (us := [.int .i64 N, .slice A_u21 n c_u21]) Tsize_30 rfl rfl rfl (.there _ (.here _)) rfl ?_)
    refine Run.q (v := .bool true) rfl (OpQ.y (OpY.pure rfl)) ?_
    refine Run.done ?_
    refine Run.ret ?_
    refine ⟨.tuple #[.agg #[.int .i64 N, .slice A_u21 n c_u21], .bool true], [.own (.slice A_u21 n c_u21) 47 3 (foM N xs n) (ints (foR N xs n))], Out.cell2 (cs := [.int .i64 N, .slice A_u21 n c_u21]) rfl Tagg_30 rfl (Cells.blk (.tail _ (List.Mem.head _)) ⟨rfl, rfl, trivial⟩) rfl, (Some'.weak (.takeEq (by rw [e2, e3]; first | done | rfl) (.nil _))), ?_⟩
    exact ⟨_, by rw [e1, hok], rfl⟩

end Go.Proofs.Ytbepibalnnbmgaa
