/- Walks: the reference's distances of linear maps. -/
import Derived.Test.YteehfidjofcfmaaFar
import Derived.Test.YteehfidjofcfmaaSho
import Derived.Test.YteehfidjofcfmaaLin3
import Derived.Test.YteehfidjofcfmaaLin5
import Derived.Test.YteehfidjofcfmaaProg
set_option linter.unusedSimpArgs false
set_option linter.unusedVariables false
namespace Go.Proofs.Yteehfidjofcfmaa
open Go Go.RowKit
namespace DisT
theorem Tagg_28 : aggOf Try.prog 28 = some 1 := by kernel_rfl
theorem Tcall_48 : callable Try.prog 48 = true := by kernel_rfl
theorem Tcall_70 : callable Try.prog 70 = true := by kernel_rfl
theorem Tcall_71 : callable Try.prog 71 = true := by kernel_rfl
theorem Tfo_28_0 : fieldOff Try.prog 28 0 = some 0 := by kernel_rfl
theorem Tone_22 : oneOf Try.prog 22 = true := by kernel_rfl
theorem Tone_3 : oneOf Try.prog 3 = true := by kernel_rfl
theorem Tsize_28 : (Try.prog.info? 28).map (·.size) = some 1 := by kernel_rfl
theorem Tsize_3 : (Try.prog.info? 3).map (·.size) = some 1 := by kernel_rfl
theorem Tsl_102 : sliceOf Try.prog 102 = some (28, 1, 24, [.slice none 0 0]) := by kernel_rfl
theorem Tsl_22 : sliceOf Try.prog 22 = some (3, 1, 8, [.int .i64 0]) := by kernel_rfl
theorem Tzero_28 : zeroOf Try.prog 28 = some [.slice none 0 0] := by kernel_rfl
end DisT
open DisT

abbrev LZ := Value × BQ
def lm (n : Nat) (z : LZ) : Value × Nat × List Value := (z.1, n, ints (nl z.2.1.1))
def lgp (n : Nat) (zs : List LZ) : List (Value × Nat × List Value) := zs.map (lm n)
def locells (zs : List LZ) : List Value := zs.map (·.1)
abbrev sn' (zs : List LZ) : List BQ := zs.map fun z => z.2
theorem preL {zs : List LZ} {i : Nat} {z : LZ} (h : zs[i]? = some z) : Pre (locells zs) i [z.1] := ⟨by simp [locells, h], trivial⟩
theorem Weak.lgSnoc {H : List Res} {e : TypeId} {n : Nat} {zs : List LZ} {v : Value} {k : List Nat × Nat} {p : List Nat} : Weak (.own v e 1 n (ints (nl k.1)) :: .grp e 1 (lgp n zs) :: H) (.grp e 1 (lgp n (zs ++ [(v, (k, p))])) :: H) := by
  have h := Weak.grpSnocR (H := H) (e := e) (size := 1) (v := v) (n := n) (xs := ints (nl k.1)) (l := lgp n zs)
  have e2 : lgp n (zs ++ [(v, (k, p))]) = lgp n zs ++ [(v, n, ints (nl k.1))] := by simp [lgp, lm]
  rw [e2]; exact h
theorem lg_mem {n : Nat} {zs : List LZ} {z : LZ} (h : z ∈ zs) : lm n z ∈ lgp n zs := List.mem_map.2 ⟨z, h, rfl⟩
/-- The codes of rows of one length. -/
theorem code_of {l : List Nat} {n : Nat} (h : l.length = n) : cdN l n = cdK (l, 0) := by subst h; rfl

set_option maxHeartbeats 4000000 in
set_option maxRecDepth 20000 in
theorem l12Distances_spec {va : Value} {n : Nat} {m : List Nat} {N : Nat} {w : World} (hN : N = 65536) (h0 : 0 < n) (h4 : n ≤ 4) (hl : m.length = n) (hm16 : ∀ j, nx m j < 16) (hgoal : ∀ i, (lq n i).length ≤ i → (m, 0) ∈ (lq n i).map (·.1)) (ha : Sl w va 1 n (ints (nl m))) : Calls Try.prog 47 #[.agg #[va]] w (Post No w fun v H => ∃ i, (m, 0) ∈ (lq n i).map (·.1) ∧ H = [.own v 3 1 N (ints (farL N (lq n i)))]) := by
  obtain ⟨Av, cv, rfl, hnc, _⟩ := ha.form0
  have h16 : n * n ≤ 16 := Nat.le_trans (Nat.mul_le_mul h4 h4) (by omega)
  have hmk : fK n (m, 0) := ⟨hl, hm16, rfl⟩
  have hmc : cdK (m, 0) < 65536 := fK_lt h4 hmk
  have hic : cdK (idL n, 0) < 65536 := fK_lt h4 (fK_id h4)
  refine enter (n := 81) (args := [.agg #[.slice Av n cv]]) Try.func47 rfl rfl (St.empty _ _) ?_
  refine Run.seq ?_
  refine Run.region ?_
  refine Run.step rfl (OpStep.box (us := [.slice Av n cv]) rfl fun b1 => ?_)
  refine Run.q (v := .slice none 0 0) rfl (OpQ.y (OpY.pure rfl)) ?_
  refine Run.done ?_
  refine Run.seq ?_
  refine Run.region ?_
  refine Run.q (v := .pointer (some ⟨b1, 0, none⟩)) rfl (OpQ.y (OpY.fieldAddr Tfo_28_0 rfl rfl)) ?_
  refine Run.q (v := .slice Av n cv) rfl (OpQ.y (OpY.load1 Tone_22 rfl (Cells.blk (.head _) ⟨rfl, trivial⟩))) ?_
  refine Run.q (v := .int .i64 (((n : Nat) : Int))) rfl (OpQ.y (OpY.len Tsl_22 rfl)) ?_
  refine Run.q (v := .int .i64 (((n : Nat) : Int))) rfl (OpQ.y (OpY.pure rfl)) ?_
  refine Run.done ?_
  refine Run.seq ?_
  refine Run.region ?_
  refine Run.step rfl (@OpStep.makeSlice _ _ _ _ _ _ _ _ _ 22 (.const (.int .i64 65536)) (.const (.int .i64 65536)) _ _ _ N _ .i64 .i64 Tsl_22 rfl (by decide) (by exact congrArg (Value.int .i64) (show (65536 : Int) = ((N : Nat) : Int) from by omega)) (by exact congrArg (Value.int .i64) (show (65536 : Int) = ((N : Nat) : Int) from by omega)) (by omega) (by simp only [maxLen]; omega) fun b2 => ?_)
  refine Run.q (v := .slice (some ⟨b2, 0, none⟩) N N) rfl (OpQ.y (OpY.pure rfl)) ?_
  refine Run.done ?_
  refine Run.seq ?_
  refine Run.region ?_
  refine Run.q (v := .int .i64 (((n : Nat) : Int))) rfl (OpQ.y (OpY.pure rfl)) ?_
  refine Run.step rfl (OpStep.call (vs := [.int .i64 (((n : Nat) : Int))]) (caps := []) Tcall_70 rfl rfl (fun w hs => l12Identity_spec (by omega) w) ?_)
  rintro _ _ ⟨uI, rfl, rfl⟩
  show Run _ _ (putF _ _ _ (.agg #[uI])) [.own uI 3 1 n (ints (nl (idL n))), .own (.slice (some ⟨b2, 0, none⟩) N N) 3 1 N ((List.replicate N ([.int .i64 0] : List Value)).flatten), .blk b1 28 [.slice Av n cv]]
  refine Run.formOwn (.head _) (fun A_uI1 c_uI1 hv hcapc_uI1 hmaxc_uI1 => ?_) (fun _ _ _ => ⟨nofun, nofun, nofun⟩)
  subst hv
  refine Run.step rfl (OpStep.buildSlice (us := [.slice A_uI1 n c_uI1]) Tsl_102 (by decide) (by decide) ⟨rfl, [.slice A_uI1 n c_uI1], _, rfl, rfl, rfl, rfl⟩ rfl fun b3 => ?_)
  refine Run.q (v := .slice (some ⟨b3, 0, none⟩) 1 1) rfl (OpQ.y (OpY.pure rfl)) ?_
  refine Run.done ?_
  refine Run.seq ?_
  rw [zeros_flat, ← farL_nil]
  refine Run.region ?_
  refine Run.q (v := .slice (some ⟨b2, 0, none⟩) N N) rfl (OpQ.y (OpY.pure rfl)) ?_
  refine Run.q (v := .slice (some ⟨b3, 0, none⟩) 1 1) rfl (OpQ.y (OpY.pure rfl)) ?_
  refine Run.q (v := .pointer (some ⟨b3, 0, none⟩)) rfl (OpQ.y (OpY.index (kk := 0) Tsl_102 rfl rfl (by first | rfl | decide) (by first | rfl | decide) (by first | rfl | omega))) ?_
  refine Run.q (v := .agg #[.slice A_uI1 n c_uI1]) rfl (OpQ.y (OpY.loadN (cs := [.slice A_uI1 n c_uI1]) Tagg_28 rfl (Cells.own0 (.head _) ⟨rfl, trivial⟩))) ?_
  refine Run.q (v := .int .i64 (((cdK (idL n, 0) : Nat) : Int))) rfl (OpQ.call (vs := [.agg #[.slice A_uI1 n c_uI1]]) (caps := []) Tcall_48 rfl rfl (fun w hs => (by have h := l12Code_spec (l := idL n) (by rw [idL_length]; omega) (fK_id h4).2.1 (by rw [idL_length]; exact hs.slOwn (.tail _ (List.Mem.head _))); rw [code_of rfl] at h; exact h))) ?_
  refine Run.q (v := .pointer (some ⟨b2, cdK (idL n, 0), none⟩)) rfl (OpQ.y (OpY.index (kk := cdK (idL n, 0)) Tsl_22 rfl rfl (by omega) (by omega) (by first | rfl | omega))) ?_
  refine Run.step rfl (OpStep.storeOwnInt (o := cdK (idL n, 0)) (a := 1) Tsize_3 rfl rfl (by rw [show (farL N []).set (cdK (idL n, 0)) 1 = farL N [((idL n, 0), [])] from (farL_snoc N [] ((idL n, 0), [])).symm]; exact (.there _ (.there _ (.here _)))) (by omega) ?_)
  refine Run.done ?_
  refine Run.weak (H' := [.grp 3 1 (gl ([])), .own (.slice (some ⟨b3, 0, none⟩) 1 1) 28 1 1 ([.slice A_uI1 n c_uI1]), .own (.slice A_uI1 n c_uI1) 3 1 n (ints (nl (idL n))), .own (.slice (some ⟨b2, 0, none⟩) N N) 3 1 N (ints (farL N ([((idL n, 0), [])]))), .blk b1 28 [.slice Av n cv]]) (Weak.grpNil _ _) ?_ ⟨_, _, rfl, fun _ => nofun, fun _ => nofun⟩
  refine Run.weak (H' := [.grp 3 1 (lgp n ([((.slice A_uI1 n c_uI1 : Value), ((idL n, 0), ([] : List Nat)))])), .own (.slice (some ⟨b3, 0, none⟩) 1 1) 28 1 1 ([.slice A_uI1 n c_uI1]), .own (.slice (some ⟨b2, 0, none⟩) N N) 3 1 N (ints (farL N ([((idL n, 0), [])]))), .blk b1 28 [.slice Av n cv]]) ((Weak.front [.grp 3 1 (gl ([])), .own (.slice (some ⟨b3, 0, none⟩) 1 1) 28 1 1 ([.slice A_uI1 n c_uI1])] (.own (.slice A_uI1 n c_uI1) 3 1 n (ints (nl (idL n)))) [.own (.slice (some ⟨b2, 0, none⟩) N N) 3 1 N (ints (farL N ([((idL n, 0), [])]))), .blk b1 28 [.slice Av n cv]]).trans (Weak.lgSnoc (zs := []) (p := []) (k := (idL n, 0)))) ?_ ⟨_, _, rfl, fun _ => nofun, fun _ => nofun⟩
  refine Run.seq ?_
  refine Run.seq ?_
  refine Run.region ?_
  refine Run.q (v := .int .i64 0) rfl (OpQ.y (OpY.pure rfl)) ?_
  refine Run.done ?_
  refine Run.block ?_
  refine Run.loop (ι := Nat × Value × List LZ) ([5, 6, 7, 8, 9, 23, 24, 25, 26, 27, 28, 29, 30, 31, 32, 33, 34, 35, 36, 37, 38, 39, 40, 41, 42, 43, 44, 45, 46, 47, 48, 49, 50, 51, 52, 53, 54, 55, 56, 57, 58, 59, 60, 61, 62, 63, 64, 65, 66, 67] ++ [68, 69, 70, 71, 72, 73, 74, 75, 76, 77, 78, 79]) (fun ⟨i, vl, zs⟩ => [(5, vl), (6, .int .i64 (((i : Nat) : Int)))]) (fun ⟨i, vl, zs⟩ => [.own vl 28 1 (zs.length) (locells zs), .grp 3 1 (lgp n zs), .own (.slice (some ⟨b2, 0, none⟩) N N) 3 1 N (ints (farL N (sn' zs))), .blk b1 28 [.slice Av n cv]]) (fun ⟨i, vl, zs⟩ => sn' zs = lq n i) (fun ⟨i, vl, zs⟩ => 65537 - i) (0, .slice (some ⟨b3, 0, none⟩) 1 1, [((.slice A_uI1 n c_uI1 : Value), ((idL n, 0), ([] : List Nat)))]) ?_ ?_ ?_ ?_
  · rfl
  · exact ⟨rfl, rfl, trivial⟩
  · exact (((((Weak.front [.grp 3 1 (lgp n ([((.slice A_uI1 n c_uI1 : Value), ((idL n, 0), ([] : List Nat)))])), .own (.slice (some ⟨b3, 0, none⟩) 1 1) 28 1 1 ([.slice A_uI1 n c_uI1]), .own (.slice (some ⟨b2, 0, none⟩) N N) 3 1 N (ints (farL N ([((idL n, 0), [])])))] (.blk b1 28 [.slice Av n cv]) []).trans (Weak.front [.blk b1 28 [.slice Av n cv], .grp 3 1 (lgp n ([((.slice A_uI1 n c_uI1 : Value), ((idL n, 0), ([] : List Nat)))])), .own (.slice (some ⟨b3, 0, none⟩) 1 1) 28 1 1 ([.slice A_uI1 n c_uI1])] (.own (.slice (some ⟨b2, 0, none⟩) N N) 3 1 N (ints (farL N ([((idL n, 0), [])])))) [])).trans (Weak.front [.own (.slice (some ⟨b2, 0, none⟩) N N) 3 1 N (ints (farL N ([((idL n, 0), [])]))), .blk b1 28 [.slice Av n cv]] (.grp 3 1 (lgp n ([((.slice A_uI1 n c_uI1 : Value), ((idL n, 0), ([] : List Nat)))]))) [.own (.slice (some ⟨b3, 0, none⟩) 1 1) 28 1 1 ([.slice A_uI1 n c_uI1])])).trans (Weak.front [.grp 3 1 (lgp n ([((.slice A_uI1 n c_uI1 : Value), ((idL n, 0), ([] : List Nat)))])), .own (.slice (some ⟨b2, 0, none⟩) N N) 3 1 N (ints (farL N ([((idL n, 0), [])]))), .blk b1 28 [.slice Av n cv]] (.own (.slice (some ⟨b3, 0, none⟩) 1 1) 28 1 1 ([.slice A_uI1 n c_uI1])) [])).trans (Some'.weak (.takeEq (by first | rfl | simp) (.takeEq (by first | rfl | simp) (.takeEq (by first | rfl | simp) (.take (.nil _)))))))
  · rintro ⟨i, vl, zs⟩ fr hinv
    show Run _ _ (over _ _ [(5, vl), (6, .int .i64 (((i : Nat) : Int)))] fr) [.own vl 28 1 (zs.length) (locells zs), .grp 3 1 (lgp n zs), .own (.slice (some ⟨b2, 0, none⟩) N N) 3 1 N (ints (farL N (sn' zs))), .blk b1 28 [.slice Av n cv]]
    try dsimp only at hinv
    refine Run.seq ?_
    refine Run.seq ?_
    refine Run.region ?_
    refine Run.q (v := .int .i64 (((i : Nat) : Int))) rfl (OpQ.y (OpY.pure rfl)) ?_
    refine Run.q (v := vl) rfl (OpQ.y (OpY.pure rfl)) ?_
    refine Run.formOwn (.head _) (fun A_vl1 c_vl1 hv hcapc_vl1 hmaxc_vl1 => ?_) (fun _ _ _ => ⟨nofun, nofun, nofun⟩)
    subst hv
    refine Run.q (v := .int .i64 (((zs.length : Nat) : Int))) rfl (OpQ.y (OpY.len Tsl_102 rfl)) ?_
    refine Run.q (v := .bool (decide ((((i : Nat) : Int)) < (((zs.length : Nat) : Int))))) rfl (OpQ.y (OpY.pure rfl)) ?_
    rcases Bool.eq_false_or_eq_true (decide ((((i : Nat) : Int)) < (((zs.length : Nat) : Int)))) with h27 | h27
    · refine Run.q (v := .bool true) rfl (OpQ.y (OpY.moveB rfl h27)) ?_
      have p27 := h27; try simp only [decide_eq_true_eq, decide_eq_false_iff_not, beq_iff_eq, bne_iff_ne, beq_eq_false_iff_ne, ne_eq, gt_iff_lt, ge_iff_le, Int.not_lt, Int.not_le, bne_eq_false_iff_eq, Bool.not_eq_true', Bool.not_eq_false', Bool.and_eq_true, Bool.and_eq_false_iff, Bool.or_eq_true, Bool.or_eq_false_iff, Decidable.not_not, List.cons.injEq, and_true] at p27
      have hil : i < zs.length := by omega
      refine Run.q (v := .slice (some ⟨b2, 0, none⟩) N N) rfl (OpQ.y (OpY.pure rfl)) ?_
      refine Run.q (v := .agg #[.slice Av n cv]) rfl (OpQ.y (OpY.loadN (cs := [.slice Av n cv]) Tagg_28 rfl (Cells.blk (.tail _ (.tail _ (.tail _ (List.Mem.head _)))) ⟨rfl, trivial⟩))) ?_
      refine Run.q (v := .int .i64 (((cdK (m, 0) : Nat) : Int))) rfl (OpQ.call (vs := [.agg #[.slice Av n cv]]) (caps := []) Tcall_48 rfl rfl (fun w hs => (by have h := l12Code_spec (va := .slice Av n cv) (l := m) (by omega) hm16 (by rw [hl]; exact hs.sl ha); rw [code_of rfl] at h; exact h))) ?_
      refine Run.q (v := .pointer (some ⟨b2, cdK (m, 0), none⟩)) rfl (OpQ.y (OpY.index (kk := cdK (m, 0)) Tsl_22 rfl rfl (by omega) (by omega) (by first | rfl | omega))) ?_
      refine Run.q (v := .int .i64 (ix (farL N (sn' zs)) (cdK (m, 0)))) rfl (OpQ.y (OpY.load1 Tone_3 rfl (Cells.own0 (.tail _ (.tail _ (List.Mem.head _))) (pre1 (by first | omega | (rw [farL_length]; omega)))))) ?_
      refine Run.q (v := .bool ((ix (farL N (sn' zs)) (cdK (m, 0))) == 0)) rfl (OpQ.y (OpY.pure rfl)) ?_
      refine Run.q (v := .bool ((ix (farL N (sn' zs)) (cdK (m, 0))) == 0)) rfl (OpQ.y (OpY.pure rfl)) ?_
      refine Run.done ?_
      refine Run.cond (b := (ix (farL N (sn' zs)) (cdK (m, 0))) == 0) rfl (fun h34 => ?_) (fun h34 => ?_)
      · have p34 := h34; try simp only [decide_eq_true_eq, decide_eq_false_iff_not, beq_iff_eq, bne_iff_ne, beq_eq_false_iff_ne, ne_eq, gt_iff_lt, ge_iff_le, Int.not_lt, Int.not_le, bne_eq_false_iff_eq, Bool.not_eq_true', Bool.not_eq_false', Bool.and_eq_true, Bool.and_eq_false_iff, Bool.or_eq_true, Bool.or_eq_false_iff, Decidable.not_not, List.cons.injEq, and_true] at p34
        obtain ⟨⟨gv, ⟨gk, gf⟩, gp⟩, hz⟩ : ∃ z, zs[i]? = some z := ⟨_, List.getElem?_eq_getElem hil⟩
        have hzx : (lq n i)[i]? = some ((gk, gf), gp) := by rw [← hinv, List.getElem?_map, hz]; rfl
        have hgk0 : fK n (gk, gf) := lq_fK h4 (List.mem_of_getElem? hzx)
        obtain rfl : gf = 0 := hgk0.2.2
        have hgk : fK n (gk, 0) := hgk0
        have hgc : cdK (gk, 0) < 65536 := fK_lt h4 hgk
        have hzM : zs.length ≤ 65536 := by have h := lq_small h4 i; rw [← hinv, List.length_map] at h; exact h
        have hpl : gp.length ≤ i := bfs_plen i i _ hzx
        have hinv1 := hinv
        refine Run.formMem (.tail _ (List.Mem.head _)) (lg_mem (n := n) (List.mem_of_getElem? hz)) (fun gA gc hgv => ?_) (fun _ _ _ => ⟨nofun, nofun, nofun⟩)
        simp only [lm] at hgv
        subst hgv
        refine Run.skip ?_
        refine Run.seq ?_
        refine Run.block ?_
        refine Run.seq ?_
        refine Run.region ?_
        refine Run.q (v := .int .i64 0) rfl (OpQ.y (OpY.pure rfl)) ?_
        refine Run.done ?_
        refine Run.block ?_
        refine Run.loop (ι := Nat × Value × List LZ) [5, 7, 8, 9, 37, 38, 39, 40, 41, 42, 43, 44, 45, 46, 47, 48, 49, 50, 51, 52, 53, 54, 55, 56, 57, 58, 59, 60, 61, 62, 63, 64, 65, 66, 67, 68, 69, 70, 71, 72, 73, 74, 75, 76, 77, 78, 79] (fun ⟨a, vl2, zs2⟩ => [(5, vl2), (7, .int .i64 (((a : Nat) : Int)))]) (fun ⟨a, vl2, zs2⟩ => [.own vl2 28 1 (zs2.length) (locells zs2), .grp 3 1 (lgp n zs2), .own (.slice (some ⟨b2, 0, none⟩) N N) 3 1 N (ints (farL N (sn' zs2))), .blk b1 28 [.slice Av n cv]]) (fun ⟨a, vl2, zs2⟩ => a ≤ n ∧ sn' zs2 = brow (lstep n []) (lok n) ((gk, 0), gp) (lq n i) (a * n) ∧ ∃ t, zs2 = zs ++ t) (fun ⟨a, vl2, zs2⟩ => n - a) (0, .slice A_vl1 (zs.length) c_vl1, zs) ?_ ?_ ?_ ?_
        · exact ⟨Nat.zero_le _, by rw [Nat.zero_mul]; exact hinv1, [], by simp⟩
        · exact ⟨rfl, rfl, trivial⟩
        · exact (((((Weak.front [.own (.slice A_vl1 (zs.length) c_vl1) 28 1 (zs.length) (locells zs), .grp 3 1 (lgp n zs), .own (.slice (some ⟨b2, 0, none⟩) N N) 3 1 N (ints (farL N (sn' zs)))] (.blk b1 28 [.slice Av n cv]) []).trans (Weak.front [.blk b1 28 [.slice Av n cv], .own (.slice A_vl1 (zs.length) c_vl1) 28 1 (zs.length) (locells zs), .grp 3 1 (lgp n zs)] (.own (.slice (some ⟨b2, 0, none⟩) N N) 3 1 N (ints (farL N (sn' zs)))) [])).trans (Weak.front [.own (.slice (some ⟨b2, 0, none⟩) N N) 3 1 N (ints (farL N (sn' zs))), .blk b1 28 [.slice Av n cv], .own (.slice A_vl1 (zs.length) c_vl1) 28 1 (zs.length) (locells zs)] (.grp 3 1 (lgp n zs)) [])).trans (Weak.front [.grp 3 1 (lgp n zs), .own (.slice (some ⟨b2, 0, none⟩) N N) 3 1 N (ints (farL N (sn' zs))), .blk b1 28 [.slice Av n cv]] (.own (.slice A_vl1 (zs.length) c_vl1) 28 1 (zs.length) (locells zs)) [])).trans (Some'.weak (.takeEq (by first | rfl | simp) (.takeEq (by first | rfl | simp) (.takeEq (by first | rfl | simp) (.take (.nil _)))))))
        · rintro ⟨a, vl2, zs2⟩ fr hinv
          show Run _ _ (over _ _ [(5, vl2), (7, .int .i64 (((a : Nat) : Int)))] fr) [.own vl2 28 1 (zs2.length) (locells zs2), .grp 3 1 (lgp n zs2), .own (.slice (some ⟨b2, 0, none⟩) N N) 3 1 N (ints (farL N (sn' zs2))), .blk b1 28 [.slice Av n cv]]
          try dsimp only at hinv
          refine Run.seq ?_
          refine Run.seq ?_
          refine Run.region ?_
          refine Run.q (v := .int .i64 (((a : Nat) : Int))) rfl (OpQ.y (OpY.pure rfl)) ?_
          refine Run.q (v := .int .i64 (((n : Nat) : Int))) rfl (OpQ.y (OpY.pure rfl)) ?_
          refine Run.q (v := .bool (decide ((((a : Nat) : Int)) < (((n : Nat) : Int))))) rfl (OpQ.y (OpY.pure rfl)) ?_
          refine Run.done ?_
          refine Run.cond (b := decide ((((a : Nat) : Int)) < (((n : Nat) : Int)))) rfl (fun h39 => ?_) (fun h39 => ?_)
          · have p39 := h39; try simp only [decide_eq_true_eq, decide_eq_false_iff_not, beq_iff_eq, bne_iff_ne, beq_eq_false_iff_ne, ne_eq, gt_iff_lt, ge_iff_le, Int.not_lt, Int.not_le, bne_eq_false_iff_eq, Bool.not_eq_true', Bool.not_eq_false', Bool.and_eq_true, Bool.and_eq_false_iff, Bool.or_eq_true, Bool.or_eq_false_iff, Decidable.not_not, List.cons.injEq, and_true] at p39
            have hlta : a < n := by omega
            obtain ⟨_, hq2, ⟨t2, ht2⟩⟩ := hinv
            have han : a * n + n ≤ n * n := by have := Nat.mul_le_mul_right n (show a + 1 ≤ n from hlta); rw [Nat.add_mul] at this; omega
            refine Run.skip ?_
            refine Run.seq ?_
            refine Run.block ?_
            refine Run.seq ?_
            refine Run.region ?_
            refine Run.q (v := .int .i64 0) rfl (OpQ.y (OpY.pure rfl)) ?_
            refine Run.done ?_
            refine Run.block ?_
            refine Run.loop (ι := Nat × Value × List LZ) [5, 8, 9, 42, 43, 44, 45, 46, 47, 48, 49, 50, 51, 52, 53, 54, 55, 56, 57, 58, 59, 60, 61, 62, 63, 64, 65, 66, 67, 68, 69, 70, 71, 72, 73, 74, 75, 76, 77, 78, 79] (fun ⟨b, vl3, zs3⟩ => [(5, vl3), (8, .int .i64 (((b : Nat) : Int)))]) (fun ⟨b, vl3, zs3⟩ => [.own vl3 28 1 (zs3.length) (locells zs3), .grp 3 1 (lgp n zs3), .own (.slice (some ⟨b2, 0, none⟩) N N) 3 1 N (ints (farL N (sn' zs3))), .blk b1 28 [.slice Av n cv]]) (fun ⟨b, vl3, zs3⟩ => b ≤ n ∧ sn' zs3 = brow (lstep n []) (lok n) ((gk, 0), gp) (lq n i) (a * n + b) ∧ ∃ t, zs3 = zs ++ t) (fun ⟨b, vl3, zs3⟩ => n - b) (0, vl2, zs2) ?_ ?_ ?_ ?_
            · exact ⟨Nat.zero_le _, hq2, t2, ht2⟩
            · exact ⟨rfl, rfl, trivial⟩
            · exact (((((Weak.front [.own vl2 28 1 (zs2.length) (locells zs2), .grp 3 1 (lgp n zs2), .own (.slice (some ⟨b2, 0, none⟩) N N) 3 1 N (ints (farL N (sn' zs2)))] (.blk b1 28 [.slice Av n cv]) []).trans (Weak.front [.blk b1 28 [.slice Av n cv], .own vl2 28 1 (zs2.length) (locells zs2), .grp 3 1 (lgp n zs2)] (.own (.slice (some ⟨b2, 0, none⟩) N N) 3 1 N (ints (farL N (sn' zs2)))) [])).trans (Weak.front [.own (.slice (some ⟨b2, 0, none⟩) N N) 3 1 N (ints (farL N (sn' zs2))), .blk b1 28 [.slice Av n cv], .own vl2 28 1 (zs2.length) (locells zs2)] (.grp 3 1 (lgp n zs2)) [])).trans (Weak.front [.grp 3 1 (lgp n zs2), .own (.slice (some ⟨b2, 0, none⟩) N N) 3 1 N (ints (farL N (sn' zs2))), .blk b1 28 [.slice Av n cv]] (.own vl2 28 1 (zs2.length) (locells zs2)) [])).trans (Some'.weak (.takeEq (by first | rfl | simp [sn']) (.takeEq (by first | rfl | simp [sn']) (.takeEq (by first | rfl | simp [sn']) (.take (.nil _)))))))
            · rintro ⟨b, vl3, zs3⟩ fr hinv
              show Run _ _ (over _ _ [(5, vl3), (8, .int .i64 (((b : Nat) : Int)))] fr) [.own vl3 28 1 (zs3.length) (locells zs3), .grp 3 1 (lgp n zs3), .own (.slice (some ⟨b2, 0, none⟩) N N) 3 1 N (ints (farL N (sn' zs3))), .blk b1 28 [.slice Av n cv]]
              try dsimp only at hinv
              refine Run.seq ?_
              refine Run.seq ?_
              refine Run.region ?_
              refine Run.q (v := .int .i64 (((b : Nat) : Int))) rfl (OpQ.y (OpY.pure rfl)) ?_
              refine Run.q (v := .int .i64 (((n : Nat) : Int))) rfl (OpQ.y (OpY.pure rfl)) ?_
              refine Run.q (v := .bool (decide ((((b : Nat) : Int)) < (((n : Nat) : Int))))) rfl (OpQ.y (OpY.pure rfl)) ?_
              refine Run.done ?_
              refine Run.cond (b := decide ((((b : Nat) : Int)) < (((n : Nat) : Int)))) rfl (fun h44 => ?_) (fun h44 => ?_)
              · have p44 := h44; try simp only [decide_eq_true_eq, decide_eq_false_iff_not, beq_iff_eq, bne_iff_ne, beq_eq_false_iff_ne, ne_eq, gt_iff_lt, ge_iff_le, Int.not_lt, Int.not_le, bne_eq_false_iff_eq, Bool.not_eq_true', Bool.not_eq_false', Bool.and_eq_true, Bool.and_eq_false_iff, Bool.or_eq_true, Bool.or_eq_false_iff, Decidable.not_not, List.cons.injEq, and_true] at p44
                have hltb : b < n := by omega
                obtain ⟨_, hq3, ⟨t3, ht3⟩⟩ := hinv
                obtain ⟨tq, htq⟩ := brow_in hzx (show a * n + b ≤ n * n by omega)
                have hzM3 : zs3.length ≤ 65536 := by have h := lq_small h4 (i + 1); rw [lq, htq, ← hq3, List.length_append, List.length_map] at h; omega
                have hd : (a * n + b) / n = a := by rw [Nat.mul_comm, Nat.mul_add_div (by omega), Nat.div_eq_of_lt hltb]; omega
                have hm' : (a * n + b) % n = b := by rw [Nat.mul_comm, Nat.mul_add_mod, Nat.mod_eq_of_lt hltb]
                have hstep : lstep n [] (gk, 0) (a * n + b) = (cx gk (a, b), 0) := by rw [lstep_nil, hd, hm']
                have hnk : fK n (cx gk (a, b), 0) := hstep ▸ fK_step (a * n + b) hgk
                have hnc2 : cdK (cx gk (a, b), 0) < 65536 := fK_lt h4 hnk
                have hfk3 : ∀ y ∈ sn' zs3, fK n y.1 := fun y hy => lq_fK (i := i + 1) h4 (by rw [lq, htq, ← hq3]; exact List.mem_append.2 (.inl hy))
                have hnd3 : ((sn' zs3).map (·.1)).Nodup := by
                  have h := lq_nd (n := n) (i := i + 1)
                  rw [lq, htq, ← hq3, List.map_append] at h
                  exact (List.nodup_append.1 h).1
                have hz3 : zs3[i]? = some ((.slice gA n gc : Value), ((gk, 0), gp)) := by rw [ht3, List.getElem?_append_left hil]; exact hz
                have hzm := List.mem_of_getElem? hz3
                have hil3 : i < zs3.length := by rw [ht3, List.length_append]; omega
                have hfg : ix (farL N (sn' zs3)) (cdK (gk, 0)) = ((gp.length : Nat) : Int) + 1 := farL_hit hN h4 hfk3 hnd3 (y := ((gk, 0), gp)) (List.mem_map.2 ⟨_, hzm, rfl⟩)
                have hpl2 : (gp ++ [a * n + b]).length = gp.length + 1 := by simp
                refine Run.skip ?_
                refine Run.seq ?_
                refine Run.block ?_
                refine Run.seq ?_
                refine Run.seq ?_
                refine Run.region ?_
                refine Run.q (v := .int .i64 (((a : Nat) : Int))) rfl (OpQ.y (OpY.pure rfl)) ?_
                refine Run.q (v := .int .i64 (((b : Nat) : Int))) rfl (OpQ.y (OpY.pure rfl)) ?_
                refine Run.q (v := .bool ((((a : Nat) : Int)) == (((b : Nat) : Int)))) rfl (OpQ.y (OpY.pure rfl)) ?_
                refine Run.done ?_
                refine Run.cond (b := (((a : Nat) : Int)) == (((b : Nat) : Int))) rfl (fun h49 => ?_) (fun h49 => ?_)
                · have p49 := h49; try simp only [decide_eq_true_eq, decide_eq_false_iff_not, beq_iff_eq, bne_iff_ne, beq_eq_false_iff_ne, ne_eq, gt_iff_lt, ge_iff_le, Int.not_lt, Int.not_le, bne_eq_false_iff_eq, Bool.not_eq_true', Bool.not_eq_false', Bool.and_eq_true, Bool.and_eq_false_iff, Bool.or_eq_true, Bool.or_eq_false_iff, Decidable.not_not, List.cons.injEq, and_true] at p49
                  have hbv : brow (lstep n []) (lok n) ((gk, 0), gp) (lq n i) (a * n + (b + 1)) = sn' zs3 := by
                    rw [← Nat.add_assoc, brow, ← hq3, bvis, if_neg]
                    rw [lok, hd, hm']; intro h; have := of_decide_eq_true h.1; omega
                  refine Run.exit rfl ?_
                  refine Run.region ?_
                  refine Run.q (v := .int .i64 (((b : Nat) : Int))) rfl (OpQ.y (OpY.pure rfl)) ?_
                  refine Run.q (v := .int .i64 ((((b : Nat) : Int)) + 1)) rfl (OpQ.y (OpY.add rfl rfl rfl (by omega) (by omega))) ?_
                  refine Run.q (v := .int .i64 ((((b : Nat) : Int)) + 1)) rfl (OpQ.y (OpY.pure rfl)) ?_
                  refine Run.done ?_
                  refine Run.goal ⟨(by repeat (first | exact Same.refl _ _ | refine Same.put rfl ?_ | refine Same.over rfl rfl ?_)), (b + 1, vl3, zs3), ?_, ?_, ?_, ?_⟩
                  · first | exact ⟨hltb, hbv.symm, t3, ht3⟩ | exact ⟨hltb, by rw [hbv]; simp [sn'], t3 ++ [_], by rw [ht3, List.append_assoc]⟩
                  · show n - (b + 1) < n - b; omega
                  · exact ⟨(by first | rfl | (congr 1; omega) | simp), (by first | rfl | (congr 1; omega) | simp), trivial⟩
                  · exact (((((Weak.front [.own vl3 28 1 (zs3.length) (locells zs3), .grp 3 1 (lgp n zs3), .own (.slice (some ⟨b2, 0, none⟩) N N) 3 1 N (ints (farL N (sn' zs3)))] (.blk b1 28 [.slice Av n cv]) []).trans (Weak.front [.blk b1 28 [.slice Av n cv], .own vl3 28 1 (zs3.length) (locells zs3), .grp 3 1 (lgp n zs3)] (.own (.slice (some ⟨b2, 0, none⟩) N N) 3 1 N (ints (farL N (sn' zs3)))) [])).trans (Weak.front [.own (.slice (some ⟨b2, 0, none⟩) N N) 3 1 N (ints (farL N (sn' zs3))), .blk b1 28 [.slice Av n cv], .own vl3 28 1 (zs3.length) (locells zs3)] (.grp 3 1 (lgp n zs3)) [])).trans (Weak.front [.grp 3 1 (lgp n zs3), .own (.slice (some ⟨b2, 0, none⟩) N N) 3 1 N (ints (farL N (sn' zs3))), .blk b1 28 [.slice Av n cv]] (.own vl3 28 1 (zs3.length) (locells zs3)) [])).trans (Some'.weak (.takeEq (by first | rfl | simp [sn']) (.takeEq (by first | rfl | simp [sn']) (.takeEq (by first | rfl | simp [sn']) (.take (.nil _)))))))
                · have p49 := h49; try simp only [decide_eq_true_eq, decide_eq_false_iff_not, beq_iff_eq, bne_iff_ne, beq_eq_false_iff_ne, ne_eq, gt_iff_lt, ge_iff_le, Int.not_lt, Int.not_le, bne_eq_false_iff_eq, Bool.not_eq_true', Bool.not_eq_false', Bool.and_eq_true, Bool.and_eq_false_iff, Bool.or_eq_true, Bool.or_eq_false_iff, Decidable.not_not, List.cons.injEq, and_true] at p49
                  refine Run.skip ?_
                  refine Run.seq ?_
                  refine Run.openOwn (.head _) (by omega) (fun gz cz hvgz hcapgz _ => ?_) (fun _ _ _ => ⟨nofun, nofun, nofun⟩)
                  subst hvgz
                  refine Run.region ?_
                  refine Run.q (v := .slice (some ⟨gz, 0, none⟩) (zs3.length) cz) rfl (OpQ.y (OpY.pure rfl)) ?_
                  refine Run.q (v := .int .i64 (((i : Nat) : Int))) rfl (OpQ.y (OpY.pure rfl)) ?_
                  refine Run.q (v := .pointer (some ⟨gz, i, none⟩)) rfl (OpQ.y (OpY.index (kk := i) Tsl_102 rfl rfl (by omega) (by omega) (by first | rfl | omega))) ?_
                  refine Run.q (v := .agg #[.slice gA n gc]) rfl (OpQ.y (OpY.loadN (cs := [.slice gA n gc]) Tagg_28 rfl (Cells.own0 (.head _) (preL hz3)))) ?_
                  refine Run.q (v := .int .i64 (((a : Nat) : Int))) rfl (OpQ.y (OpY.pure rfl)) ?_
                  refine Run.q (v := .int .i64 (((b : Nat) : Int))) rfl (OpQ.y (OpY.pure rfl)) ?_
                  refine Run.step rfl (OpStep.call (vs := [.agg #[.slice gA n gc], .int .i64 (((a : Nat) : Int)), .int .i64 (((b : Nat) : Int))]) (caps := []) Tcall_71 rfl rfl (fun w hs => (by have h := l12CX_spec (l := gk) (a := a) (b := b) (by rw [hgk.1]; omega) (by rw [hgk.1]; omega) (by rw [hgk.1]; omega) (fun j => by have h : nx gk j < 16 := hgk.2.1 j; omega) (by rw [hgk.1]; exact hs.slGrpR (p := lm n ((.slice gA n gc : Value), ((gk, 0), gp))) (.tail _ (List.Mem.head _)) (lg_mem hzm)); rw [hgk.1] at h; exact h)) ?_)
                  rintro _ _ ⟨un, rfl, rfl⟩
                  show Run _ _ (putF _ _ _ (.agg #[un])) [.own un 3 1 n (ints (nl (cx gk (a, b)))), .own (.slice (some ⟨gz, 0, none⟩) (zs3.length) cz) 28 1 (zs3.length) (locells zs3), .grp 3 1 (lgp n zs3), .own (.slice (some ⟨b2, 0, none⟩) N N) 3 1 N (ints (farL N (sn' zs3))), .blk b1 28 [.slice Av n cv]]
                  refine Run.step rfl (OpStep.alloc (zs := [.slice none 0 0]) Tzero_28 fun b4 => ?_)
                  refine Run.formOwn (.tail _ (List.Mem.head _)) (fun A_un1 c_un1 hv hcapc_un1 hmaxc_un1 => ?_) (fun _ _ _ => ⟨nofun, nofun, nofun⟩)
                  subst hv
                  refine Run.step rfl (OpStep.storeAll (us := [.slice A_un1 n c_un1]) Tsize_28 rfl rfl rfl (.here _) rfl ?_)
                  refine Run.done ?_
                  refine Run.seq ?_
                  refine Run.region ?_
                  refine Run.q (v := .slice (some ⟨b2, 0, none⟩) N N) rfl (OpQ.y (OpY.pure rfl)) ?_
                  refine Run.q (v := .agg #[.slice A_un1 n c_un1]) rfl (OpQ.y (OpY.loadN (cs := [.slice A_un1 n c_un1]) Tagg_28 rfl (Cells.blk (.head _) ⟨rfl, trivial⟩))) ?_
                  refine Run.q (v := .int .i64 (((cdK (cx gk (a, b), 0) : Nat) : Int))) rfl (OpQ.call (vs := [.agg #[.slice A_un1 n c_un1]]) (caps := []) Tcall_48 rfl rfl (fun w hs => (by have h := l12Code_spec (l := cx gk (a, b)) (by rw [hnk.1]; omega) hnk.2.1 (by rw [hnk.1]; exact hs.slOwn (.tail _ (List.Mem.head _))); rw [code_of rfl] at h; exact h))) ?_
                  refine Run.q (v := .pointer (some ⟨b2, cdK (cx gk (a, b), 0), none⟩)) rfl (OpQ.y (OpY.index (kk := cdK (cx gk (a, b), 0)) Tsl_22 rfl rfl (by omega) (by omega) (by first | rfl | omega))) ?_
                  refine Run.q (v := .int .i64 (ix (farL N (sn' zs3)) (cdK (cx gk (a, b), 0)))) rfl (OpQ.y (OpY.load1 Tone_3 rfl (Cells.own0 (.tail _ (.tail _ (.tail _ (.tail _ (List.Mem.head _))))) (pre1 (by first | omega | (rw [farL_length]; omega)))))) ?_
                  refine Run.q (v := .bool ((ix (farL N (sn' zs3)) (cdK (cx gk (a, b), 0))) == 0)) rfl (OpQ.y (OpY.pure rfl)) ?_
                  refine Run.done ?_
                  refine Run.cond (b := (ix (farL N (sn' zs3)) (cdK (cx gk (a, b), 0))) == 0) rfl (fun h62 => ?_) (fun h62 => ?_)
                  · have p62 := h62; try simp only [decide_eq_true_eq, decide_eq_false_iff_not, beq_iff_eq, bne_iff_ne, beq_eq_false_iff_ne, ne_eq, gt_iff_lt, ge_iff_le, Int.not_lt, Int.not_le, bne_eq_false_iff_eq, Bool.not_eq_true', Bool.not_eq_false', Bool.and_eq_true, Bool.and_eq_false_iff, Bool.or_eq_true, Bool.or_eq_false_iff, Decidable.not_not, List.cons.injEq, and_true] at p62
                    have hnin : (cx gk (a, b), 0) ∉ (sn' zs3).map (·.1) := (farL_pos hN h4 hfk3 hnd3 hnk).1 (by simpa using h62)
                    have hbv : brow (lstep n []) (lok n) ((gk, 0), gp) (lq n i) (a * n + (b + 1)) = sn' zs3 ++ [((cx gk (a, b), 0), gp ++ [a * n + b])] := by
                      rw [← Nat.add_assoc, brow, ← hq3, bvis, hstep, if_pos]
                      exact ⟨by rw [lok, hd, hm']; exact decide_eq_true (by omega), hnin⟩
                    refine Run.seq ?_
                    refine Run.heldB (base := [.blk b4 28 [.slice A_un1 n c_un1], .own (.slice A_un1 n c_un1) 3 1 n (ints (nl (cx gk (a, b)))), .own (.slice (some ⟨gz, 0, none⟩) (zs3.length) cz) 28 1 (zs3.length) (locells zs3), .grp 3 1 (lgp n zs3), .blk b1 28 [.slice Av n cv]]) (by kernel_rfl) ?_
                    refine DW.take (i := 0) (v := .slice (some ⟨b2, 0, none⟩) N N) rfl (by kernel_rfl) (by kernel_rfl) (by kernel_rfl) (fun _ _ _ h => h) (Some'.weak (.take (.take (.take (.take (.skip (.take (.nil _)))))))) rfl (OpY.pure rfl) ?_
                    refine DW.take (i := 1) (v := .agg #[.slice A_un1 n c_un1]) rfl (by kernel_rfl) (by kernel_rfl) (by kernel_rfl) (fun _ _ _ h => h) (Some'.weak (.take (.take (.take (.take (.skip (.take (.nil _)))))))) rfl (OpY.loadN (cs := [.slice A_un1 n c_un1]) Tagg_28 rfl (Cells.blk (.head _) ⟨rfl, trivial⟩)) ?_
                    refine DW.take (i := 3) (v := .slice (some ⟨b2, 0, none⟩) N N) rfl (by kernel_rfl) (by kernel_rfl) (by kernel_rfl) (fun _ _ _ h => h) (Some'.weak (.take (.take (.take (.take (.skip (.take (.nil _)))))))) rfl (OpY.pure rfl) ?_
                    refine DW.take (i := 4) (v := .slice (some ⟨gz, 0, none⟩) (zs3.length) cz) rfl (by kernel_rfl) (by kernel_rfl) (by kernel_rfl) (fun _ _ _ h => h) (Some'.weak (.take (.take (.take (.take (.skip (.take (.nil _)))))))) rfl (OpY.pure rfl) ?_
                    refine DW.take (i := 5) (v := .int .i64 (((i : Nat) : Int))) rfl (by kernel_rfl) (by kernel_rfl) (by kernel_rfl) (fun _ _ _ h => h) (Some'.weak (.take (.take (.take (.take (.skip (.take (.nil _)))))))) rfl (OpY.pure rfl) ?_
                    refine DW.take (i := 6) (v := .pointer (some ⟨gz, i, none⟩)) rfl (by kernel_rfl) (by kernel_rfl) (by kernel_rfl) (fun _ _ _ h => h) (Some'.weak (.take (.take (.take (.take (.skip (.take (.nil _)))))))) rfl (OpY.index (kk := i) Tsl_102 rfl rfl (by omega) (by omega) (by first | rfl | omega)) ?_
                    refine DW.take (i := 7) (v := .agg #[.slice gA n gc]) rfl (by kernel_rfl) (by kernel_rfl) (by kernel_rfl) (fun _ _ _ h => h) (Some'.weak (.take (.take (.take (.take (.skip (.take (.nil _)))))))) rfl (OpY.loadN (cs := [.slice gA n gc]) Tagg_28 rfl (Cells.own0 (.tail _ (.tail _ (List.Mem.head _))) (preL hz3))) ?_
                    refine DW.step (i := 2) (by kernel_rfl) rfl rfl (OpStep.q (v := .int .i64 (((cdK (cx gk (a, b), 0) : Nat) : Int))) (OpQ.call (vs := [.agg #[.slice A_un1 n c_un1]]) (caps := []) Tcall_48 rfl rfl (fun w hs => (by have h := l12Code_spec (l := cx gk (a, b)) (by rw [hnk.1]; omega) hnk.2.1 (by rw [hnk.1]; exact hs.slOwn (.tail _ (List.Mem.head _))); rw [code_of rfl] at h; exact h))) ?_)
                    refine ⟨(Some'.weak (.take (.take (.take (.take (.skip (.take (.nil _)))))))), ?_⟩
                    refine DW.step (i := 8) (by kernel_rfl) rfl rfl (OpStep.q (v := .int .i64 (((cdK (gk, 0) : Nat) : Int))) (OpQ.call (vs := [.agg #[.slice gA n gc]]) (caps := []) Tcall_48 rfl rfl (fun w hs => (by have h := l12Code_spec (l := gk) (by rw [hgk.1]; omega) hgk.2.1 (by rw [hgk.1]; exact hs.slGrpR (p := lm n ((.slice gA n gc : Value), ((gk, 0), gp))) (.tail _ (.tail _ (.tail _ (List.Mem.head _)))) (lg_mem hzm)); rw [code_of rfl] at h; exact h))) ?_)
                    refine ⟨(Some'.weak (.take (.take (.take (.take (.skip (.take (.nil _)))))))), ?_⟩
                    refine DW.take (i := 9) (v := .pointer (some ⟨b2, cdK (gk, 0), none⟩)) rfl (by kernel_rfl) (by kernel_rfl) (by kernel_rfl) (fun _ _ _ h => h) (Some'.weak (.take (.take (.take (.take (.skip (.take (.nil _)))))))) rfl (OpY.index (kk := cdK (gk, 0)) Tsl_22 rfl rfl (by omega) (by omega) (by first | rfl | omega)) ?_
                    refine DW.step (i := 10) (by kernel_rfl) rfl rfl (OpStep.q (v := .int .i64 (((gp.length : Nat) : Int) + 1)) (OpQ.y (OpY.load1 Tone_3 rfl (by rw [← hfg]; exact Cells.own0 (.tail _ (.tail _ (.tail _ (.tail _ (List.Mem.head _))))) (pre1 (by rw [farL_length]; omega))))) ?_)
                    refine ⟨(Some'.weak (.take (.take (.take (.take (.skip (.take (.nil _)))))))), ?_⟩
                    refine DW.take (i := 11) (v := .int .i64 ((((gp ++ [a * n + b]).length : Nat) : Int) + 1)) rfl (by kernel_rfl) (by kernel_rfl) (by kernel_rfl) (fun _ _ _ h => h) (Some'.weak (.take (.take (.take (.take (.skip (.take (.nil _)))))))) rfl (OpY.add rfl rfl (by omega) (by omega) (by omega)) ?_
                    refine DW.take (i := 12) (v := .pointer (some ⟨b2, cdK (cx gk (a, b), 0), none⟩)) rfl (by kernel_rfl) (by kernel_rfl) (by kernel_rfl) (fun _ _ _ h => h) (Some'.weak (.take (.take (.take (.take (.skip (.take (.nil _)))))))) rfl (OpY.index (kk := cdK (cx gk (a, b), 0)) Tsl_22 rfl rfl (by omega) (by omega) (by first | rfl | omega)) ?_
                    refine DW.step (i := 13) (by kernel_rfl) rfl rfl (OpStep.storeOwnInt (o := cdK (cx gk (a, b), 0)) (a := (((gp ++ [a * n + b]).length : Nat) : Int) + 1) Tsize_3 rfl rfl (by rw [← farL_snoc N (sn' zs3) ((cx gk (a, b), 0), gp ++ [a * n + b])]; exact (.there _ (.there _ (.there _ (.there _ (.here _)))))) (by omega) ?_)
                    refine ⟨(Some'.weak (.take (.take (.take (.take (.skip (.take (.nil _)))))))), ?_⟩
                    refine DW.done (by kernel_rfl) ?_
                    refine Run.region ?_
                    refine Run.q (v := .slice (some ⟨gz, 0, none⟩) (zs3.length) cz) rfl (OpQ.y (OpY.pure rfl)) ?_
                    refine Run.q (v := .agg #[.slice A_un1 n c_un1]) rfl (OpQ.y (OpY.loadN (cs := [.slice A_un1 n c_un1]) Tagg_28 rfl (Cells.blk (.head _) ⟨rfl, trivial⟩))) ?_
                    refine Run.step rfl (OpStep.buildSlice (us := [.slice A_un1 n c_un1]) Tsl_102 (by decide) (by decide) ⟨rfl, [.slice A_un1 n c_un1], _, rfl, rfl, rfl, rfl⟩ rfl fun b5 => ?_)
                    refine Run.step rfl (OpStep.append (H1 := [.own (.slice (some ⟨b5, 0, none⟩) 1 1) 28 1 1 ([.slice A_un1 n c_un1]), .blk b4 28 [.slice A_un1 n c_un1], .own (.slice A_un1 n c_un1) 3 1 n (ints (nl (cx gk (a, b))))]) (H2 := [.grp 3 1 (lgp n zs3), .own (.slice (some ⟨b2, 0, none⟩) N N) 3 1 N (ints (farL N ((sn' zs3 ++ [((cx gk (a, b), 0), gp ++ [a * n + b])])))), .blk b1 28 [.slice Av n cv]]) (v := .slice (some ⟨gz, 0, none⟩) (zs3.length) cz) (u := .slice (some ⟨b5, 0, none⟩) 1 1) (n := zs3.length) (m := 1) (xs := locells zs3) (ys := [.slice A_un1 n c_un1]) Tsl_102 (by decide) rfl rfl rfl rfl (fun w hs => hs.slOwn (.head _)) (by simp [Value.oneCell']) (by omega) (by simp only [maxLen]; omega) fun av1 hnav1 => ?_)
                    refine Run.weak (H' := [.own (.slice (some ⟨b5, 0, none⟩) 1 1) 28 1 1 ([.slice A_un1 n c_un1]), .blk b4 28 [.slice A_un1 n c_un1], .own (.slice A_un1 n c_un1) 3 1 n (ints (nl (cx gk (a, b)))), .own av1 28 1 ((zs3 ++ [((.slice A_un1 n c_un1 : Value), ((cx gk (a, b), 0), gp ++ [a * n + b]))] : List LZ).length) (locells (zs3 ++ [((.slice A_un1 n c_un1 : Value), ((cx gk (a, b), 0), gp ++ [a * n + b]))])), .grp 3 1 (lgp n zs3), .own (.slice (some ⟨b2, 0, none⟩) N N) 3 1 N (ints (farL N ((sn' zs3 ++ [((cx gk (a, b), 0), gp ++ [a * n + b])])))), .blk b1 28 [.slice Av n cv]]) (Some'.weak (.take (.take (.take (.takeEq (by simp [locells]) (.take (.take (.take (.nil _))))))))) ?_ ⟨_, _, rfl, fun _ => nofun, fun _ => nofun⟩
                    refine Run.weak (H' := [.grp 3 1 (lgp n (zs3 ++ [((.slice A_un1 n c_un1 : Value), ((cx gk (a, b), 0), gp ++ [a * n + b]))])), .own (.slice (some ⟨b5, 0, none⟩) 1 1) 28 1 1 ([.slice A_un1 n c_un1]), .blk b4 28 [.slice A_un1 n c_un1], .own av1 28 1 ((zs3 ++ [((.slice A_un1 n c_un1 : Value), ((cx gk (a, b), 0), gp ++ [a * n + b]))] : List LZ).length) (locells (zs3 ++ [((.slice A_un1 n c_un1 : Value), ((cx gk (a, b), 0), gp ++ [a * n + b]))])), .own (.slice (some ⟨b2, 0, none⟩) N N) 3 1 N (ints (farL N ((sn' zs3 ++ [((cx gk (a, b), 0), gp ++ [a * n + b])])))), .blk b1 28 [.slice Av n cv]]) (((Weak.front [.own (.slice (some ⟨b5, 0, none⟩) 1 1) 28 1 1 ([.slice A_un1 n c_un1]), .blk b4 28 [.slice A_un1 n c_un1], .own (.slice A_un1 n c_un1) 3 1 n (ints (nl (cx gk (a, b)))), .own av1 28 1 ((zs3 ++ [((.slice A_un1 n c_un1 : Value), ((cx gk (a, b), 0), gp ++ [a * n + b]))] : List LZ).length) (locells (zs3 ++ [((.slice A_un1 n c_un1 : Value), ((cx gk (a, b), 0), gp ++ [a * n + b]))]))] (.grp 3 1 (lgp n zs3)) [.own (.slice (some ⟨b2, 0, none⟩) N N) 3 1 N (ints (farL N ((sn' zs3 ++ [((cx gk (a, b), 0), gp ++ [a * n + b])])))), .blk b1 28 [.slice Av n cv]]).trans (Weak.front [.grp 3 1 (lgp n zs3), .own (.slice (some ⟨b5, 0, none⟩) 1 1) 28 1 1 ([.slice A_un1 n c_un1]), .blk b4 28 [.slice A_un1 n c_un1]] (.own (.slice A_un1 n c_un1) 3 1 n (ints (nl (cx gk (a, b))))) [.own av1 28 1 ((zs3 ++ [((.slice A_un1 n c_un1 : Value), ((cx gk (a, b), 0), gp ++ [a * n + b]))] : List LZ).length) (locells (zs3 ++ [((.slice A_un1 n c_un1 : Value), ((cx gk (a, b), 0), gp ++ [a * n + b]))])), .own (.slice (some ⟨b2, 0, none⟩) N N) 3 1 N (ints (farL N ((sn' zs3 ++ [((cx gk (a, b), 0), gp ++ [a * n + b])])))), .blk b1 28 [.slice Av n cv]])).trans (Weak.lgSnoc (k := (cx gk (a, b), 0)) (p := gp ++ [a * n + b]))) ?_ ⟨_, _, rfl, fun _ => nofun, fun _ => nofun⟩
                    refine Run.q (v := av1) rfl (OpQ.y (OpY.pure rfl)) ?_
                    refine Run.done ?_
                    refine Run.blockEnd ?_
                    refine Run.region ?_
                    refine Run.q (v := .int .i64 (((b : Nat) : Int))) rfl (OpQ.y (OpY.pure rfl)) ?_
                    refine Run.q (v := .int .i64 ((((b : Nat) : Int)) + 1)) rfl (OpQ.y (OpY.add rfl rfl rfl (by omega) (by omega))) ?_
                    refine Run.q (v := .int .i64 ((((b : Nat) : Int)) + 1)) rfl (OpQ.y (OpY.pure rfl)) ?_
                    refine Run.done ?_
                    refine Run.goal ⟨(by repeat (first | exact Same.refl _ _ | refine Same.put rfl ?_ | refine Same.over rfl rfl ?_)), (b + 1, av1, (zs3 ++ [((.slice A_un1 n c_un1 : Value), ((cx gk (a, b), 0), gp ++ [a * n + b]))])), ?_, ?_, ?_, ?_⟩
                    · first | exact ⟨hltb, hbv.symm, t3, ht3⟩ | exact ⟨hltb, by rw [hbv]; simp [sn'], t3 ++ [_], by rw [ht3, List.append_assoc]⟩
                    · show n - (b + 1) < n - b; omega
                    · exact ⟨(by first | rfl | (congr 1; omega) | simp), (by first | rfl | (congr 1; omega) | simp), trivial⟩
                    · exact (((((Weak.front [.grp 3 1 (lgp n (zs3 ++ [((.slice A_un1 n c_un1 : Value), ((cx gk (a, b), 0), gp ++ [a * n + b]))])), .own (.slice (some ⟨b5, 0, none⟩) 1 1) 28 1 1 ([.slice A_un1 n c_un1]), .blk b4 28 [.slice A_un1 n c_un1], .own av1 28 1 ((zs3 ++ [((.slice A_un1 n c_un1 : Value), ((cx gk (a, b), 0), gp ++ [a * n + b]))] : List LZ).length) (locells (zs3 ++ [((.slice A_un1 n c_un1 : Value), ((cx gk (a, b), 0), gp ++ [a * n + b]))])), .own (.slice (some ⟨b2, 0, none⟩) N N) 3 1 N (ints (farL N ((sn' zs3 ++ [((cx gk (a, b), 0), gp ++ [a * n + b])]))))] (.blk b1 28 [.slice Av n cv]) []).trans (Weak.front [.blk b1 28 [.slice Av n cv], .grp 3 1 (lgp n (zs3 ++ [((.slice A_un1 n c_un1 : Value), ((cx gk (a, b), 0), gp ++ [a * n + b]))])), .own (.slice (some ⟨b5, 0, none⟩) 1 1) 28 1 1 ([.slice A_un1 n c_un1]), .blk b4 28 [.slice A_un1 n c_un1], .own av1 28 1 ((zs3 ++ [((.slice A_un1 n c_un1 : Value), ((cx gk (a, b), 0), gp ++ [a * n + b]))] : List LZ).length) (locells (zs3 ++ [((.slice A_un1 n c_un1 : Value), ((cx gk (a, b), 0), gp ++ [a * n + b]))]))] (.own (.slice (some ⟨b2, 0, none⟩) N N) 3 1 N (ints (farL N ((sn' zs3 ++ [((cx gk (a, b), 0), gp ++ [a * n + b])]))))) [])).trans (Weak.front [.own (.slice (some ⟨b2, 0, none⟩) N N) 3 1 N (ints (farL N ((sn' zs3 ++ [((cx gk (a, b), 0), gp ++ [a * n + b])])))), .blk b1 28 [.slice Av n cv]] (.grp 3 1 (lgp n (zs3 ++ [((.slice A_un1 n c_un1 : Value), ((cx gk (a, b), 0), gp ++ [a * n + b]))]))) [.own (.slice (some ⟨b5, 0, none⟩) 1 1) 28 1 1 ([.slice A_un1 n c_un1]), .blk b4 28 [.slice A_un1 n c_un1], .own av1 28 1 ((zs3 ++ [((.slice A_un1 n c_un1 : Value), ((cx gk (a, b), 0), gp ++ [a * n + b]))] : List LZ).length) (locells (zs3 ++ [((.slice A_un1 n c_un1 : Value), ((cx gk (a, b), 0), gp ++ [a * n + b]))]))])).trans (Weak.front [.grp 3 1 (lgp n (zs3 ++ [((.slice A_un1 n c_un1 : Value), ((cx gk (a, b), 0), gp ++ [a * n + b]))])), .own (.slice (some ⟨b2, 0, none⟩) N N) 3 1 N (ints (farL N ((sn' zs3 ++ [((cx gk (a, b), 0), gp ++ [a * n + b])])))), .blk b1 28 [.slice Av n cv], .own (.slice (some ⟨b5, 0, none⟩) 1 1) 28 1 1 ([.slice A_un1 n c_un1]), .blk b4 28 [.slice A_un1 n c_un1]] (.own av1 28 1 ((zs3 ++ [((.slice A_un1 n c_un1 : Value), ((cx gk (a, b), 0), gp ++ [a * n + b]))] : List LZ).length) (locells (zs3 ++ [((.slice A_un1 n c_un1 : Value), ((cx gk (a, b), 0), gp ++ [a * n + b]))]))) [])).trans (Some'.weak (.takeEq (by first | rfl | simp [sn']) (.takeEq (by first | rfl | simp [sn']) (.takeEq (by first | rfl | simp [sn']) (.take (.nil _)))))))
                  · have p62 := h62; try simp only [decide_eq_true_eq, decide_eq_false_iff_not, beq_iff_eq, bne_iff_ne, beq_eq_false_iff_ne, ne_eq, gt_iff_lt, ge_iff_le, Int.not_lt, Int.not_le, bne_eq_false_iff_eq, Bool.not_eq_true', Bool.not_eq_false', Bool.and_eq_true, Bool.and_eq_false_iff, Bool.or_eq_true, Bool.or_eq_false_iff, Decidable.not_not, List.cons.injEq, and_true] at p62
                    have hyin : (cx gk (a, b), 0) ∈ (sn' zs3).map (·.1) := Classical.byContradiction fun hn => absurd ((farL_pos hN h4 hfk3 hnd3 hnk).2 hn) (by simpa using h62)
                    have hbv : brow (lstep n []) (lok n) ((gk, 0), gp) (lq n i) (a * n + (b + 1)) = sn' zs3 := by
                      rw [← Nat.add_assoc, brow, ← hq3, bvis, hstep, if_neg (fun h => h.2 hyin)]
                    refine Run.skip ?_
                    refine Run.blockEnd ?_
                    refine Run.region ?_
                    refine Run.q (v := .int .i64 (((b : Nat) : Int))) rfl (OpQ.y (OpY.pure rfl)) ?_
                    refine Run.q (v := .int .i64 ((((b : Nat) : Int)) + 1)) rfl (OpQ.y (OpY.add rfl rfl rfl (by omega) (by omega))) ?_
                    refine Run.q (v := .int .i64 ((((b : Nat) : Int)) + 1)) rfl (OpQ.y (OpY.pure rfl)) ?_
                    refine Run.done ?_
                    refine Run.goal ⟨(by repeat (first | exact Same.refl _ _ | refine Same.put rfl ?_ | refine Same.over rfl rfl ?_)), (b + 1, .slice (some ⟨gz, 0, none⟩) (zs3.length) cz, zs3), ?_, ?_, ?_, ?_⟩
                    · first | exact ⟨hltb, hbv.symm, t3, ht3⟩ | exact ⟨hltb, by rw [hbv]; simp [sn'], t3 ++ [_], by rw [ht3, List.append_assoc]⟩
                    · show n - (b + 1) < n - b; omega
                    · exact ⟨(by first | rfl | (congr 1; omega) | simp), (by first | rfl | (congr 1; omega) | simp), trivial⟩
                    · exact (((((Weak.front [.blk b4 28 [.slice A_un1 n c_un1], .own (.slice A_un1 n c_un1) 3 1 n (ints (nl (cx gk (a, b)))), .own (.slice (some ⟨gz, 0, none⟩) (zs3.length) cz) 28 1 (zs3.length) (locells zs3), .grp 3 1 (lgp n zs3), .own (.slice (some ⟨b2, 0, none⟩) N N) 3 1 N (ints (farL N (sn' zs3)))] (.blk b1 28 [.slice Av n cv]) []).trans (Weak.front [.blk b1 28 [.slice Av n cv], .blk b4 28 [.slice A_un1 n c_un1], .own (.slice A_un1 n c_un1) 3 1 n (ints (nl (cx gk (a, b)))), .own (.slice (some ⟨gz, 0, none⟩) (zs3.length) cz) 28 1 (zs3.length) (locells zs3), .grp 3 1 (lgp n zs3)] (.own (.slice (some ⟨b2, 0, none⟩) N N) 3 1 N (ints (farL N (sn' zs3)))) [])).trans (Weak.front [.own (.slice (some ⟨b2, 0, none⟩) N N) 3 1 N (ints (farL N (sn' zs3))), .blk b1 28 [.slice Av n cv], .blk b4 28 [.slice A_un1 n c_un1], .own (.slice A_un1 n c_un1) 3 1 n (ints (nl (cx gk (a, b)))), .own (.slice (some ⟨gz, 0, none⟩) (zs3.length) cz) 28 1 (zs3.length) (locells zs3)] (.grp 3 1 (lgp n zs3)) [])).trans (Weak.front [.grp 3 1 (lgp n zs3), .own (.slice (some ⟨b2, 0, none⟩) N N) 3 1 N (ints (farL N (sn' zs3))), .blk b1 28 [.slice Av n cv], .blk b4 28 [.slice A_un1 n c_un1], .own (.slice A_un1 n c_un1) 3 1 n (ints (nl (cx gk (a, b))))] (.own (.slice (some ⟨gz, 0, none⟩) (zs3.length) cz) 28 1 (zs3.length) (locells zs3)) [])).trans (Some'.weak (.takeEq (by first | rfl | simp [sn']) (.takeEq (by first | rfl | simp [sn']) (.takeEq (by first | rfl | simp [sn']) (.take (.nil _)))))))
              · have p44 := h44; try simp only [decide_eq_true_eq, decide_eq_false_iff_not, beq_iff_eq, bne_iff_ne, beq_eq_false_iff_ne, ne_eq, gt_iff_lt, ge_iff_le, Int.not_lt, Int.not_le, bne_eq_false_iff_eq, Bool.not_eq_true', Bool.not_eq_false', Bool.and_eq_true, Bool.and_eq_false_iff, Bool.or_eq_true, Bool.or_eq_false_iff, Decidable.not_not, List.cons.injEq, and_true] at p44
                have hbn : b = n := by omega
                obtain ⟨_, hq3, ⟨t3, ht3⟩⟩ := hinv
                have hQ2 : sn' zs3 = brow (lstep n []) (lok n) ((gk, 0), gp) (lq n i) ((a + 1) * n) := by rw [hq3, hbn, Nat.add_mul, Nat.one_mul]
                refine Run.exit rfl ?_
                refine Run.blockEnd ?_
                refine Run.region ?_
                refine Run.q (v := .int .i64 (((a : Nat) : Int))) rfl (OpQ.y (OpY.pure rfl)) ?_
                refine Run.q (v := .int .i64 ((((a : Nat) : Int)) + 1)) rfl (OpQ.y (OpY.add rfl rfl rfl (by omega) (by omega))) ?_
                refine Run.q (v := .int .i64 ((((a : Nat) : Int)) + 1)) rfl (OpQ.y (OpY.pure rfl)) ?_
                refine Run.done ?_
                refine Run.goal ⟨(by repeat (first | exact Same.refl _ _ | refine Same.put rfl ?_ | refine Same.over rfl rfl ?_)), (a + 1, vl3, zs3), ?_, ?_, ?_, ?_⟩
                · exact ⟨hlta, hQ2, t3, ht3⟩
                · show n - (a + 1) < n - a; omega
                · exact ⟨(by first | rfl | (congr 1; omega) | simp), (by first | rfl | (congr 1; omega) | simp), trivial⟩
                · exact (((((Weak.front [.own vl3 28 1 (zs3.length) (locells zs3), .grp 3 1 (lgp n zs3), .own (.slice (some ⟨b2, 0, none⟩) N N) 3 1 N (ints (farL N (sn' zs3)))] (.blk b1 28 [.slice Av n cv]) []).trans (Weak.front [.blk b1 28 [.slice Av n cv], .own vl3 28 1 (zs3.length) (locells zs3), .grp 3 1 (lgp n zs3)] (.own (.slice (some ⟨b2, 0, none⟩) N N) 3 1 N (ints (farL N (sn' zs3)))) [])).trans (Weak.front [.own (.slice (some ⟨b2, 0, none⟩) N N) 3 1 N (ints (farL N (sn' zs3))), .blk b1 28 [.slice Av n cv], .own vl3 28 1 (zs3.length) (locells zs3)] (.grp 3 1 (lgp n zs3)) [])).trans (Weak.front [.grp 3 1 (lgp n zs3), .own (.slice (some ⟨b2, 0, none⟩) N N) 3 1 N (ints (farL N (sn' zs3))), .blk b1 28 [.slice Av n cv]] (.own vl3 28 1 (zs3.length) (locells zs3)) [])).trans (Some'.weak (.takeEq (by first | rfl | simp) (.takeEq (by first | rfl | simp) (.takeEq (by first | rfl | simp) (.take (.nil _)))))))
          · have p39 := h39; try simp only [decide_eq_true_eq, decide_eq_false_iff_not, beq_iff_eq, bne_iff_ne, beq_eq_false_iff_ne, ne_eq, gt_iff_lt, ge_iff_le, Int.not_lt, Int.not_le, bne_eq_false_iff_eq, Bool.not_eq_true', Bool.not_eq_false', Bool.and_eq_true, Bool.and_eq_false_iff, Bool.or_eq_true, Bool.or_eq_false_iff, Decidable.not_not, List.cons.injEq, and_true] at p39
            have han : a = n := by omega
            obtain ⟨_, hq2, ⟨t2, ht2⟩⟩ := hinv
            have hQ1 : sn' zs2 = lq n (i + 1) := by rw [hq2, han]; exact (bfs_succ hzx).symm
            refine Run.exit rfl ?_
            refine Run.blockEnd ?_
            refine Run.region ?_
            refine Run.q (v := .int .i64 (((i : Nat) : Int))) rfl (OpQ.y (OpY.pure rfl)) ?_
            refine Run.q (v := .int .i64 ((((i : Nat) : Int)) + 1)) rfl (OpQ.y (OpY.add rfl rfl rfl (by omega) (by omega))) ?_
            refine Run.q (v := .int .i64 ((((i : Nat) : Int)) + 1)) rfl (OpQ.y (OpY.pure rfl)) ?_
            refine Run.done ?_
            refine Run.goal ⟨(by repeat (first | exact Same.refl _ _ | refine Same.put rfl ?_ | refine Same.over rfl rfl ?_)), (i + 1, vl2, zs2), ?_, ?_, ?_, ?_⟩
            · exact hQ1
            · show 65537 - (i + 1) < 65537 - i; omega
            · exact ⟨(by first | rfl | (congr 1; omega) | simp), (by first | rfl | (congr 1; omega) | simp), trivial⟩
            · exact (((((Weak.front [.own vl2 28 1 (zs2.length) (locells zs2), .grp 3 1 (lgp n zs2), .own (.slice (some ⟨b2, 0, none⟩) N N) 3 1 N (ints (farL N (sn' zs2)))] (.blk b1 28 [.slice Av n cv]) []).trans (Weak.front [.blk b1 28 [.slice Av n cv], .own vl2 28 1 (zs2.length) (locells zs2), .grp 3 1 (lgp n zs2)] (.own (.slice (some ⟨b2, 0, none⟩) N N) 3 1 N (ints (farL N (sn' zs2)))) [])).trans (Weak.front [.own (.slice (some ⟨b2, 0, none⟩) N N) 3 1 N (ints (farL N (sn' zs2))), .blk b1 28 [.slice Av n cv], .own vl2 28 1 (zs2.length) (locells zs2)] (.grp 3 1 (lgp n zs2)) [])).trans (Weak.front [.grp 3 1 (lgp n zs2), .own (.slice (some ⟨b2, 0, none⟩) N N) 3 1 N (ints (farL N (sn' zs2))), .blk b1 28 [.slice Av n cv]] (.own vl2 28 1 (zs2.length) (locells zs2)) [])).trans (Some'.weak (.takeEq (by first | rfl | simp) (.takeEq (by first | rfl | simp) (.takeEq (by first | rfl | simp) (.take (.nil _)))))))
      · have p34 := h34; try simp only [decide_eq_true_eq, decide_eq_false_iff_not, beq_iff_eq, bne_iff_ne, beq_eq_false_iff_ne, ne_eq, gt_iff_lt, ge_iff_le, Int.not_lt, Int.not_le, bne_eq_false_iff_eq, Bool.not_eq_true', Bool.not_eq_false', Bool.and_eq_true, Bool.and_eq_false_iff, Bool.or_eq_true, Bool.or_eq_false_iff, Decidable.not_not, List.cons.injEq, and_true] at p34
        have hinv0 := hinv
        have hend : (m, 0) ∈ (lq n i).map (·.1) := Classical.byContradiction fun hn => by
          have h := farL_miss (N := N) (fun y hy => lq_fK (i := i) h4 hy) hmk hn
          rw [← hinv] at h
          rw [h] at h34
          exact absurd h34 (by decide)
        refine Run.exit rfl ?_
        refine Run.seq ?_
        refine Run.region ?_
        refine Run.q (v := .slice (some ⟨b2, 0, none⟩) N N) rfl (OpQ.y (OpY.pure rfl)) ?_
        refine Run.q (v := .slice (some ⟨b2, 0, none⟩) N N) rfl (OpQ.y (OpY.pure rfl)) ?_
        refine Run.done ?_
        refine Run.ret ?_
        refine ⟨.slice (some ⟨b2, 0, none⟩) N N, [.own (.slice (some ⟨b2, 0, none⟩) N N) 3 1 N (ints (farL N (lq n i)))], Out.one rfl rfl, (Some'.weak (.skip (.skip (.takeEq (by first | rfl | (rw [hinv0])) (.nil _))))), ?_⟩
        exact ⟨i, hend, rfl⟩
    · refine Run.q (v := .bool false) rfl (OpQ.y (OpY.moveB rfl h27)) ?_
      have p27 := h27; try simp only [decide_eq_true_eq, decide_eq_false_iff_not, beq_iff_eq, bne_iff_ne, beq_eq_false_iff_ne, ne_eq, gt_iff_lt, ge_iff_le, Int.not_lt, Int.not_le, bne_eq_false_iff_eq, Bool.not_eq_true', Bool.not_eq_false', Bool.and_eq_true, Bool.and_eq_false_iff, Bool.or_eq_true, Bool.or_eq_false_iff, Decidable.not_not, List.cons.injEq, and_true] at p27
      have hend : (m, 0) ∈ (lq n i).map (·.1) := hgoal i (by rw [← hinv, List.length_map]; omega)
      have hinv0 := hinv
      refine Run.pass rfl ?_
      refine Run.pass rfl ?_
      refine Run.pass rfl ?_
      refine Run.pass rfl ?_
      refine Run.pass rfl ?_
      refine Run.pass rfl ?_
      refine Run.q (v := .bool false) rfl (OpQ.y (OpY.pure rfl)) ?_
      refine Run.done ?_
      refine Run.cond (b := false) rfl (fun h => nomatch h) (fun _ => ?_)
      refine Run.exit rfl ?_
      refine Run.seq ?_
      refine Run.region ?_
      refine Run.q (v := .slice (some ⟨b2, 0, none⟩) N N) rfl (OpQ.y (OpY.pure rfl)) ?_
      refine Run.q (v := .slice (some ⟨b2, 0, none⟩) N N) rfl (OpQ.y (OpY.pure rfl)) ?_
      refine Run.done ?_
      refine Run.ret ?_
      refine ⟨.slice (some ⟨b2, 0, none⟩) N N, [.own (.slice (some ⟨b2, 0, none⟩) N N) 3 1 N (ints (farL N (lq n i)))], Out.one rfl rfl, (Some'.weak (.skip (.skip (.takeEq (by first | rfl | (rw [hinv0])) (.nil _))))), ?_⟩
      exact ⟨i, hend, rfl⟩

end Go.Proofs.Yteehfidjofcfmaa
