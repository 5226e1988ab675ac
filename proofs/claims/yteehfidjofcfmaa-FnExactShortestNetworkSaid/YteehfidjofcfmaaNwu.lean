/- Walks: the reference's search for networks. -/
import Derived.Test.YteehfidjofcfmaaNwt
import Derived.Test.YteehfidjofcfmaaProg
set_option linter.unusedSimpArgs false
set_option linter.unusedVariables false
namespace Go.Proofs.Yteehfidjofcfmaa
open Go Go.RowKit
namespace NwuT
theorem Tagg_28 : aggOf Try.prog 28 = some 1 := by kernel_rfl
theorem Tagg_38 : aggOf Try.prog 38 = some 2 := by kernel_rfl
theorem Tagg_71 : aggOf Try.prog 71 = some 3 := by kernel_rfl
theorem Tagg_77 : aggOf Try.prog 77 = some 7 := by kernel_rfl
theorem Tcall_49 : callable Try.prog 49 = true := by kernel_rfl
theorem Tcall_50 : callable Try.prog 50 = true := by kernel_rfl
theorem Tcall_70 : callable Try.prog 70 = true := by kernel_rfl
theorem Tcall_71 : callable Try.prog 71 = true := by kernel_rfl
theorem Tcall_90 : callable Try.prog 90 = true := by kernel_rfl
theorem Tcall_91 : callable Try.prog 91 = true := by kernel_rfl
theorem Tfo_28_0 : fieldOff Try.prog 28 0 = some 0 := by kernel_rfl
theorem Tfo_38_1 : fieldOff Try.prog 38 1 = some 1 := by kernel_rfl
theorem Tfo_77_0 : fieldOff Try.prog 77 0 = some 0 := by kernel_rfl
theorem Tfo_77_1 : fieldOff Try.prog 77 1 = some 1 := by kernel_rfl
theorem Tfo_77_2 : fieldOff Try.prog 77 2 = some 2 := by kernel_rfl
theorem Tfo_77_3 : fieldOff Try.prog 77 3 = some 3 := by kernel_rfl
theorem Tint_96 : Try.prog.underlying 96 = some (.int .u64) := by kernel_rfl
theorem Tone_22 : oneOf Try.prog 22 = true := by kernel_rfl
theorem Tone_3 : oneOf Try.prog 3 = true := by kernel_rfl
theorem Tone_36 : oneOf Try.prog 36 = true := by kernel_rfl
theorem Tone_4 : oneOf Try.prog 4 = true := by kernel_rfl
theorem Tsize_3 : (Try.prog.info? 3).map (·.size) = some 1 := by kernel_rfl
theorem Tsize_36 : (Try.prog.info? 36).map (·.size) = some 1 := by kernel_rfl
theorem Tsize_38 : (Try.prog.info? 38).map (·.size) = some 2 := by kernel_rfl
theorem Tsize_4 : (Try.prog.info? 4).map (·.size) = some 1 := by kernel_rfl
theorem Tsize_77 : (Try.prog.info? 77).map (·.size) = some 7 := by kernel_rfl
theorem Tsl_104 : sliceOf Try.prog 104 = some (4, 1, 1, [.bool false]) := by kernel_rfl
theorem Tsl_22 : sliceOf Try.prog 22 = some (3, 1, 8, [.int .i64 0]) := by kernel_rfl
theorem Tsl_36 : sliceOf Try.prog 36 = some (71, 3, 24, [.int .i64 0, .int .i64 0, .int .i64 0]) := by kernel_rfl
theorem Tsl_67 : sliceOf Try.prog 67 = some (77, 7, 72, [.slice none 0 0, .int .i64 0, .int .i64 0, .int .i64 0, .int .i64 0, .int .i64 0, .int .i64 0]) := by kernel_rfl
theorem Tsome_3 : (Try.prog.underlying 3).isSome = true := by kernel_rfl
theorem Tzero_38 : zeroOf Try.prog 38 = some [.int .i64 0, .slice none 0 0] := by kernel_rfl
theorem Tzero_77 : zeroOf Try.prog 77 = some [.slice none 0 0, .int .i64 0, .int .i64 0, .int .i64 0, .int .i64 0, .int .i64 0, .int .i64 0] := by kernel_rfl
end NwuT
open NwuT

theorem preN_sub {cs : List Value} {b o : Nat} {z : NZ} {ys : List Value} (h : Pre cs b (ncell z)) (hy : ((ncell z).drop o).take ys.length = ys) : Pre cs (b + o) ys := by
  refine Pre.of fun j v hv => ?_
  have := h.get (o + j) v (by
    rw [← hy] at hv
    rw [List.getElem?_take] at hv
    split at hv
    · rwa [List.getElem?_drop] at hv
    · cases hv)
  rwa [← Nat.add_assoc] at this

set_option maxHeartbeats 4000000 in
set_option maxRecDepth 20000 in
theorem l14Search_spec {va vm : Value} {n : Nat} {xs ms : List Int} {w : World} (hxl : xs.length = n) (hgood : nwB n xs ms = true) (ha : Sl w va 1 n (ints xs)) (hms : Sl w vm 1 ms.length (ints ms)) : Calls Try.prog 50 #[.agg #[va], vm] w (Post No w fun v H => ∃ os : List NZ, os.map (fun z => z.2.2.2) = (nwG n xs ms).reverse.map (gt3 n) ++ [(0, (0, 0))] ∧ H = [.own v 77 7 os.length (ncells os)]) := by
  obtain ⟨Av, cv, rfl, hnc, _⟩ := ha.form0
  have hn := ha.le
  obtain ⟨Am, cm, rfl, hmc, _⟩ := hms.form0
  have hok := nw_ok hxl hgood
  obtain ⟨h3, h1n, hnl, hml, hmb, hmi, hmk, hm7, hfd, hone, hlen, hbw⟩ := hok
  obtain ⟨m, hm⟩ : ∃ m, m = nats xs := ⟨_, rfl⟩
  rw [← hm] at hnl hml hmb hmi hfd hone
  obtain ⟨N, hN⟩ : ∃ N : Nat, N = 65536 := ⟨_, rfl⟩
  obtain ⟨q0, hq0⟩ : ∃ q : Nat, q = 2 ^ ms.length := ⟨_, rfl⟩
  have hq0b : q0 ≤ 128 := by rw [hq0]; exact Nat.le_trans (Nat.pow_le_pow_right (by omega) hm7) (by decide)
  have hq1 : 1 ≤ q0 := by rw [hq0]; exact Nat.two_pow_pos _
  obtain ⟨gq, hgq⟩ : ∃ q : Nat, q = q0 - 1 := ⟨_, rfl⟩
  have hgq2 : 2 ^ ms.length - 1 = gq := by rw [hgq, hq0]
  rw [hgq2] at hfd hone
  have hkm : mK n ms (m, gq) := ⟨hml, hmb, by rw [← hq0]; show gq < q0; omega⟩
  have h9 : n * n ≤ 9 := Nat.le_trans (Nat.mul_le_mul h3 h3) (by omega)
  have h0f : apF ms n < 128 := by have h := apF_lt (ms := ms) n; rw [← hq0] at h; omega
  have hcN : ∀ {k : List Nat × Nat}, mK n ms k → cdE k < N := fun h => by rw [hN]; exact cdE_lt h3 hm7 h
  have hmc2 := hcN hkm
  have hic := hcN (mK_id n ms)
  refine enter (n := 129) (args := [.agg #[.slice Av n cv], .slice Am (ms.length) cm]) Try.func50 rfl rfl (St.empty _ _) ?_
  refine Run.seq ?_
  refine Run.region ?_
  refine Run.step rfl (OpStep.box (us := [.slice Av n cv]) rfl fun b1 => ?_)
  refine Run.q (v := .slice none 0 0) rfl (OpQ.y (OpY.pure rfl)) ?_
  refine Run.done ?_
  refine Run.seq ?_
  refine Run.region ?_
  refine Run.q (v := .pointer (some ⟨b1, 0, none⟩)) rfl (OpQ.y (OpY.fieldAddr Tfo_28_0 rfl rfl)) ?_
  refine Run.q (v := .slice Av n cv) rfl (OpQ.y (OpY.load1 Tone_22 rfl (Cells.blk (.head _) ⟨rfl, trivial⟩))) ?_
  refine Run.q (v := .int .i64 (((n : Nat) : Int))) rfl (OpQ.y (OpY.len Tsl_22 rfl)) ?_
  refine Run.q (v := .int .i64 (((n : Nat) : Int))) rfl (OpQ.y (OpY.pure rfl)) ?_
  refine Run.done ?_
  refine Run.seq ?_
  refine Run.region ?_
  refine Run.q (v := .int .i64 (((n : Nat) : Int))) rfl (OpQ.y (OpY.pure rfl)) ?_
  refine Run.step rfl (OpStep.call (vs := [.int .i64 (((n : Nat) : Int))]) (caps := []) Tcall_70 rfl rfl (fun w hs => l12Identity_spec (by omega) w) ?_)
  rintro _ _ ⟨uI, rfl, rfl⟩
  show Run _ _ (putF _ _ _ (.agg #[uI])) [.own uI 3 1 n (ints (nl (idL n))), .blk b1 28 [.slice Av n cv]]
  refine Run.formOwn (.head _) (fun A_uI1 c_uI1 hv hcapc_uI1 hmaxc_uI1 => ?_) (fun _ _ _ => ⟨nofun, nofun, nofun⟩)
  subst hv
  refine Run.q (v := .agg #[.slice A_uI1 n c_uI1, .int .i64 0, .int .i64 (-1), .int .i64 0, .int .i64 0, .int .i64 0, .int .i64 0]) rfl (OpQ.y (OpY.build (cs := [.slice A_uI1 n c_uI1, .int .i64 0, .int .i64 (-1), .int .i64 0, .int .i64 0, .int .i64 0, .int .i64 0]) (by kernel_rfl))) ?_
  refine Run.step rfl (OpStep.alloc (zs := [.slice none 0 0, .int .i64 0, .int .i64 0, .int .i64 0, .int .i64 0, .int .i64 0, .int .i64 0]) Tzero_77 fun b2 => ?_)
  refine Run.step rfl (OpStep.storeAll (us := [.slice A_uI1 n c_uI1, .int .i64 0, .int .i64 (-1), .int .i64 0, .int .i64 0, .int .i64 0, .int .i64 0]) Tsize_77 rfl rfl rfl (.here _) rfl ?_)
  refine Run.done ?_
  refine Run.seq ?_
  refine Run.region ?_
  refine Run.q (v := .pointer (some ⟨b2, 0, none⟩)) rfl (OpQ.y (OpY.fieldAddr Tfo_77_0 rfl rfl)) ?_
  refine Run.q (v := .agg #[.slice A_uI1 n c_uI1]) rfl (OpQ.y (OpY.loadN (cs := [.slice A_uI1 n c_uI1]) Tagg_28 rfl (Cells.blk (.head _) ⟨rfl, trivial⟩))) ?_
  refine Run.q (v := .slice Am (ms.length) cm) rfl (OpQ.y (OpY.pure rfl)) ?_
  refine Run.q (v := .int .i64 (((apF ms n : Nat) : Int))) rfl (OpQ.call (vs := [.int .i64 0, .agg #[.slice A_uI1 n c_uI1], .slice Am (ms.length) cm]) (caps := []) Tcall_90 rfl rfl (fun w hs => (by have h := l14Seen_spec (f := 0) (l := idL n) hm7 (Nat.two_pow_pos _) (by rw [idL_length]; exact hs.slOwn (.tail _ (List.Mem.head _))) (hs.sl hms); rw [seen_first hmk] at h; exact h))) ?_
  refine Run.q (v := .pointer (some ⟨b2, 1, none⟩)) rfl (OpQ.y (OpY.fieldAddr Tfo_77_1 rfl rfl)) ?_
  refine Run.step rfl (OpStep.store (us := [.int .i64 (((apF ms n : Nat) : Int))]) Tsize_3 rfl rfl rfl (.here _) (by simp only [List.length_cons, List.length_nil]; omega) ?_)
  show Run _ _ _ [.blk b2 77 [.slice A_uI1 n c_uI1, .int .i64 (((apF ms n : Nat) : Int)), .int .i64 (-1), .int .i64 0, .int .i64 0, .int .i64 0, .int .i64 0], .own (.slice A_uI1 n c_uI1) 3 1 n (ints (nl (idL n))), .blk b1 28 [.slice Av n cv]]
  refine Run.done ?_
  refine Run.seq ?_
  refine Run.region ?_
  refine Run.q (v := .agg #[.slice A_uI1 n c_uI1, .int .i64 (((apF ms n : Nat) : Int)), .int .i64 (-1), .int .i64 0, .int .i64 0, .int .i64 0, .int .i64 0]) rfl (OpQ.y (OpY.loadN (cs := [.slice A_uI1 n c_uI1, .int .i64 (((apF ms n : Nat) : Int)), .int .i64 (-1), .int .i64 0, .int .i64 0, .int .i64 0, .int .i64 0]) Tagg_77 rfl (Cells.blk (.head _) ⟨rfl, rfl, rfl, rfl, rfl, rfl, rfl, trivial⟩))) ?_
  refine Run.step rfl (OpStep.buildSlice (us := [.slice A_uI1 n c_uI1, .int .i64 (((apF ms n : Nat) : Int)), .int .i64 (-1), .int .i64 0, .int .i64 0, .int .i64 0, .int .i64 0]) Tsl_67 (by decide) (by decide) ⟨rfl, [.slice A_uI1 n c_uI1, .int .i64 (((apF ms n : Nat) : Int)), .int .i64 (-1), .int .i64 0, .int .i64 0, .int .i64 0, .int .i64 0], _, rfl, rfl, rfl, rfl⟩ rfl fun b3 => ?_)
  refine Run.q (v := .slice (some ⟨b3, 0, none⟩) 1 1) rfl (OpQ.y (OpY.pure rfl)) ?_
  refine Run.done ?_
  refine Run.seq ?_
  refine Run.region ?_
  refine Run.step rfl (@OpStep.makeSlice _ _ _ _ _ _ _ _ _ 104 (.const (.int .i64 65536)) (.const (.int .i64 65536)) _ _ _ N _ .i64 .i64 Tsl_104 rfl (by decide) (by exact congrArg (Value.int .i64) (show (65536 : Int) = ((N : Nat) : Int) from by omega)) (by exact congrArg (Value.int .i64) (show (65536 : Int) = ((N : Nat) : Int) from by omega)) (by omega) (by simp only [maxLen]; omega) fun b4 => ?_)
  refine Run.q (v := .slice (some ⟨b4, 0, none⟩) N N) rfl (OpQ.y (OpY.pure rfl)) ?_
  refine Run.done ?_
  refine Run.seq ?_
  rw [bls_zero]
  refine Run.region ?_
  refine Run.q (v := .slice (some ⟨b4, 0, none⟩) N N) rfl (OpQ.y (OpY.pure rfl)) ?_
  refine Run.q (v := .agg #[.slice A_uI1 n c_uI1, .int .i64 (((apF ms n : Nat) : Int)), .int .i64 (-1), .int .i64 0, .int .i64 0, .int .i64 0, .int .i64 0]) rfl (OpQ.y (OpY.loadN (cs := [.slice A_uI1 n c_uI1, .int .i64 (((apF ms n : Nat) : Int)), .int .i64 (-1), .int .i64 0, .int .i64 0, .int .i64 0, .int .i64 0]) Tagg_77 rfl (Cells.blk (.tail _ (.tail _ (List.Mem.head _))) ⟨rfl, rfl, rfl, rfl, rfl, rfl, rfl, trivial⟩))) ?_
  refine Run.q (v := .int .i64 (((cdE (idL n, apF ms n) : Nat) : Int))) rfl (OpQ.call (vs := [.agg #[.slice A_uI1 n c_uI1, .int .i64 (((apF ms n : Nat) : Int)), .int .i64 (-1), .int .i64 0, .int .i64 0, .int .i64 0, .int .i64 0]]) (caps := []) Tcall_91 rfl rfl (fun w hs => (by have h := l14Code_spec (f := apF ms n) (l := idL n) (c2 := -1) (c3 := 0) (c4 := 0) (c5 := 0) (c6 := 0) (by rw [idL_length]; omega) h0f (mK8 h3 (mK_id n ms).2.1) (by rw [idL_length]; exact hs.slOwn (.tail _ (.tail _ (.tail _ (List.Mem.head _))))); rw [show cdS (apF ms n) (idL n) (idL n).length = cdE (idL n, apF ms n) from rfl] at h; exact h))) ?_
  refine Run.q (v := .pointer (some ⟨b4, cdE (idL n, apF ms n), none⟩)) rfl (OpQ.y (OpY.index (kk := cdE (idL n, apF ms n)) Tsl_104 rfl rfl (by omega) (by omega) (by first | rfl | omega))) ?_
  refine Run.step rfl (OpStep.storeOwn (us := [.bool true]) Tsize_4 rfl rfl rfl rfl (by rw [bls_set, ← metL_snoc]; exact (.here _)) (by simp only [List.length_cons, List.length_nil]; omega) ?_)
  refine Run.done ?_
  refine Run.weak (H' := [.grp 3 1 (gl ([])), .own (.slice (some ⟨b4, 0, none⟩) N N) 4 1 N (bls (metL N ([cdE (idL n, apF ms n)]))), .own (.slice (some ⟨b3, 0, none⟩) 1 1) 77 7 1 ([.slice A_uI1 n c_uI1, .int .i64 (((apF ms n : Nat) : Int)), .int .i64 (-1), .int .i64 0, .int .i64 0, .int .i64 0, .int .i64 0]), .blk b2 77 [.slice A_uI1 n c_uI1, .int .i64 (((apF ms n : Nat) : Int)), .int .i64 (-1), .int .i64 0, .int .i64 0, .int .i64 0, .int .i64 0], .own (.slice A_uI1 n c_uI1) 3 1 n (ints (nl (idL n))), .blk b1 28 [.slice Av n cv]]) (Weak.grpNil _ _) ?_ ⟨_, _, rfl, fun _ => nofun, fun _ => nofun⟩
  refine Run.weak (H' := [.grp 3 1 (ngp n ([((.slice A_uI1 n c_uI1 : Value), (((idL n, apF ms n), []), ((-1 : Int), ((0 : Int), ((0 : Int), (0 : Int))))))])), .own (.slice (some ⟨b4, 0, none⟩) N N) 4 1 N (bls (metL N ([cdE (idL n, apF ms n)]))), .own (.slice (some ⟨b3, 0, none⟩) 1 1) 77 7 1 ([.slice A_uI1 n c_uI1, .int .i64 (((apF ms n : Nat) : Int)), .int .i64 (-1), .int .i64 0, .int .i64 0, .int .i64 0, .int .i64 0]), .blk b2 77 [.slice A_uI1 n c_uI1, .int .i64 (((apF ms n : Nat) : Int)), .int .i64 (-1), .int .i64 0, .int .i64 0, .int .i64 0, .int .i64 0], .blk b1 28 [.slice Av n cv]]) ((Weak.front [.grp 3 1 (gl ([])), .own (.slice (some ⟨b4, 0, none⟩) N N) 4 1 N (bls (metL N ([cdE (idL n, apF ms n)]))), .own (.slice (some ⟨b3, 0, none⟩) 1 1) 77 7 1 ([.slice A_uI1 n c_uI1, .int .i64 (((apF ms n : Nat) : Int)), .int .i64 (-1), .int .i64 0, .int .i64 0, .int .i64 0, .int .i64 0]), .blk b2 77 [.slice A_uI1 n c_uI1, .int .i64 (((apF ms n : Nat) : Int)), .int .i64 (-1), .int .i64 0, .int .i64 0, .int .i64 0, .int .i64 0]] (.own (.slice A_uI1 n c_uI1) 3 1 n (ints (nl (idL n)))) [.blk b1 28 [.slice Av n cv]]).trans (Weak.ngSnoc (zs := []) (k := (idL n, apF ms n)) (p := []))) ?_ ⟨_, _, rfl, fun _ => nofun, fun _ => nofun⟩
  refine Run.seq ?_
  refine Run.region ?_
  refine Run.q (v := .agg #[.slice Av n cv]) rfl (OpQ.y (OpY.loadN (cs := [.slice Av n cv]) Tagg_28 rfl (Cells.blk (.tail _ (.tail _ (.tail _ (.tail _ (List.Mem.head _))))) ⟨rfl, trivial⟩))) ?_
  refine Run.q (v := .slice Am (ms.length) cm) rfl (OpQ.y (OpY.pure rfl)) ?_
  refine Run.q (v := .int .i64 (((ms.length : Nat) : Int))) rfl (OpQ.y (OpY.len Tsl_22 rfl)) ?_
  refine Run.q (v := .int .u64 (((ms.length : Nat) : Int))) rfl (OpQ.y (OpY.convIntEq Tsome_3 Tint_96 rfl (by rw [IntKind.wrap_u64]; omega))) ?_
  refine Run.q (v := .int .i64 (((q0 : Nat) : Int))) rfl (OpQ.y (OpY.shlOne rfl rfl rfl (by omega) hq0)) ?_
  refine Run.q (v := .int .i64 (((gq : Nat) : Int))) rfl (OpQ.y (OpY.sub rfl rfl (by omega) (by omega) (by omega))) ?_
  refine Run.q (v := .agg #[.slice Av n cv, .int .i64 (((gq : Nat) : Int)), .int .i64 0, .int .i64 0, .int .i64 0, .int .i64 0, .int .i64 0]) rfl (OpQ.y (OpY.build (cs := [.slice Av n cv, .int .i64 (((gq : Nat) : Int)), .int .i64 0, .int .i64 0, .int .i64 0, .int .i64 0, .int .i64 0]) (by kernel_rfl))) ?_
  refine Run.q (v := .int .i64 (((cdE (m, gq) : Nat) : Int))) rfl (OpQ.call (vs := [.agg #[.slice Av n cv, .int .i64 (((gq : Nat) : Int)), .int .i64 0, .int .i64 0, .int .i64 0, .int .i64 0, .int .i64 0]]) (caps := []) Tcall_91 rfl rfl (fun w hs => (by have h := l14Code_spec (va := .slice Av n cv) (f := gq) (l := m) (c2 := 0) (c3 := 0) (c4 := 0) (c5 := 0) (c6 := 0) (by omega) (by omega) (mK8 h3 hmb) (by rw [hml, hnl]; exact hs.sl ha); rw [show cdS gq m m.length = cdE (m, gq) from rfl] at h; exact h))) ?_
  refine Run.q (v := .int .i64 (((cdE (m, gq) : Nat) : Int))) rfl (OpQ.y (OpY.pure rfl)) ?_
  refine Run.done ?_
  refine Run.seq ?_
  refine Run.seq ?_
  refine Run.region ?_
  refine Run.q (v := .int .i64 0) rfl (OpQ.y (OpY.pure rfl)) ?_
  refine Run.done ?_
  refine Run.block ?_
  refine Run.loop (ι := Nat × Value × List NZ) ([4, 7, 10, 11, 12, 13, 14, 41, 42, 43, 44, 45, 46, 47, 48, 49, 50, 51, 52, 53, 54, 55, 56, 57, 58, 59, 60, 61, 62, 63, 64, 65, 66, 67, 68, 69, 70, 71, 72, 73, 74, 75, 76, 77, 78, 79, 80, 81, 82, 83] ++ [84, 85, 86, 87, 88, 89, 90, 91, 92, 93, 94, 95, 96, 97, 98, 99, 100, 101, 102, 103, 104, 105, 106, 107, 108, 109, 110, 111, 112, 113, 114, 115, 116, 117, 118, 119, 120, 121, 122, 123, 124, 125, 126, 127, 128]) (fun ⟨i, vl, zs⟩ => [(7, vl), (10, .int .i64 (((i : Nat) : Int)))]) (fun ⟨i, vl, zs⟩ => [.own vl 77 7 (zs.length) (ncells zs), .grp 3 1 (ngp n zs), .own (.slice (some ⟨b4, 0, none⟩) N N) 4 1 N (bls (metL N (ncd zs))), .blk b2 77 [.slice A_uI1 n c_uI1, .int .i64 (((apF ms n : Nat) : Int)), .int .i64 (-1), .int .i64 0, .int .i64 0, .int .i64 0, .int .i64 0], .blk b1 28 [.slice Av n cv]]) (fun ⟨i, vl, zs⟩ => nk zs = mQ n ms i ∧ Linked n zs ∧ ∀ j, j < i → ∀ z, zs[j]? = some z → z.2.1.1 ≠ (m, gq)) (fun ⟨i, vl, zs⟩ => 1000001 - i) (0, .slice (some ⟨b3, 0, none⟩) 1 1, [((.slice A_uI1 n c_uI1 : Value), (((idL n, apF ms n), ([] : List Nat)), ((-1 : Int), ((0 : Int), ((0 : Int), (0 : Int))))))]) ?_ ?_ ?_ ?_
  · exact ⟨rfl, Linked.one ⟨rfl, rfl⟩, fun j hj => absurd hj (by omega)⟩
  · exact ⟨rfl, rfl, trivial⟩
  · exact ((((((Weak.front [.grp 3 1 (ngp n ([((.slice A_uI1 n c_uI1 : Value), (((idL n, apF ms n), []), ((-1 : Int), ((0 : Int), ((0 : Int), (0 : Int))))))])), .own (.slice (some ⟨b4, 0, none⟩) N N) 4 1 N (bls (metL N ([cdE (idL n, apF ms n)]))), .own (.slice (some ⟨b3, 0, none⟩) 1 1) 77 7 1 ([.slice A_uI1 n c_uI1, .int .i64 (((apF ms n : Nat) : Int)), .int .i64 (-1), .int .i64 0, .int .i64 0, .int .i64 0, .int .i64 0]), .blk b2 77 [.slice A_uI1 n c_uI1, .int .i64 (((apF ms n : Nat) : Int)), .int .i64 (-1), .int .i64 0, .int .i64 0, .int .i64 0, .int .i64 0]] (.blk b1 28 [.slice Av n cv]) []).trans (Weak.front [.blk b1 28 [.slice Av n cv], .grp 3 1 (ngp n ([((.slice A_uI1 n c_uI1 : Value), (((idL n, apF ms n), []), ((-1 : Int), ((0 : Int), ((0 : Int), (0 : Int))))))])), .own (.slice (some ⟨b4, 0, none⟩) N N) 4 1 N (bls (metL N ([cdE (idL n, apF ms n)]))), .own (.slice (some ⟨b3, 0, none⟩) 1 1) 77 7 1 ([.slice A_uI1 n c_uI1, .int .i64 (((apF ms n : Nat) : Int)), .int .i64 (-1), .int .i64 0, .int .i64 0, .int .i64 0, .int .i64 0])] (.blk b2 77 [.slice A_uI1 n c_uI1, .int .i64 (((apF ms n : Nat) : Int)), .int .i64 (-1), .int .i64 0, .int .i64 0, .int .i64 0, .int .i64 0]) [])).trans (Weak.front [.blk b2 77 [.slice A_uI1 n c_uI1, .int .i64 (((apF ms n : Nat) : Int)), .int .i64 (-1), .int .i64 0, .int .i64 0, .int .i64 0, .int .i64 0], .blk b1 28 [.slice Av n cv], .grp 3 1 (ngp n ([((.slice A_uI1 n c_uI1 : Value), (((idL n, apF ms n), []), ((-1 : Int), ((0 : Int), ((0 : Int), (0 : Int))))))]))] (.own (.slice (some ⟨b4, 0, none⟩) N N) 4 1 N (bls (metL N ([cdE (idL n, apF ms n)])))) [.own (.slice (some ⟨b3, 0, none⟩) 1 1) 77 7 1 ([.slice A_uI1 n c_uI1, .int .i64 (((apF ms n : Nat) : Int)), .int .i64 (-1), .int .i64 0, .int .i64 0, .int .i64 0, .int .i64 0])])).trans (Weak.front [.own (.slice (some ⟨b4, 0, none⟩) N N) 4 1 N (bls (metL N ([cdE (idL n, apF ms n)]))), .blk b2 77 [.slice A_uI1 n c_uI1, .int .i64 (((apF ms n : Nat) : Int)), .int .i64 (-1), .int .i64 0, .int .i64 0, .int .i64 0, .int .i64 0], .blk b1 28 [.slice Av n cv]] (.grp 3 1 (ngp n ([((.slice A_uI1 n c_uI1 : Value), (((idL n, apF ms n), []), ((-1 : Int), ((0 : Int), ((0 : Int), (0 : Int))))))]))) [.own (.slice (some ⟨b3, 0, none⟩) 1 1) 77 7 1 ([.slice A_uI1 n c_uI1, .int .i64 (((apF ms n : Nat) : Int)), .int .i64 (-1), .int .i64 0, .int .i64 0, .int .i64 0, .int .i64 0])])).trans (Weak.front [.grp 3 1 (ngp n ([((.slice A_uI1 n c_uI1 : Value), (((idL n, apF ms n), []), ((-1 : Int), ((0 : Int), ((0 : Int), (0 : Int))))))])), .own (.slice (some ⟨b4, 0, none⟩) N N) 4 1 N (bls (metL N ([cdE (idL n, apF ms n)]))), .blk b2 77 [.slice A_uI1 n c_uI1, .int .i64 (((apF ms n : Nat) : Int)), .int .i64 (-1), .int .i64 0, .int .i64 0, .int .i64 0, .int .i64 0], .blk b1 28 [.slice Av n cv]] (.own (.slice (some ⟨b3, 0, none⟩) 1 1) 77 7 1 ([.slice A_uI1 n c_uI1, .int .i64 (((apF ms n : Nat) : Int)), .int .i64 (-1), .int .i64 0, .int .i64 0, .int .i64 0, .int .i64 0])) [])).trans (Some'.weak (.takeEq (by first | rfl | simp) (.takeEq (by first | rfl | simp) (.takeEq (by first | rfl | simp) (.take (.take (.nil _))))))))
  · rintro ⟨i, vl, zs⟩ fr hinv
    show Run _ _ (over _ _ [(7, vl), (10, .int .i64 (((i : Nat) : Int)))] fr) [.own vl 77 7 (zs.length) (ncells zs), .grp 3 1 (ngp n zs), .own (.slice (some ⟨b4, 0, none⟩) N N) 4 1 N (bls (metL N (ncd zs))), .blk b2 77 [.slice A_uI1 n c_uI1, .int .i64 (((apF ms n : Nat) : Int)), .int .i64 (-1), .int .i64 0, .int .i64 0, .int .i64 0, .int .i64 0], .blk b1 28 [.slice Av n cv]]
    try dsimp only at hinv
    refine Run.seq ?_
    refine Run.seq ?_
    refine Run.region ?_
    refine Run.q (v := .int .i64 (((i : Nat) : Int))) rfl (OpQ.y (OpY.pure rfl)) ?_
    refine Run.q (v := vl) rfl (OpQ.y (OpY.pure rfl)) ?_
    refine Run.formOwn (.head _) (fun A_vl1 c_vl1 hv hcapc_vl1 hmaxc_vl1 => ?_) (fun _ _ _ => ⟨nofun, nofun, nofun⟩)
    subst hv
    refine Run.q (v := .int .i64 (((zs.length : Nat) : Int))) rfl (OpQ.y (OpY.len Tsl_67 rfl)) ?_
    refine Run.q (v := .bool (decide ((((i : Nat) : Int)) < (((zs.length : Nat) : Int))))) rfl (OpQ.y (OpY.pure rfl)) ?_
    refine Run.done ?_
    refine Run.cond (b := decide ((((i : Nat) : Int)) < (((zs.length : Nat) : Int)))) rfl (fun h44 => ?_) (fun h44 => ?_)
    · have p44 := h44; try simp only [decide_eq_true_eq, decide_eq_false_iff_not, beq_iff_eq, bne_iff_ne, beq_eq_false_iff_ne, ne_eq, gt_iff_lt, ge_iff_le, Int.not_lt, Int.not_le, bne_eq_false_iff_eq, Bool.not_eq_true', Bool.not_eq_false', Bool.and_eq_true, Bool.and_eq_false_iff, Bool.or_eq_true, Bool.or_eq_false_iff, Decidable.not_not, List.cons.injEq, and_true] at p44
      have hil : i < zs.length := by omega
      obtain ⟨hzq, hlk, hnf⟩ := hinv
      obtain ⟨⟨gv, ⟨⟨⟨gk, gf⟩, gp⟩, ⟨gr, ⟨g1, ⟨g2, g3⟩⟩⟩⟩⟩, hz⟩ : ∃ z, zs[i]? = some z := ⟨_, List.getElem?_eq_getElem hil⟩
      have hzx : (mQ n ms i)[i]? = some ((gk, gf), gp) := by rw [← hzq, List.getElem?_map, hz]; rfl
      have hgk : mK n ms (gk, gf) := mQ_key (List.mem_of_getElem? hzx)
      have hgf : gf < 128 := by have h : gf < 2 ^ ms.length := hgk.2.2; omega
      have hgc := hcN hgk
      have hzM : zs.length ≤ 1000000 := by have h := mQ_small h3 hm7 i; rw [← hzq, List.length_map] at h; exact h
      have hpl : gp.length ≤ i := bfs_plen i i _ hzx
      refine Run.formMem (.tail _ (List.Mem.head _)) (ng_mem (n := n) (List.mem_of_getElem? hz)) (fun gA gc hgv => ?_) (fun _ _ _ => ⟨nofun, nofun, nofun⟩)
      simp only [nm] at hgv
      subst hgv
      have hzm := List.mem_of_getElem? hz
      refine Run.openOwn (.head _) (by omega) (fun gz cz hvgz hcapgz _ => ?_) (fun _ _ _ => ⟨nofun, nofun, nofun⟩)
      injection hvgz with hAgz _ hcgz; subst hAgz; subst hcgz
      refine Run.skip ?_
      refine Run.seq ?_
      refine Run.block ?_
      refine Run.seq ?_
      refine Run.seq ?_
      refine Run.region ?_
      refine Run.q (v := .slice (some ⟨gz, 0, none⟩) (zs.length) c_vl1) rfl (OpQ.y (OpY.pure rfl)) ?_
      refine Run.q (v := .int .i64 (((i : Nat) : Int))) rfl (OpQ.y (OpY.pure rfl)) ?_
      refine Run.q (v := .pointer (some ⟨gz, i * 7, none⟩)) rfl (OpQ.y (OpY.index (kk := i) Tsl_67 rfl rfl (by omega) (by omega) (by first | rfl | omega))) ?_
      refine Run.q (v := .agg #[.slice gA n gc, .int .i64 (((gf : Nat) : Int)), .int .i64 gr, .int .i64 g1, .int .i64 g2, .int .i64 g3, .int .i64 0]) rfl (OpQ.y (OpY.loadN (cs := [.slice gA n gc, .int .i64 (((gf : Nat) : Int)), .int .i64 gr, .int .i64 g1, .int .i64 g2, .int .i64 g3, .int .i64 0]) Tagg_77 rfl (Cells.own0 (.head _) (preN hz)))) ?_
      refine Run.q (v := .int .i64 (((cdE (gk, gf) : Nat) : Int))) rfl (OpQ.call (vs := [.agg #[.slice gA n gc, .int .i64 (((gf : Nat) : Int)), .int .i64 gr, .int .i64 g1, .int .i64 g2, .int .i64 g3, .int .i64 0]]) (caps := []) Tcall_91 rfl rfl (fun w hs => (by have h := l14Code_spec (f := gf) (l := gk) (c2 := gr) (c3 := g1) (c4 := g2) (c5 := g3) (c6 := 0) (by rw [hgk.1]; omega) hgf (mK8 h3 hgk.2.1) (by rw [hgk.1]; exact hs.slGrpR (p := nm n ((.slice gA n gc : Value), (((gk, gf), gp), (gr, (g1, (g2, g3)))))) (.tail _ (List.Mem.head _)) (ng_mem hzm)); rw [show cdS gf gk gk.length = cdE (gk, gf) from rfl] at h; exact h))) ?_
      refine Run.q (v := .int .i64 (((cdE (m, gq) : Nat) : Int))) rfl (OpQ.y (OpY.pure rfl)) ?_
      refine Run.q (v := .bool ((((cdE (gk, gf) : Nat) : Int)) == (((cdE (m, gq) : Nat) : Int)))) rfl (OpQ.y (OpY.pure rfl)) ?_
      refine Run.done ?_
      refine Run.cond (b := (((cdE (gk, gf) : Nat) : Int)) == (((cdE (m, gq) : Nat) : Int))) rfl (fun h53 => ?_) (fun h53 => ?_)
      · have p53 := h53; try simp only [decide_eq_true_eq, decide_eq_false_iff_not, beq_iff_eq, bne_iff_ne, beq_eq_false_iff_ne, ne_eq, gt_iff_lt, ge_iff_le, Int.not_lt, Int.not_le, bne_eq_false_iff_eq, Bool.not_eq_true', Bool.not_eq_false', Bool.and_eq_true, Bool.and_eq_false_iff, Bool.or_eq_true, Bool.or_eq_false_iff, Decidable.not_not, List.cons.injEq, and_true] at p53
        have hkg : (gk, gf) = (m, gq) := cdE_inj h3 hgk hkm (by omega)
        have hpG : gp = nwG n xs ms := hone i gp (by rw [← hkg]; exact List.mem_of_getElem? hzx)
        refine Run.seq ?_
        refine Run.region ?_
        refine Run.q (v := .slice none 0 0) rfl (OpQ.y (OpY.pure rfl)) ?_
        refine Run.done ?_
        refine Run.seq ?_
        refine Run.seq ?_
        refine Run.region ?_
        refine Run.q (v := .int .i64 (((i : Nat) : Int))) rfl (OpQ.y (OpY.pure rfl)) ?_
        refine Run.q (v := .int .i64 (((i : Nat) : Int))) rfl (OpQ.y (OpY.pure rfl)) ?_
        refine Run.done ?_
        refine Run.block ?_
        refine Run.weak (H' := [.own (.slice none 0 0) 77 7 0 ([]), .own (.slice (some ⟨gz, 0, none⟩) (zs.length) c_vl1) 77 7 (zs.length) (ncells zs), .grp 3 1 (ngp n zs), .own (.slice (some ⟨b4, 0, none⟩) N N) 4 1 N (bls (metL N (ncd zs))), .blk b2 77 [.slice A_uI1 n c_uI1, .int .i64 (((apF ms n : Nat) : Int)), .int .i64 (-1), .int .i64 0, .int .i64 0, .int .i64 0, .int .i64 0], .blk b1 28 [.slice Av n cv]]) (Weak.nilOwn _ _) ?_ ⟨_, _, rfl, fun _ => nofun, fun _ => nofun⟩
        refine Run.loop (ι := Int × Value × List NZ) [11, 12, 55, 56, 57, 58, 59, 60, 61, 62, 63, 64, 65, 66, 67, 68] (fun ⟨kk, vo, os⟩ => [(11, vo), (12, .int .i64 kk)]) (fun ⟨kk, vo, os⟩ => [.own vo 77 7 (os.length) (ncells os), .own (.slice (some ⟨gz, 0, none⟩) (zs.length) c_vl1) 77 7 (zs.length) (ncells zs), .grp 3 1 (ngp n zs)]) (fun ⟨kk, vo, os⟩ => OutI n zs gp kk os ∧ kk < 1000001) (fun ⟨kk, vo, os⟩ => (kk + 1).toNat) ((i : Int), .slice none 0 0, []) ?_ ?_ ?_ ?_
        · exact ⟨.inl ⟨i, _, [], rfl, hz, by simp, rfl⟩, by omega⟩
        · exact ⟨rfl, rfl, trivial⟩
        · exact ((((Weak.front [.own (.slice none 0 0) 77 7 0 ([]), .own (.slice (some ⟨gz, 0, none⟩) (zs.length) c_vl1) 77 7 (zs.length) (ncells zs)] (.grp 3 1 (ngp n zs)) [.own (.slice (some ⟨b4, 0, none⟩) N N) 4 1 N (bls (metL N (ncd zs))), .blk b2 77 [.slice A_uI1 n c_uI1, .int .i64 (((apF ms n : Nat) : Int)), .int .i64 (-1), .int .i64 0, .int .i64 0, .int .i64 0, .int .i64 0], .blk b1 28 [.slice Av n cv]]).trans (Weak.front [.grp 3 1 (ngp n zs), .own (.slice none 0 0) 77 7 0 ([])] (.own (.slice (some ⟨gz, 0, none⟩) (zs.length) c_vl1) 77 7 (zs.length) (ncells zs)) [.own (.slice (some ⟨b4, 0, none⟩) N N) 4 1 N (bls (metL N (ncd zs))), .blk b2 77 [.slice A_uI1 n c_uI1, .int .i64 (((apF ms n : Nat) : Int)), .int .i64 (-1), .int .i64 0, .int .i64 0, .int .i64 0, .int .i64 0], .blk b1 28 [.slice Av n cv]])).trans (Weak.front [.own (.slice (some ⟨gz, 0, none⟩) (zs.length) c_vl1) 77 7 (zs.length) (ncells zs), .grp 3 1 (ngp n zs)] (.own (.slice none 0 0) 77 7 0 ([])) [.own (.slice (some ⟨b4, 0, none⟩) N N) 4 1 N (bls (metL N (ncd zs))), .blk b2 77 [.slice A_uI1 n c_uI1, .int .i64 (((apF ms n : Nat) : Int)), .int .i64 (-1), .int .i64 0, .int .i64 0, .int .i64 0, .int .i64 0], .blk b1 28 [.slice Av n cv]])).trans (Some'.weak (.takeEq (by first | rfl | simp) (.take (.take (.nil _))))))
        · rintro ⟨kk, vo, os⟩ fr hinv
          show Run _ _ (over _ _ [(11, vo), (12, .int .i64 kk)] fr) [.own vo 77 7 (os.length) (ncells os), .own (.slice (some ⟨gz, 0, none⟩) (zs.length) c_vl1) 77 7 (zs.length) (ncells zs), .grp 3 1 (ngp n zs)]
          try dsimp only at hinv
          refine Run.seq ?_
          refine Run.seq ?_
          refine Run.region ?_
          refine Run.q (v := .int .i64 kk) rfl (OpQ.y (OpY.pure rfl)) ?_
          refine Run.q (v := .bool (decide (kk ≥ 0))) rfl (OpQ.y (OpY.pure rfl)) ?_
          refine Run.done ?_
          refine Run.cond (b := decide (kk ≥ 0)) rfl (fun h56 => ?_) (fun h56 => ?_)
          · have p56 := h56; try simp only [decide_eq_true_eq, decide_eq_false_iff_not, beq_iff_eq, bne_iff_ne, beq_eq_false_iff_ne, ne_eq, gt_iff_lt, ge_iff_le, Int.not_lt, Int.not_le, bne_eq_false_iff_eq, Bool.not_eq_true', Bool.not_eq_false', Bool.and_eq_true, Bool.and_eq_false_iff, Bool.or_eq_true, Bool.or_eq_false_iff, Decidable.not_not, List.cons.injEq, and_true] at p56
            obtain ⟨hoi, hom⟩ := hinv
            obtain ⟨t, ⟨ov, ⟨⟨⟨ok_, of⟩, op_⟩, ⟨orr, ⟨o1, ⟨o2, o3⟩⟩⟩⟩⟩, r, hkt, hzt, hpr, hor⟩ : ∃ t z r, kk = ((t : Nat) : Int) ∧ zs[t]? = some z ∧ gp = z.2.1.2 ++ r ∧ os.map (fun z => z.2.2.2) = r.reverse.map (gt3 n) := by
              rcases hoi with h | ⟨h, _⟩
              · exact h
              · omega
            have htl : t < zs.length := (List.getElem?_eq_some_iff.1 hzt).1
            have hol : os.length ≤ gp.length := by have h1 := congrArg List.length hor; simp only [List.length_map, List.length_reverse] at h1; rw [h1, hpr, List.length_append]; omega
            refine Run.formMem (.tail _ (.tail _ (List.Mem.head _))) (ng_mem (n := n) (List.mem_of_getElem? hzt)) (fun oA oc hov => ?_) (fun _ _ _ => ⟨nofun, nofun, nofun⟩)
            simp only [nm] at hov
            subst hov
            obtain ⟨hstep, hless⟩ := OutI.step hlk hzt hpr hor
            simp only at hstep hless
            refine Run.skip ?_
            refine Run.seq ?_
            refine Run.block ?_
            refine Run.region ?_
            refine Run.q (v := vo) rfl (OpQ.y (OpY.pure rfl)) ?_
            refine Run.q (v := .slice (some ⟨gz, 0, none⟩) (zs.length) c_vl1) rfl (OpQ.y (OpY.pure rfl)) ?_
            refine Run.q (v := .int .i64 kk) rfl (OpQ.y (OpY.pure rfl)) ?_
            refine Run.q (v := .pointer (some ⟨gz, t * 7, none⟩)) rfl (OpQ.y (OpY.index (kk := t) Tsl_67 rfl rfl (by omega) (by omega) (by first | rfl | omega))) ?_
            refine Run.q (v := .agg #[.slice oA n oc, .int .i64 (((of : Nat) : Int)), .int .i64 orr, .int .i64 o1, .int .i64 o2, .int .i64 o3, .int .i64 0]) rfl (OpQ.y (OpY.loadN (cs := [.slice oA n oc, .int .i64 (((of : Nat) : Int)), .int .i64 orr, .int .i64 o1, .int .i64 o2, .int .i64 o3, .int .i64 0]) Tagg_77 rfl (Cells.own0 (.tail _ (List.Mem.head _)) (preN hzt)))) ?_
            refine Run.step rfl (OpStep.buildSlice (us := [.slice oA n oc, .int .i64 (((of : Nat) : Int)), .int .i64 orr, .int .i64 o1, .int .i64 o2, .int .i64 o3, .int .i64 0]) Tsl_67 (by decide) (by decide) ⟨rfl, [.slice oA n oc, .int .i64 (((of : Nat) : Int)), .int .i64 orr, .int .i64 o1, .int .i64 o2, .int .i64 o3, .int .i64 0], _, rfl, rfl, rfl, rfl⟩ rfl fun b5 => ?_)
            refine Run.step rfl (OpStep.append (H1 := [.own (.slice (some ⟨b5, 0, none⟩) 1 1) 77 7 1 ([.slice oA n oc, .int .i64 (((of : Nat) : Int)), .int .i64 orr, .int .i64 o1, .int .i64 o2, .int .i64 o3, .int .i64 0])]) (H2 := [.own (.slice (some ⟨gz, 0, none⟩) (zs.length) c_vl1) 77 7 (zs.length) (ncells zs), .grp 3 1 (ngp n zs)]) (v := vo) (u := .slice (some ⟨b5, 0, none⟩) 1 1) (n := os.length) (m := 1) (xs := ncells os) (ys := [.slice oA n oc, .int .i64 (((of : Nat) : Int)), .int .i64 orr, .int .i64 o1, .int .i64 o2, .int .i64 o3, .int .i64 0]) Tsl_67 (by decide) rfl rfl rfl rfl (fun w hs => hs.slOwn (.head _)) (by simp [Value.oneCell']) (by omega) (by simp only [maxLen]; omega) fun av1 hnav1 => ?_)
            refine Run.weak (H' := [.own (.slice (some ⟨b5, 0, none⟩) 1 1) 77 7 1 ([.slice oA n oc, .int .i64 (((of : Nat) : Int)), .int .i64 orr, .int .i64 o1, .int .i64 o2, .int .i64 o3, .int .i64 0]), .own av1 77 7 ((os ++ [((.slice oA n oc : Value), (((ok_, of), op_), (orr, (o1, (o2, o3)))))] : List NZ).length) (ncells (os ++ [((.slice oA n oc : Value), (((ok_, of), op_), (orr, (o1, (o2, o3)))))])), .own (.slice (some ⟨gz, 0, none⟩) (zs.length) c_vl1) 77 7 (zs.length) (ncells zs), .grp 3 1 (ngp n zs)]) (Some'.weak (.take (.takeEq (by rw [← ncells_snoc]; exact congrArg (fun k => Res.own _ _ _ k _) (by simp)) (.take (.take (.nil _)))))) ?_ ⟨_, _, rfl, fun _ => nofun, fun _ => nofun⟩
            refine Run.q (v := av1) rfl (OpQ.y (OpY.pure rfl)) ?_
            refine Run.done ?_
            refine Run.blockEnd ?_
            refine Run.region ?_
            refine Run.q (v := .slice (some ⟨gz, 0, none⟩) (zs.length) c_vl1) rfl (OpQ.y (OpY.pure rfl)) ?_
            refine Run.q (v := .int .i64 kk) rfl (OpQ.y (OpY.pure rfl)) ?_
            refine Run.q (v := .pointer (some ⟨gz, t * 7, none⟩)) rfl (OpQ.y (OpY.index (kk := t) Tsl_67 rfl rfl (by omega) (by omega) (by first | rfl | omega))) ?_
            refine Run.q (v := .pointer (some ⟨gz, t * 7 + 2, none⟩)) rfl (OpQ.y (OpY.fieldAddr Tfo_77_2 rfl rfl)) ?_
            refine Run.q (v := .int .i64 orr) rfl (OpQ.y (OpY.load1 Tone_3 rfl (Cells.own0 (.tail _ (.tail _ (List.Mem.head _))) (preN_sub (o := 2) (preN hzt) rfl)))) ?_
            refine Run.q (v := .int .i64 orr) rfl (OpQ.y (OpY.pure rfl)) ?_
            refine Run.done ?_
            refine Run.goal ⟨(by repeat (first | exact Same.refl _ _ | refine Same.put rfl ?_ | refine Same.over rfl rfl ?_)), (orr, av1, os ++ [((.slice oA n oc : Value), (((ok_, of), op_), (orr, (o1, (o2, o3)))))]), ?_, ?_, ?_, ?_⟩
            · exact ⟨hstep, by omega⟩
            · show (orr + 1).toNat < (kk + 1).toNat; omega
            · exact ⟨(by first | rfl | (congr 1; omega) | simp), (by first | rfl | (congr 1; omega) | simp), trivial⟩
            · exact ((((Weak.front [.own (.slice (some ⟨b5, 0, none⟩) 1 1) 77 7 1 ([.slice oA n oc, .int .i64 (((of : Nat) : Int)), .int .i64 orr, .int .i64 o1, .int .i64 o2, .int .i64 o3, .int .i64 0]), .own av1 77 7 ((os ++ [((.slice oA n oc : Value), (((ok_, of), op_), (orr, (o1, (o2, o3)))))] : List NZ).length) (ncells (os ++ [((.slice oA n oc : Value), (((ok_, of), op_), (orr, (o1, (o2, o3)))))])), .own (.slice (some ⟨gz, 0, none⟩) (zs.length) c_vl1) 77 7 (zs.length) (ncells zs)] (.grp 3 1 (ngp n zs)) []).trans (Weak.front [.grp 3 1 (ngp n zs), .own (.slice (some ⟨b5, 0, none⟩) 1 1) 77 7 1 ([.slice oA n oc, .int .i64 (((of : Nat) : Int)), .int .i64 orr, .int .i64 o1, .int .i64 o2, .int .i64 o3, .int .i64 0]), .own av1 77 7 ((os ++ [((.slice oA n oc : Value), (((ok_, of), op_), (orr, (o1, (o2, o3)))))] : List NZ).length) (ncells (os ++ [((.slice oA n oc : Value), (((ok_, of), op_), (orr, (o1, (o2, o3)))))]))] (.own (.slice (some ⟨gz, 0, none⟩) (zs.length) c_vl1) 77 7 (zs.length) (ncells zs)) [])).trans (Weak.front [.own (.slice (some ⟨gz, 0, none⟩) (zs.length) c_vl1) 77 7 (zs.length) (ncells zs), .grp 3 1 (ngp n zs), .own (.slice (some ⟨b5, 0, none⟩) 1 1) 77 7 1 ([.slice oA n oc, .int .i64 (((of : Nat) : Int)), .int .i64 orr, .int .i64 o1, .int .i64 o2, .int .i64 o3, .int .i64 0])] (.own av1 77 7 ((os ++ [((.slice oA n oc : Value), (((ok_, of), op_), (orr, (o1, (o2, o3)))))] : List NZ).length) (ncells (os ++ [((.slice oA n oc : Value), (((ok_, of), op_), (orr, (o1, (o2, o3)))))]))) [])).trans (Some'.weak (.takeEq (by first | rfl | simp) (.takeEq (by first | rfl | simp) (.takeEq (by first | rfl | simp) (.nil _))))))
          · have p56 := h56; try simp only [decide_eq_true_eq, decide_eq_false_iff_not, beq_iff_eq, bne_iff_ne, beq_eq_false_iff_ne, ne_eq, gt_iff_lt, ge_iff_le, Int.not_lt, Int.not_le, bne_eq_false_iff_eq, Bool.not_eq_true', Bool.not_eq_false', Bool.and_eq_true, Bool.and_eq_false_iff, Bool.or_eq_true, Bool.or_eq_false_iff, Decidable.not_not, List.cons.injEq, and_true] at p56
            obtain ⟨hoi, hom⟩ := hinv
            have hfin : os.map (fun z => z.2.2.2) = gp.reverse.map (gt3 n) ++ [(0, (0, 0))] := by
              rcases hoi with ⟨t, _, _, h, _⟩ | ⟨_, h⟩
              · omega
              · exact h
            refine Run.exit rfl ?_
            refine Run.seq ?_
            refine Run.region ?_
            refine Run.q (v := vo) rfl (OpQ.y (OpY.pure rfl)) ?_
            refine Run.q (v := vo) rfl (OpQ.y (OpY.pure rfl)) ?_
            refine Run.done ?_
            refine Run.ret ?_
            refine ⟨vo, [.own vo 77 7 (os.length) (ncells os)], Out.one rfl rfl, (Some'.weak (.take (.nil _))), ?_⟩
            exact ⟨os, by rw [← hpG]; exact hfin, rfl⟩
      · have p53 := h53; try simp only [decide_eq_true_eq, decide_eq_false_iff_not, beq_iff_eq, bne_iff_ne, beq_eq_false_iff_ne, ne_eq, gt_iff_lt, ge_iff_le, Int.not_lt, Int.not_le, bne_eq_false_iff_eq, Bool.not_eq_true', Bool.not_eq_false', Bool.and_eq_true, Bool.and_eq_false_iff, Bool.or_eq_true, Bool.or_eq_false_iff, Decidable.not_not, List.cons.injEq, and_true] at p53
        have hkne : (gk, gf) ≠ (m, gq) := fun e => p53 (by rw [e])
        refine Run.skip ?_
        refine Run.seq ?_
        refine Run.region ?_
        refine Run.q (v := .int .i64 0) rfl (OpQ.y (OpY.pure rfl)) ?_
        refine Run.done ?_
        refine Run.block ?_
        refine Run.loop (ι := Nat × Value × List NZ) ([7, 13, 14, 70, 71, 72, 73, 74, 75, 76, 77, 78, 79, 80, 81, 82, 83, 84, 85, 86, 87, 88, 89, 90, 91, 92, 93, 94, 95, 96, 97, 98, 99, 100, 101, 102, 103, 104, 105, 106, 107, 108, 109, 110, 111, 112, 113, 114, 115, 116] ++ [117, 118, 119, 120, 121, 122, 123, 124, 125, 126, 127, 128]) (fun ⟨k, vl2, zs2⟩ => [(7, vl2), (13, .int .i64 (((k : Nat) : Int)))]) (fun ⟨k, vl2, zs2⟩ => [.own vl2 77 7 (zs2.length) (ncells zs2), .grp 3 1 (ngp n zs2), .own (.slice (some ⟨b4, 0, none⟩) N N) 4 1 N (bls (metL N (ncd zs2))), .blk b2 77 [.slice A_uI1 n c_uI1, .int .i64 (((apF ms n : Nat) : Int)), .int .i64 (-1), .int .i64 0, .int .i64 0, .int .i64 0, .int .i64 0], .blk b1 28 [.slice Av n cv]]) (fun ⟨k, vl2, zs2⟩ => k ≤ n * n ∧ nk zs2 = brow (lstep n ms) (lok n) ((gk, gf), gp) (mQ n ms i) (k) ∧ Linked n zs2 ∧ ∃ t, zs2 = zs ++ t) (fun ⟨k, vl2, zs2⟩ => n * n - k) (0, .slice (some ⟨gz, 0, none⟩) (zs.length) c_vl1, zs) ?_ ?_ ?_ ?_
        · exact ⟨Nat.zero_le _, hzq, hlk, [], by simp⟩
        · exact ⟨rfl, rfl, trivial⟩
        · exact ((((((Weak.front [.own (.slice (some ⟨gz, 0, none⟩) (zs.length) c_vl1) 77 7 (zs.length) (ncells zs), .grp 3 1 (ngp n zs), .own (.slice (some ⟨b4, 0, none⟩) N N) 4 1 N (bls (metL N (ncd zs))), .blk b2 77 [.slice A_uI1 n c_uI1, .int .i64 (((apF ms n : Nat) : Int)), .int .i64 (-1), .int .i64 0, .int .i64 0, .int .i64 0, .int .i64 0]] (.blk b1 28 [.slice Av n cv]) []).trans (Weak.front [.blk b1 28 [.slice Av n cv], .own (.slice (some ⟨gz, 0, none⟩) (zs.length) c_vl1) 77 7 (zs.length) (ncells zs), .grp 3 1 (ngp n zs), .own (.slice (some ⟨b4, 0, none⟩) N N) 4 1 N (bls (metL N (ncd zs)))] (.blk b2 77 [.slice A_uI1 n c_uI1, .int .i64 (((apF ms n : Nat) : Int)), .int .i64 (-1), .int .i64 0, .int .i64 0, .int .i64 0, .int .i64 0]) [])).trans (Weak.front [.blk b2 77 [.slice A_uI1 n c_uI1, .int .i64 (((apF ms n : Nat) : Int)), .int .i64 (-1), .int .i64 0, .int .i64 0, .int .i64 0, .int .i64 0], .blk b1 28 [.slice Av n cv], .own (.slice (some ⟨gz, 0, none⟩) (zs.length) c_vl1) 77 7 (zs.length) (ncells zs), .grp 3 1 (ngp n zs)] (.own (.slice (some ⟨b4, 0, none⟩) N N) 4 1 N (bls (metL N (ncd zs)))) [])).trans (Weak.front [.own (.slice (some ⟨b4, 0, none⟩) N N) 4 1 N (bls (metL N (ncd zs))), .blk b2 77 [.slice A_uI1 n c_uI1, .int .i64 (((apF ms n : Nat) : Int)), .int .i64 (-1), .int .i64 0, .int .i64 0, .int .i64 0, .int .i64 0], .blk b1 28 [.slice Av n cv], .own (.slice (some ⟨gz, 0, none⟩) (zs.length) c_vl1) 77 7 (zs.length) (ncells zs)] (.grp 3 1 (ngp n zs)) [])).trans (Weak.front [.grp 3 1 (ngp n zs), .own (.slice (some ⟨b4, 0, none⟩) N N) 4 1 N (bls (metL N (ncd zs))), .blk b2 77 [.slice A_uI1 n c_uI1, .int .i64 (((apF ms n : Nat) : Int)), .int .i64 (-1), .int .i64 0, .int .i64 0, .int .i64 0, .int .i64 0], .blk b1 28 [.slice Av n cv]] (.own (.slice (some ⟨gz, 0, none⟩) (zs.length) c_vl1) 77 7 (zs.length) (ncells zs)) [])).trans (Some'.weak (.takeEq (by first | rfl | simp [ncd]) (.takeEq (by first | rfl | simp [ncd]) (.takeEq (by first | rfl | simp [ncd]) (.take (.take (.nil _))))))))
        · rintro ⟨k, vl2, zs2⟩ fr hinv
          show Run _ _ (over _ _ [(7, vl2), (13, .int .i64 (((k : Nat) : Int)))] fr) [.own vl2 77 7 (zs2.length) (ncells zs2), .grp 3 1 (ngp n zs2), .own (.slice (some ⟨b4, 0, none⟩) N N) 4 1 N (bls (metL N (ncd zs2))), .blk b2 77 [.slice A_uI1 n c_uI1, .int .i64 (((apF ms n : Nat) : Int)), .int .i64 (-1), .int .i64 0, .int .i64 0, .int .i64 0, .int .i64 0], .blk b1 28 [.slice Av n cv]]
          try dsimp only at hinv
          refine Run.seq ?_
          refine Run.seq ?_
          refine Run.region ?_
          refine Run.q (v := .int .i64 (((k : Nat) : Int))) rfl (OpQ.y (OpY.pure rfl)) ?_
          refine Run.q (v := .int .i64 (((n : Nat) : Int))) rfl (OpQ.y (OpY.pure rfl)) ?_
          refine Run.q (v := .int .i64 (((n : Nat) : Int))) rfl (OpQ.y (OpY.pure rfl)) ?_
          refine Run.q (v := .int .i64 (((n * n : Nat) : Int))) rfl (OpQ.y (OpY.mul rfl rfl (by push_cast; rfl) (by omega) (by omega))) ?_
          refine Run.q (v := .bool (decide ((((k : Nat) : Int)) < (((n * n : Nat) : Int))))) rfl (OpQ.y (OpY.pure rfl)) ?_
          refine Run.done ?_
          refine Run.cond (b := decide ((((k : Nat) : Int)) < (((n * n : Nat) : Int)))) rfl (fun h74 => ?_) (fun h74 => ?_)
          · have p74 := h74; try simp only [decide_eq_true_eq, decide_eq_false_iff_not, beq_iff_eq, bne_iff_ne, beq_eq_false_iff_ne, ne_eq, gt_iff_lt, ge_iff_le, Int.not_lt, Int.not_le, bne_eq_false_iff_eq, Bool.not_eq_true', Bool.not_eq_false', Bool.and_eq_true, Bool.and_eq_false_iff, Bool.or_eq_true, Bool.or_eq_false_iff, Decidable.not_not, List.cons.injEq, and_true] at p74
            have hkn : k < n * n := by omega
            obtain ⟨_, hq2, hlk2, ⟨t2, ht2⟩⟩ := hinv
            have hz2 : zs2[i]? = some ((.slice gA n gc : Value), (((gk, gf), gp), (gr, (g1, (g2, g3))))) := by rw [ht2, List.getElem?_append_left hil]; exact hz
            have hzm2 := List.mem_of_getElem? hz2
            have hil2 : i < zs2.length := by rw [ht2, List.length_append]; omega
            have hg1 : k / n < n := (Nat.div_lt_iff_lt_mul (by omega)).2 hkn
            have hg2 : k % n < n := Nat.mod_lt _ (by omega)
            obtain ⟨tq, htq⟩ := brow_in hzx (show k ≤ n * n by omega)
            have hzM2 : zs2.length ≤ 1000000 := by have h := mQ_small h3 hm7 (i + 1); rw [mQ, htq, ← hq2, List.length_append, List.length_map] at h; omega
            have hnt : Noted ms gk gf := by
              have h1 := (bfs_inv (step := lstep n ms) (ok := lok n) (E := n * n) (s := (idL n, apF ms n)) i).ev _ (List.mem_of_getElem? hzx)
              have h2 := (bev_keep hmk gp (idL n, apF ms n) (mK_id n ms) (noted_id hmk)).2.1
              rw [h1] at h2; exact h2
            obtain ⟨xf, hsx⟩ : ∃ x, seenK gf (cx gk (k / n, k % n)) ms ms.length = x := ⟨_, rfl⟩
            have hstp : lstep n ms (gk, gf) k = (cx gk (k / n, k % n), xf) := by rw [← hsx, seen_step hmk hnt hgk.2.2 _ _ (by rw [hgk.1]; exact hg2)]; rfl
            have hnk : mK n ms (cx gk (k / n, k % n), xf) := hstp ▸ mK_step k hgk
            have hxf : xf < 128 := by have h : xf < 2 ^ ms.length := hnk.2.2; omega
            have hnc2 := hcN hnk
            have hbx : bx (metL N (ncd zs2)) (cdE (cx gk (k / n, k % n), xf)) = decide ((cx gk (k / n, k % n), xf) ∈ (nk zs2).map (·.1)) := by
              rw [bx_metL hnc2, Bool.eq_iff_iff, decide_eq_true_eq, decide_eq_true_eq]
              have hall : ∀ z ∈ zs2, mK n ms z.2.1.1 := fun z hz => mQ_key (i := i + 1) (by rw [mQ, htq, ← hq2]; exact List.mem_append.2 (.inl (List.mem_map.2 ⟨z, hz, rfl⟩)))
              constructor
              · intro h
                obtain ⟨z, hz, he⟩ := List.mem_map.1 h
                have := cdE_inj h3 (hall z hz) hnk he
                exact List.mem_map.2 ⟨z.2.1, List.mem_map.2 ⟨z, hz, rfl⟩, this⟩
              · intro h
                obtain ⟨y, hy, he⟩ := List.mem_map.1 h
                obtain ⟨z, hz, rfl⟩ := List.mem_map.1 hy
                exact List.mem_map.2 ⟨z, hz, by rw [he]⟩
            refine Run.skip ?_
            refine Run.seq ?_
            refine Run.block ?_
            refine Run.seq ?_
            refine Run.seq ?_
            refine Run.draws (by kernel_rfl) (by kernel_rfl) ?_
            refine Lex.q (v := .int .i64 (((k : Nat) : Int))) rfl (OpQ.y (OpY.pure rfl)) ?_
            refine Lex.q (v := .int .i64 (((n : Nat) : Int))) rfl (OpQ.y (OpY.pure rfl)) ?_
            refine Lex.q (v := .int .i64 (((k / n : Nat) : Int))) rfl (OpQ.y (OpY.quoNat rfl rfl (by omega) (by omega))) ?_
            refine Lex.q (v := .int .i64 (((k : Nat) : Int))) rfl (OpQ.y (OpY.pure rfl)) ?_
            refine Lex.q (v := .int .i64 (((n : Nat) : Int))) rfl (OpQ.y (OpY.pure rfl)) ?_
            refine Lex.q (v := .int .i64 (((k % n : Nat) : Int))) rfl (OpQ.y (OpY.remNat rfl rfl (by omega))) ?_
            refine Lex.q (v := .bool ((((k / n : Nat) : Int)) == (((k % n : Nat) : Int)))) rfl (OpQ.y (OpY.pure rfl)) ?_
            refine Lex.done ?_
            refine Run.cond (b := (((k / n : Nat) : Int)) == (((k % n : Nat) : Int))) rfl (fun h83 => ?_) (fun h83 => ?_)
            · have p83 := h83; try simp only [decide_eq_true_eq, decide_eq_false_iff_not, beq_iff_eq, bne_iff_ne, beq_eq_false_iff_ne, ne_eq, gt_iff_lt, ge_iff_le, Int.not_lt, Int.not_le, bne_eq_false_iff_eq, Bool.not_eq_true', Bool.not_eq_false', Bool.and_eq_true, Bool.and_eq_false_iff, Bool.or_eq_true, Bool.or_eq_false_iff, Decidable.not_not, List.cons.injEq, and_true] at p83
              have hbv : brow (lstep n ms) (lok n) ((gk, gf), gp) (mQ n ms i) (k + 1) = nk zs2 := by rw [brow, ← hq2, bvis, if_neg (fun h => by have h1 := h.1; rw [lok, decide_eq_true_eq] at h1; omega)]
              refine Run.exit rfl ?_
              refine Run.region ?_
              refine Run.q (v := .int .i64 (((k : Nat) : Int))) rfl (OpQ.y (OpY.pure rfl)) ?_
              refine Run.q (v := .int .i64 ((((k : Nat) : Int)) + 1)) rfl (OpQ.y (OpY.add rfl rfl rfl (by omega) (by omega))) ?_
              refine Run.q (v := .int .i64 ((((k : Nat) : Int)) + 1)) rfl (OpQ.y (OpY.pure rfl)) ?_
              refine Run.done ?_
              refine Run.goal ⟨(by repeat (first | exact Same.refl _ _ | refine Same.put rfl ?_ | refine Same.over rfl rfl ?_)), (k + 1, vl2, zs2), ?_, ?_, ?_, ?_⟩
              · first | exact ⟨hkn, hbv.symm, hlk2, t2, ht2⟩ | exact ⟨hkn, by rw [hbv]; simp [nk], hlk2.snoc hz2 rfl rfl, t2 ++ [_], by rw [ht2, List.append_assoc]⟩
              · show n * n - (k + 1) < n * n - k; omega
              · exact ⟨(by first | rfl | (congr 1; omega) | simp), (by first | rfl | (congr 1; omega) | simp), trivial⟩
              · exact ((((((Weak.front [.own vl2 77 7 (zs2.length) (ncells zs2), .grp 3 1 (ngp n zs2), .own (.slice (some ⟨b4, 0, none⟩) N N) 4 1 N (bls (metL N (ncd zs2))), .blk b2 77 [.slice A_uI1 n c_uI1, .int .i64 (((apF ms n : Nat) : Int)), .int .i64 (-1), .int .i64 0, .int .i64 0, .int .i64 0, .int .i64 0]] (.blk b1 28 [.slice Av n cv]) []).trans (Weak.front [.blk b1 28 [.slice Av n cv], .own vl2 77 7 (zs2.length) (ncells zs2), .grp 3 1 (ngp n zs2), .own (.slice (some ⟨b4, 0, none⟩) N N) 4 1 N (bls (metL N (ncd zs2)))] (.blk b2 77 [.slice A_uI1 n c_uI1, .int .i64 (((apF ms n : Nat) : Int)), .int .i64 (-1), .int .i64 0, .int .i64 0, .int .i64 0, .int .i64 0]) [])).trans (Weak.front [.blk b2 77 [.slice A_uI1 n c_uI1, .int .i64 (((apF ms n : Nat) : Int)), .int .i64 (-1), .int .i64 0, .int .i64 0, .int .i64 0, .int .i64 0], .blk b1 28 [.slice Av n cv], .own vl2 77 7 (zs2.length) (ncells zs2), .grp 3 1 (ngp n zs2)] (.own (.slice (some ⟨b4, 0, none⟩) N N) 4 1 N (bls (metL N (ncd zs2)))) [])).trans (Weak.front [.own (.slice (some ⟨b4, 0, none⟩) N N) 4 1 N (bls (metL N (ncd zs2))), .blk b2 77 [.slice A_uI1 n c_uI1, .int .i64 (((apF ms n : Nat) : Int)), .int .i64 (-1), .int .i64 0, .int .i64 0, .int .i64 0, .int .i64 0], .blk b1 28 [.slice Av n cv], .own vl2 77 7 (zs2.length) (ncells zs2)] (.grp 3 1 (ngp n zs2)) [])).trans (Weak.front [.grp 3 1 (ngp n zs2), .own (.slice (some ⟨b4, 0, none⟩) N N) 4 1 N (bls (metL N (ncd zs2))), .blk b2 77 [.slice A_uI1 n c_uI1, .int .i64 (((apF ms n : Nat) : Int)), .int .i64 (-1), .int .i64 0, .int .i64 0, .int .i64 0, .int .i64 0], .blk b1 28 [.slice Av n cv]] (.own vl2 77 7 (zs2.length) (ncells zs2)) [])).trans (Some'.weak (.takeEq (by first | rfl | simp [ncd]) (.takeEq (by first | rfl | simp [ncd]) (.takeEq (by first | rfl | simp [ncd]) (.take (.take (.nil _))))))))
            · have p83 := h83; try simp only [decide_eq_true_eq, decide_eq_false_iff_not, beq_iff_eq, bne_iff_ne, beq_eq_false_iff_ne, ne_eq, gt_iff_lt, ge_iff_le, Int.not_lt, Int.not_le, bne_eq_false_iff_eq, Bool.not_eq_true', Bool.not_eq_false', Bool.and_eq_true, Bool.and_eq_false_iff, Bool.or_eq_true, Bool.or_eq_false_iff, Decidable.not_not, List.cons.injEq, and_true] at p83
              refine Run.skip ?_
              refine Run.seq ?_
              refine Run.openOwn (.head _) (by omega) (fun gz cz hvgz hcapgz _ => ?_) (fun _ _ _ => ⟨nofun, nofun, nofun⟩)
              subst hvgz
              refine Run.held (by kernel_rfl) ?_
              refine DW.take (i := 0) (v := .slice (some ⟨gz, 0, none⟩) (zs2.length) cz) rfl (by kernel_rfl) (by kernel_rfl) (by kernel_rfl) (fun _ _ _ h => h) (Weak.refl _) rfl (OpY.pure rfl) ?_
              refine DW.take (i := 1) (v := .int .i64 (((i : Nat) : Int))) rfl (by kernel_rfl) (by kernel_rfl) (by kernel_rfl) (fun _ _ _ h => h) (Weak.refl _) rfl (OpY.pure rfl) ?_
              refine DW.take (i := 2) (v := .pointer (some ⟨gz, i * 7, none⟩)) rfl (by kernel_rfl) (by kernel_rfl) (by kernel_rfl) (fun _ _ _ h => h) (Weak.refl _) rfl (OpY.index (kk := i) Tsl_67 rfl rfl (by omega) (by omega) (by first | rfl | omega)) ?_
              refine DW.take (i := 3) (v := .pointer (some ⟨gz, i * 7, none⟩)) rfl (by kernel_rfl) (by kernel_rfl) (by kernel_rfl) (fun _ _ _ h => h) (Weak.refl _) rfl (OpY.fieldAddr Tfo_77_0 rfl rfl) ?_
              refine DW.take (i := 4) (v := .agg #[.slice gA n gc]) rfl (by kernel_rfl) (by kernel_rfl) (by kernel_rfl) (fun _ _ _ h => h) (Weak.refl _) rfl (OpY.loadN (cs := [.slice gA n gc]) Tagg_28 rfl (Cells.own0 (.head _) (preN_sub (o := 0) (preN hz2) rfl))) ?_
              refine DW.take (i := 5) (v := .int .i64 (((k : Nat) : Int))) rfl (by kernel_rfl) (by kernel_rfl) (by kernel_rfl) (fun _ _ _ h => h) (Weak.refl _) rfl (OpY.pure rfl) ?_
              refine DW.take (i := 6) (v := .int .i64 (((n : Nat) : Int))) rfl (by kernel_rfl) (by kernel_rfl) (by kernel_rfl) (fun _ _ _ h => h) (Weak.refl _) rfl (OpY.pure rfl) ?_
              refine DW.take (i := 7) (v := .int .i64 (((k / n : Nat) : Int))) rfl (by kernel_rfl) (by kernel_rfl) (by kernel_rfl) (fun _ _ _ h => h) (Weak.refl _) rfl (OpY.quoNat rfl rfl (by omega) (by omega)) ?_
              refine DW.take (i := 8) (v := .int .i64 (((k : Nat) : Int))) rfl (by kernel_rfl) (by kernel_rfl) (by kernel_rfl) (fun _ _ _ h => h) (Weak.refl _) rfl (OpY.pure rfl) ?_
              refine DW.take (i := 9) (v := .int .i64 (((n : Nat) : Int))) rfl (by kernel_rfl) (by kernel_rfl) (by kernel_rfl) (fun _ _ _ h => h) (Weak.refl _) rfl (OpY.pure rfl) ?_
              refine DW.take (i := 10) (v := .int .i64 (((k % n : Nat) : Int))) rfl (by kernel_rfl) (by kernel_rfl) (by kernel_rfl) (fun _ _ _ h => h) (Weak.refl _) rfl (OpY.remNat rfl rfl (by omega)) ?_
              refine DW.take (i := 12) (v := .int .i64 (((i : Nat) : Int))) rfl (by kernel_rfl) (by kernel_rfl) (by kernel_rfl) (fun _ _ _ h => h) (Weak.refl _) rfl (OpY.pure rfl) ?_
              refine DW.take (i := 13) (v := .int .i64 (((k : Nat) : Int))) rfl (by kernel_rfl) (by kernel_rfl) (by kernel_rfl) (fun _ _ _ h => h) (Weak.refl _) rfl (OpY.pure rfl) ?_
              refine DW.take (i := 14) (v := .int .i64 (((n : Nat) : Int))) rfl (by kernel_rfl) (by kernel_rfl) (by kernel_rfl) (fun _ _ _ h => h) (Weak.refl _) rfl (OpY.pure rfl) ?_
              refine DW.take (i := 15) (v := .int .i64 (((k / n : Nat) : Int))) rfl (by kernel_rfl) (by kernel_rfl) (by kernel_rfl) (fun _ _ _ h => h) (Weak.refl _) rfl (OpY.quoNat rfl rfl (by omega) (by omega)) ?_
              refine DW.take (i := 16) (v := .int .i64 (((k : Nat) : Int))) rfl (by kernel_rfl) (by kernel_rfl) (by kernel_rfl) (fun _ _ _ h => h) (Weak.refl _) rfl (OpY.pure rfl) ?_
              refine DW.take (i := 17) (v := .int .i64 (((n : Nat) : Int))) rfl (by kernel_rfl) (by kernel_rfl) (by kernel_rfl) (fun _ _ _ h => h) (Weak.refl _) rfl (OpY.pure rfl) ?_
              refine DW.take (i := 18) (v := .int .i64 (((k % n : Nat) : Int))) rfl (by kernel_rfl) (by kernel_rfl) (by kernel_rfl) (fun _ _ _ h => h) (Weak.refl _) rfl (OpY.remNat rfl rfl (by omega)) ?_
              refine DW.take (i := 19) (v := .agg #[.int .i64 9, .int .i64 (((k / n : Nat) : Int)), .int .i64 (((k % n : Nat) : Int))]) rfl (by kernel_rfl) (by kernel_rfl) (by kernel_rfl) (fun _ _ _ h => h) (Weak.refl _) rfl (OpY.build (cs := [.int .i64 9, .int .i64 (((k / n : Nat) : Int)), .int .i64 (((k % n : Nat) : Int))]) (by kernel_rfl)) ?_
              refine DW.two (i := 11) (j := 21) (by kernel_rfl) rfl rfl rfl rfl ?_ ?_
              · refine OpStep.call (vs := [.agg #[.slice gA n gc], .int .i64 (((k / n : Nat) : Int)), .int .i64 (((k % n : Nat) : Int))]) (caps := []) Tcall_71 rfl rfl (fun w hs => (by have h := l12CX_spec (l := gk) (a := k / n) (b := k % n) (by rw [hgk.1]; omega) (by rw [hgk.1]; exact hg1) (by rw [hgk.1]; exact hg2) (fun j => by have h : nx gk j < 8 := mK8 h3 hgk.2.1 j; omega) (by rw [hgk.1]; exact hs.slGrpR (p := nm n ((.slice gA n gc : Value), (((gk, gf), gp), (gr, (g1, (g2, g3)))))) (.tail _ (List.Mem.head _)) (ng_mem hzm2)); rw [hgk.1] at h; exact h)) ?_
                rintro _ _ ⟨un, rfl, rfl⟩
                refine ⟨(Some'.weak (.skip (.take (.take (.take (.take (.take (.nil _)))))))), ?_⟩
                refine DW.formOwn (.head _) (fun A_un1 c_un1 hv hcapc_un1 hmaxc_un1 => ?_)
                subst hv
                refine DW.take (i := 20) (v := .agg #[.slice A_un1 n c_un1, .int .i64 0, .int .i64 (((i : Nat) : Int)), .int .i64 9, .int .i64 (((k / n : Nat) : Int)), .int .i64 (((k % n : Nat) : Int)), .int .i64 0]) rfl (by kernel_rfl) (by kernel_rfl) (by kernel_rfl) (fun _ _ _ h => h) (Some'.weak (.skip (.take (.take (.take (.take (.take (.nil _)))))))) rfl (OpY.build (cs := [.slice A_un1 n c_un1, .int .i64 0, .int .i64 (((i : Nat) : Int)), .int .i64 9, .int .i64 (((k / n : Nat) : Int)), .int .i64 (((k % n : Nat) : Int)), .int .i64 0]) (by kernel_rfl)) ?_
                refine DW.step (i := 21) (by kernel_rfl) rfl rfl (OpStep.alloc (zs := [.slice none 0 0, .int .i64 0, .int .i64 0, .int .i64 0, .int .i64 0, .int .i64 0, .int .i64 0]) Tzero_77 fun b6 => ?_)
                refine ⟨(Some'.weak (.skip (.skip (.take (.take (.take (.take (.take (.nil _))))))))), ?_⟩
                refine DW.step (i := 22) (by kernel_rfl) rfl rfl (OpStep.storeAll (us := [.slice A_un1 n c_un1, .int .i64 0, .int .i64 (((i : Nat) : Int)), .int .i64 9, .int .i64 (((k / n : Nat) : Int)), .int .i64 (((k % n : Nat) : Int)), .int .i64 0]) Tsize_77 rfl rfl rfl (.here _) rfl ?_)
                refine ⟨(Some'.weak (.skip (.skip (.take (.take (.take (.take (.take (.nil _))))))))), ?_⟩
                refine DW.done (by kernel_rfl) ?_
                refine Run.seq ?_
                refine Run.lastlyB [10] [.blk b6 77 [.slice A_un1 n c_un1, .int .i64 0, .int .i64 (((i : Nat) : Int)), .int .i64 9, .int .i64 (((k / n : Nat) : Int)), .int .i64 (((k % n : Nat) : Int)), .int .i64 0], .own (.slice A_un1 n c_un1) 3 1 n (ints (nl (cx gk (k / n, k % n)))), .own (.slice (some ⟨gz, 0, none⟩) (zs2.length) cz) 77 7 (zs2.length) (ncells zs2), .grp 3 1 (ngp n zs2), .own (.slice (some ⟨b4, 0, none⟩) N N) 4 1 N (bls (metL N (ncd zs2))), .blk b2 77 [.slice A_uI1 n c_uI1, .int .i64 (((apF ms n : Nat) : Int)), .int .i64 (-1), .int .i64 0, .int .i64 0, .int .i64 0, .int .i64 0], .blk b1 28 [.slice Av n cv]] (by kernel_rfl) ?_
                refine DL.takeP (i := 0) (v := .slice (some ⟨gz, 0, none⟩) (zs2.length) cz) rfl (by kernel_rfl) (by kernel_rfl) (by kernel_rfl) (fun _ _ _ h => h) rfl (fun _ => OpY.pure rfl) ?_
                refine DL.takeP (i := 1) (v := .int .i64 (((i : Nat) : Int))) rfl (by kernel_rfl) (by kernel_rfl) (by kernel_rfl) (fun _ _ _ h => h) rfl (fun _ => OpY.pure rfl) ?_
                refine DL.takeP (i := 2) (v := .pointer (some ⟨gz, i * 7, none⟩)) rfl (by kernel_rfl) (by kernel_rfl) (by kernel_rfl) (fun _ _ _ h => h) rfl (fun _ => OpY.index (kk := i) Tsl_67 rfl rfl (by omega) (by omega) (by first | rfl | omega)) ?_
                refine DL.takeP (i := 3) (v := .pointer (some ⟨gz, i * 7 + 1, none⟩)) rfl (by kernel_rfl) (by kernel_rfl) (by kernel_rfl) (fun _ _ _ h => h) rfl (fun _ => OpY.fieldAddr Tfo_77_1 rfl rfl) ?_
                refine DL.take (i := 4) (v := .int .i64 (((gf : Nat) : Int))) rfl (by kernel_rfl) (by kernel_rfl) (by kernel_rfl) (by kernel_rfl) (fun _ _ _ h => h) (Some'.weak (.take (.take (.take (.take (.take (.take (.take (.nil _))))))))) rfl (OpY.load1 Tone_3 rfl (Cells.own0 (.tail _ (.tail _ (List.Mem.head _))) (preN_sub (o := 1) (preN hz2) rfl))) ?_
                refine DL.takeP (i := 5) (v := .pointer (some ⟨b6, 0, none⟩)) rfl (by kernel_rfl) (by kernel_rfl) (by kernel_rfl) (fun _ _ _ h => h) rfl (fun _ => OpY.fieldAddr Tfo_77_0 rfl rfl) ?_
                refine DL.take (i := 6) (v := .agg #[.slice A_un1 n c_un1]) rfl (by kernel_rfl) (by kernel_rfl) (by kernel_rfl) (by kernel_rfl) (fun _ _ _ h => h) (Some'.weak (.take (.take (.take (.take (.take (.take (.take (.nil _))))))))) rfl (OpY.loadN (cs := [.slice A_un1 n c_un1]) Tagg_28 rfl (Cells.blk (.head _) ⟨rfl, trivial⟩)) ?_
                refine DL.takeP (i := 7) (v := .slice Am (ms.length) cm) rfl (by kernel_rfl) (by kernel_rfl) (by kernel_rfl) (fun _ _ _ h => h) rfl (fun _ => OpY.pure rfl) ?_
                refine DL.stepS (i := 8) (by kernel_rfl) rfl rfl (OpStep.q (v := .int .i64 (((xf : Nat) : Int))) (OpQ.call (vs := [.int .i64 (((gf : Nat) : Int)), .agg #[.slice A_un1 n c_un1], .slice Am (ms.length) cm]) (caps := []) Tcall_90 rfl rfl (fun w hs => (by have h := l14Seen_spec (f := gf) (l := cx gk (k / n, k % n)) hm7 hgk.2.2 (by rw [hnk.1]; exact hs.slOwn (.tail _ (List.Mem.head _))) (hs.sl hms); rw [hsx] at h; exact h))) ?_)
                refine ⟨(Some'.weak (.take (.take (.take (.take (.take (.take (.take (.nil _))))))))), ?_⟩
                refine DL.takeP (i := 9) (v := .pointer (some ⟨b6, 1, none⟩)) rfl (by kernel_rfl) (by kernel_rfl) (by kernel_rfl) (fun _ _ _ h => h) rfl (fun _ => OpY.fieldAddr Tfo_77_1 rfl rfl) ?_
                refine DL.step (i := 10) (by kernel_rfl) (by kernel_rfl) rfl rfl (OpStep.store (us := [.int .i64 (((xf : Nat) : Int))]) Tsize_3 rfl rfl rfl (.here _) (by simp only [List.length_cons, List.length_nil]; omega) ?_)
                show DL _ _ _ _ _ _ _ _ [.blk b6 77 [.slice A_un1 n c_un1, .int .i64 (((xf : Nat) : Int)), .int .i64 (((i : Nat) : Int)), .int .i64 9, .int .i64 (((k / n : Nat) : Int)), .int .i64 (((k % n : Nat) : Int)), .int .i64 0], .own (.slice A_un1 n c_un1) 3 1 n (ints (nl (cx gk (k / n, k % n)))), .own (.slice (some ⟨gz, 0, none⟩) (zs2.length) cz) 77 7 (zs2.length) (ncells zs2), .grp 3 1 (ngp n zs2), .own (.slice (some ⟨b4, 0, none⟩) N N) 4 1 N (bls (metL N (ncd zs2))), .blk b2 77 [.slice A_uI1 n c_uI1, .int .i64 (((apF ms n : Nat) : Int)), .int .i64 (-1), .int .i64 0, .int .i64 0, .int .i64 0, .int .i64 0], .blk b1 28 [.slice Av n cv]]
                refine DL.done (by kernel_rfl) ?_
                refine Run.seq ?_
                refine Run.region ?_
                refine Run.q (v := .slice (some ⟨b4, 0, none⟩) N N) rfl (OpQ.y (OpY.pure rfl)) ?_
                refine Run.q (v := .agg #[.slice A_un1 n c_un1, .int .i64 (((xf : Nat) : Int)), .int .i64 (((i : Nat) : Int)), .int .i64 9, .int .i64 (((k / n : Nat) : Int)), .int .i64 (((k % n : Nat) : Int)), .int .i64 0]) rfl (OpQ.y (OpY.loadN (cs := [.slice A_un1 n c_un1, .int .i64 (((xf : Nat) : Int)), .int .i64 (((i : Nat) : Int)), .int .i64 9, .int .i64 (((k / n : Nat) : Int)), .int .i64 (((k % n : Nat) : Int)), .int .i64 0]) Tagg_77 rfl (Cells.blk (.head _) ⟨rfl, rfl, rfl, rfl, rfl, rfl, rfl, trivial⟩))) ?_
                refine Run.q (v := .int .i64 (((cdE (cx gk (k / n, k % n), xf) : Nat) : Int))) rfl (OpQ.call (vs := [.agg #[.slice A_un1 n c_un1, .int .i64 (((xf : Nat) : Int)), .int .i64 (((i : Nat) : Int)), .int .i64 9, .int .i64 (((k / n : Nat) : Int)), .int .i64 (((k % n : Nat) : Int)), .int .i64 0]]) (caps := []) Tcall_91 rfl rfl (fun w hs => (by have h := l14Code_spec (f := xf) (l := cx gk (k / n, k % n)) (c2 := (i : Int)) (c3 := 9) (c4 := ((k / n : Nat) : Int)) (c5 := ((k % n : Nat) : Int)) (c6 := 0) (by rw [hnk.1]; omega) hxf (mK8 h3 hnk.2.1) (by rw [hnk.1]; exact hs.slOwn (.tail _ (List.Mem.head _))); rw [show cdS xf (cx gk (k / n, k % n)) (cx gk (k / n, k % n)).length = cdE (cx gk (k / n, k % n), xf) from rfl] at h; exact h))) ?_
                refine Run.q (v := .pointer (some ⟨b4, cdE (cx gk (k / n, k % n), xf), none⟩)) rfl (OpQ.y (OpY.index (kk := cdE (cx gk (k / n, k % n), xf)) Tsl_104 rfl rfl (by omega) (by omega) (by first | rfl | omega))) ?_
                refine Run.q (v := .bool (bx (metL N (ncd zs2)) (cdE (cx gk (k / n, k % n), xf)))) rfl (OpQ.y (OpY.load1 Tone_4 rfl (Cells.own0 (.tail _ (.tail _ (.tail _ (.tail _ (List.Mem.head _))))) (preBl (by rw [metL_length]; omega))))) ?_
                refine Run.q (v := .bool (!(bx (metL N (ncd zs2)) (cdE (cx gk (k / n, k % n), xf))))) rfl (OpQ.y (OpY.pure rfl)) ?_
                refine Run.done ?_
                refine Run.cond (b := !(bx (metL N (ncd zs2)) (cdE (cx gk (k / n, k % n), xf)))) rfl (fun h120 => ?_) (fun h120 => ?_)
                · have p120 := h120; try simp only [decide_eq_true_eq, decide_eq_false_iff_not, beq_iff_eq, bne_iff_ne, beq_eq_false_iff_ne, ne_eq, gt_iff_lt, ge_iff_le, Int.not_lt, Int.not_le, bne_eq_false_iff_eq, Bool.not_eq_true', Bool.not_eq_false', Bool.and_eq_true, Bool.and_eq_false_iff, Bool.or_eq_true, Bool.or_eq_false_iff, Decidable.not_not, List.cons.injEq, and_true] at p120
                  have hnin : (cx gk (k / n, k % n), xf) ∉ (nk zs2).map (·.1) := by have h := h120; rw [hbx] at h; simpa using h
                  have hbv : brow (lstep n ms) (lok n) ((gk, gf), gp) (mQ n ms i) (k + 1) = nk zs2 ++ [((cx gk (k / n, k % n), xf), gp ++ [k])] := by rw [brow, ← hq2, bvis, hstp, if_pos ⟨by rw [lok, decide_eq_true_eq]; omega, hnin⟩]
                  refine Run.seq ?_
                  refine Run.region ?_
                  refine Run.q (v := .slice (some ⟨b4, 0, none⟩) N N) rfl (OpQ.y (OpY.pure rfl)) ?_
                  refine Run.q (v := .agg #[.slice A_un1 n c_un1, .int .i64 (((xf : Nat) : Int)), .int .i64 (((i : Nat) : Int)), .int .i64 9, .int .i64 (((k / n : Nat) : Int)), .int .i64 (((k % n : Nat) : Int)), .int .i64 0]) rfl (OpQ.y (OpY.loadN (cs := [.slice A_un1 n c_un1, .int .i64 (((xf : Nat) : Int)), .int .i64 (((i : Nat) : Int)), .int .i64 9, .int .i64 (((k / n : Nat) : Int)), .int .i64 (((k % n : Nat) : Int)), .int .i64 0]) Tagg_77 rfl (Cells.blk (.head _) ⟨rfl, rfl, rfl, rfl, rfl, rfl, rfl, trivial⟩))) ?_
                  refine Run.q (v := .int .i64 (((cdE (cx gk (k / n, k % n), xf) : Nat) : Int))) rfl (OpQ.call (vs := [.agg #[.slice A_un1 n c_un1, .int .i64 (((xf : Nat) : Int)), .int .i64 (((i : Nat) : Int)), .int .i64 9, .int .i64 (((k / n : Nat) : Int)), .int .i64 (((k % n : Nat) : Int)), .int .i64 0]]) (caps := []) Tcall_91 rfl rfl (fun w hs => (by have h := l14Code_spec (f := xf) (l := cx gk (k / n, k % n)) (c2 := (i : Int)) (c3 := 9) (c4 := ((k / n : Nat) : Int)) (c5 := ((k % n : Nat) : Int)) (c6 := 0) (by rw [hnk.1]; omega) hxf (mK8 h3 hnk.2.1) (by rw [hnk.1]; exact hs.slOwn (.tail _ (List.Mem.head _))); rw [show cdS xf (cx gk (k / n, k % n)) (cx gk (k / n, k % n)).length = cdE (cx gk (k / n, k % n), xf) from rfl] at h; exact h))) ?_
                  refine Run.q (v := .pointer (some ⟨b4, cdE (cx gk (k / n, k % n), xf), none⟩)) rfl (OpQ.y (OpY.index (kk := cdE (cx gk (k / n, k % n), xf)) Tsl_104 rfl rfl (by omega) (by omega) (by first | rfl | omega))) ?_
                  refine Run.step rfl (OpStep.storeOwn (us := [.bool true]) Tsize_4 rfl rfl rfl rfl (by rw [bls_set, ← metL_snoc]; exact (.there _ (.there _ (.there _ (.there _ (.here _)))))) (by simp only [List.length_cons, List.length_nil]; omega) ?_)
                  refine Run.done ?_
                  refine Run.region ?_
                  refine Run.q (v := .slice (some ⟨gz, 0, none⟩) (zs2.length) cz) rfl (OpQ.y (OpY.pure rfl)) ?_
                  refine Run.q (v := .agg #[.slice A_un1 n c_un1, .int .i64 (((xf : Nat) : Int)), .int .i64 (((i : Nat) : Int)), .int .i64 9, .int .i64 (((k / n : Nat) : Int)), .int .i64 (((k % n : Nat) : Int)), .int .i64 0]) rfl (OpQ.y (OpY.loadN (cs := [.slice A_un1 n c_un1, .int .i64 (((xf : Nat) : Int)), .int .i64 (((i : Nat) : Int)), .int .i64 9, .int .i64 (((k / n : Nat) : Int)), .int .i64 (((k % n : Nat) : Int)), .int .i64 0]) Tagg_77 rfl (Cells.blk (.head _) ⟨rfl, rfl, rfl, rfl, rfl, rfl, rfl, trivial⟩))) ?_
                  refine Run.step rfl (OpStep.buildSlice (us := [.slice A_un1 n c_un1, .int .i64 (((xf : Nat) : Int)), .int .i64 (((i : Nat) : Int)), .int .i64 9, .int .i64 (((k / n : Nat) : Int)), .int .i64 (((k % n : Nat) : Int)), .int .i64 0]) Tsl_67 (by decide) (by decide) ⟨rfl, [.slice A_un1 n c_un1, .int .i64 (((xf : Nat) : Int)), .int .i64 (((i : Nat) : Int)), .int .i64 9, .int .i64 (((k / n : Nat) : Int)), .int .i64 (((k % n : Nat) : Int)), .int .i64 0], _, rfl, rfl, rfl, rfl⟩ rfl fun b7 => ?_)
                  refine Run.step rfl (OpStep.append (H1 := [.own (.slice (some ⟨b7, 0, none⟩) 1 1) 77 7 1 ([.slice A_un1 n c_un1, .int .i64 (((xf : Nat) : Int)), .int .i64 (((i : Nat) : Int)), .int .i64 9, .int .i64 (((k / n : Nat) : Int)), .int .i64 (((k % n : Nat) : Int)), .int .i64 0]), .blk b6 77 [.slice A_un1 n c_un1, .int .i64 (((xf : Nat) : Int)), .int .i64 (((i : Nat) : Int)), .int .i64 9, .int .i64 (((k / n : Nat) : Int)), .int .i64 (((k % n : Nat) : Int)), .int .i64 0], .own (.slice A_un1 n c_un1) 3 1 n (ints (nl (cx gk (k / n, k % n))))]) (H2 := [.grp 3 1 (ngp n zs2), .own (.slice (some ⟨b4, 0, none⟩) N N) 4 1 N (bls (metL N ((ncd zs2 ++ [cdE (cx gk (k / n, k % n), xf)])))), .blk b2 77 [.slice A_uI1 n c_uI1, .int .i64 (((apF ms n : Nat) : Int)), .int .i64 (-1), .int .i64 0, .int .i64 0, .int .i64 0, .int .i64 0], .blk b1 28 [.slice Av n cv]]) (v := .slice (some ⟨gz, 0, none⟩) (zs2.length) cz) (u := .slice (some ⟨b7, 0, none⟩) 1 1) (n := zs2.length) (m := 1) (xs := ncells zs2) (ys := [.slice A_un1 n c_un1, .int .i64 (((xf : Nat) : Int)), .int .i64 (((i : Nat) : Int)), .int .i64 9, .int .i64 (((k / n : Nat) : Int)), .int .i64 (((k % n : Nat) : Int)), .int .i64 0]) Tsl_67 (by decide) rfl rfl rfl rfl (fun w hs => hs.slOwn (.head _)) (by simp [Value.oneCell']) (by omega) (by simp only [maxLen]; omega) fun av2 hnav2 => ?_)
                  refine Run.weak (H' := [.own (.slice (some ⟨b7, 0, none⟩) 1 1) 77 7 1 ([.slice A_un1 n c_un1, .int .i64 (((xf : Nat) : Int)), .int .i64 (((i : Nat) : Int)), .int .i64 9, .int .i64 (((k / n : Nat) : Int)), .int .i64 (((k % n : Nat) : Int)), .int .i64 0]), .blk b6 77 [.slice A_un1 n c_un1, .int .i64 (((xf : Nat) : Int)), .int .i64 (((i : Nat) : Int)), .int .i64 9, .int .i64 (((k / n : Nat) : Int)), .int .i64 (((k % n : Nat) : Int)), .int .i64 0], .own (.slice A_un1 n c_un1) 3 1 n (ints (nl (cx gk (k / n, k % n)))), .own av2 77 7 ((zs2 ++ [((.slice A_un1 n c_un1 : Value), (((cx gk (k / n, k % n), xf), gp ++ [k]), ((i : Int), gt3 n k)))] : List NZ).length) (ncells (zs2 ++ [((.slice A_un1 n c_un1 : Value), (((cx gk (k / n, k % n), xf), gp ++ [k]), ((i : Int), gt3 n k)))])), .grp 3 1 (ngp n zs2), .own (.slice (some ⟨b4, 0, none⟩) N N) 4 1 N (bls (metL N ((ncd zs2 ++ [cdE (cx gk (k / n, k % n), xf)])))), .blk b2 77 [.slice A_uI1 n c_uI1, .int .i64 (((apF ms n : Nat) : Int)), .int .i64 (-1), .int .i64 0, .int .i64 0, .int .i64 0, .int .i64 0], .blk b1 28 [.slice Av n cv]]) (Some'.weak (.take (.take (.take (.takeEq (by rw [← ncells_snoc]; exact congrArg (fun k => Res.own _ _ _ k _) (by simp)) (.take (.take (.take (.take (.nil _)))))))))) ?_ ⟨_, _, rfl, fun _ => nofun, fun _ => nofun⟩
                  refine Run.weak (H' := [.grp 3 1 (ngp n (zs2 ++ [((.slice A_un1 n c_un1 : Value), (((cx gk (k / n, k % n), xf), gp ++ [k]), ((i : Int), gt3 n k)))])), .own (.slice (some ⟨b7, 0, none⟩) 1 1) 77 7 1 ([.slice A_un1 n c_un1, .int .i64 (((xf : Nat) : Int)), .int .i64 (((i : Nat) : Int)), .int .i64 9, .int .i64 (((k / n : Nat) : Int)), .int .i64 (((k % n : Nat) : Int)), .int .i64 0]), .blk b6 77 [.slice A_un1 n c_un1, .int .i64 (((xf : Nat) : Int)), .int .i64 (((i : Nat) : Int)), .int .i64 9, .int .i64 (((k / n : Nat) : Int)), .int .i64 (((k % n : Nat) : Int)), .int .i64 0], .own av2 77 7 ((zs2 ++ [((.slice A_un1 n c_un1 : Value), (((cx gk (k / n, k % n), xf), gp ++ [k]), ((i : Int), gt3 n k)))] : List NZ).length) (ncells (zs2 ++ [((.slice A_un1 n c_un1 : Value), (((cx gk (k / n, k % n), xf), gp ++ [k]), ((i : Int), gt3 n k)))])), .own (.slice (some ⟨b4, 0, none⟩) N N) 4 1 N (bls (metL N ((ncd zs2 ++ [cdE (cx gk (k / n, k % n), xf)])))), .blk b2 77 [.slice A_uI1 n c_uI1, .int .i64 (((apF ms n : Nat) : Int)), .int .i64 (-1), .int .i64 0, .int .i64 0, .int .i64 0, .int .i64 0], .blk b1 28 [.slice Av n cv]]) (((Weak.front [.own (.slice (some ⟨b7, 0, none⟩) 1 1) 77 7 1 ([.slice A_un1 n c_un1, .int .i64 (((xf : Nat) : Int)), .int .i64 (((i : Nat) : Int)), .int .i64 9, .int .i64 (((k / n : Nat) : Int)), .int .i64 (((k % n : Nat) : Int)), .int .i64 0]), .blk b6 77 [.slice A_un1 n c_un1, .int .i64 (((xf : Nat) : Int)), .int .i64 (((i : Nat) : Int)), .int .i64 9, .int .i64 (((k / n : Nat) : Int)), .int .i64 (((k % n : Nat) : Int)), .int .i64 0], .own (.slice A_un1 n c_un1) 3 1 n (ints (nl (cx gk (k / n, k % n)))), .own av2 77 7 ((zs2 ++ [((.slice A_un1 n c_un1 : Value), (((cx gk (k / n, k % n), xf), gp ++ [k]), ((i : Int), gt3 n k)))] : List NZ).length) (ncells (zs2 ++ [((.slice A_un1 n c_un1 : Value), (((cx gk (k / n, k % n), xf), gp ++ [k]), ((i : Int), gt3 n k)))]))] (.grp 3 1 (ngp n zs2)) [.own (.slice (some ⟨b4, 0, none⟩) N N) 4 1 N (bls (metL N ((ncd zs2 ++ [cdE (cx gk (k / n, k % n), xf)])))), .blk b2 77 [.slice A_uI1 n c_uI1, .int .i64 (((apF ms n : Nat) : Int)), .int .i64 (-1), .int .i64 0, .int .i64 0, .int .i64 0, .int .i64 0], .blk b1 28 [.slice Av n cv]]).trans (Weak.front [.grp 3 1 (ngp n zs2), .own (.slice (some ⟨b7, 0, none⟩) 1 1) 77 7 1 ([.slice A_un1 n c_un1, .int .i64 (((xf : Nat) : Int)), .int .i64 (((i : Nat) : Int)), .int .i64 9, .int .i64 (((k / n : Nat) : Int)), .int .i64 (((k % n : Nat) : Int)), .int .i64 0]), .blk b6 77 [.slice A_un1 n c_un1, .int .i64 (((xf : Nat) : Int)), .int .i64 (((i : Nat) : Int)), .int .i64 9, .int .i64 (((k / n : Nat) : Int)), .int .i64 (((k % n : Nat) : Int)), .int .i64 0]] (.own (.slice A_un1 n c_un1) 3 1 n (ints (nl (cx gk (k / n, k % n))))) [.own av2 77 7 ((zs2 ++ [((.slice A_un1 n c_un1 : Value), (((cx gk (k / n, k % n), xf), gp ++ [k]), ((i : Int), gt3 n k)))] : List NZ).length) (ncells (zs2 ++ [((.slice A_un1 n c_un1 : Value), (((cx gk (k / n, k % n), xf), gp ++ [k]), ((i : Int), gt3 n k)))])), .own (.slice (some ⟨b4, 0, none⟩) N N) 4 1 N (bls (metL N ((ncd zs2 ++ [cdE (cx gk (k / n, k % n), xf)])))), .blk b2 77 [.slice A_uI1 n c_uI1, .int .i64 (((apF ms n : Nat) : Int)), .int .i64 (-1), .int .i64 0, .int .i64 0, .int .i64 0, .int .i64 0], .blk b1 28 [.slice Av n cv]])).trans (Weak.ngSnoc (k := (cx gk (k / n, k % n), xf)) (p := gp ++ [k]))) ?_ ⟨_, _, rfl, fun _ => nofun, fun _ => nofun⟩
                  refine Run.q (v := av2) rfl (OpQ.y (OpY.pure rfl)) ?_
                  refine Run.done ?_
                  refine Run.blockEnd ?_
                  refine Run.region ?_
                  refine Run.q (v := .int .i64 (((k : Nat) : Int))) rfl (OpQ.y (OpY.pure rfl)) ?_
                  refine Run.q (v := .int .i64 ((((k : Nat) : Int)) + 1)) rfl (OpQ.y (OpY.add rfl rfl rfl (by omega) (by omega))) ?_
                  refine Run.q (v := .int .i64 ((((k : Nat) : Int)) + 1)) rfl (OpQ.y (OpY.pure rfl)) ?_
                  refine Run.done ?_
                  refine Run.goal ⟨(by repeat (first | exact Same.refl _ _ | refine Same.put rfl ?_ | refine Same.over rfl rfl ?_)), (k + 1, av2, (zs2 ++ [((.slice A_un1 n c_un1 : Value), (((cx gk (k / n, k % n), xf), gp ++ [k]), ((i : Int), gt3 n k)))])), ?_, ?_, ?_, ?_⟩
                  · first | exact ⟨hkn, hbv.symm, hlk2, t2, ht2⟩ | exact ⟨hkn, by rw [hbv]; simp [nk], hlk2.snoc hz2 rfl rfl, t2 ++ [_], by rw [ht2, List.append_assoc]⟩
                  · show n * n - (k + 1) < n * n - k; omega
                  · exact ⟨(by first | rfl | (congr 1; omega) | simp), (by first | rfl | (congr 1; omega) | simp), trivial⟩
                  · exact ((((((Weak.front [.grp 3 1 (ngp n (zs2 ++ [((.slice A_un1 n c_un1 : Value), (((cx gk (k / n, k % n), xf), gp ++ [k]), ((i : Int), gt3 n k)))])), .own (.slice (some ⟨b7, 0, none⟩) 1 1) 77 7 1 ([.slice A_un1 n c_un1, .int .i64 (((xf : Nat) : Int)), .int .i64 (((i : Nat) : Int)), .int .i64 9, .int .i64 (((k / n : Nat) : Int)), .int .i64 (((k % n : Nat) : Int)), .int .i64 0]), .blk b6 77 [.slice A_un1 n c_un1, .int .i64 (((xf : Nat) : Int)), .int .i64 (((i : Nat) : Int)), .int .i64 9, .int .i64 (((k / n : Nat) : Int)), .int .i64 (((k % n : Nat) : Int)), .int .i64 0], .own av2 77 7 ((zs2 ++ [((.slice A_un1 n c_un1 : Value), (((cx gk (k / n, k % n), xf), gp ++ [k]), ((i : Int), gt3 n k)))] : List NZ).length) (ncells (zs2 ++ [((.slice A_un1 n c_un1 : Value), (((cx gk (k / n, k % n), xf), gp ++ [k]), ((i : Int), gt3 n k)))])), .own (.slice (some ⟨b4, 0, none⟩) N N) 4 1 N (bls (metL N ((ncd zs2 ++ [cdE (cx gk (k / n, k % n), xf)])))), .blk b2 77 [.slice A_uI1 n c_uI1, .int .i64 (((apF ms n : Nat) : Int)), .int .i64 (-1), .int .i64 0, .int .i64 0, .int .i64 0, .int .i64 0]] (.blk b1 28 [.slice Av n cv]) []).trans (Weak.front [.blk b1 28 [.slice Av n cv], .grp 3 1 (ngp n (zs2 ++ [((.slice A_un1 n c_un1 : Value), (((cx gk (k / n, k % n), xf), gp ++ [k]), ((i : Int), gt3 n k)))])), .own (.slice (some ⟨b7, 0, none⟩) 1 1) 77 7 1 ([.slice A_un1 n c_un1, .int .i64 (((xf : Nat) : Int)), .int .i64 (((i : Nat) : Int)), .int .i64 9, .int .i64 (((k / n : Nat) : Int)), .int .i64 (((k % n : Nat) : Int)), .int .i64 0]), .blk b6 77 [.slice A_un1 n c_un1, .int .i64 (((xf : Nat) : Int)), .int .i64 (((i : Nat) : Int)), .int .i64 9, .int .i64 (((k / n : Nat) : Int)), .int .i64 (((k % n : Nat) : Int)), .int .i64 0], .own av2 77 7 ((zs2 ++ [((.slice A_un1 n c_un1 : Value), (((cx gk (k / n, k % n), xf), gp ++ [k]), ((i : Int), gt3 n k)))] : List NZ).length) (ncells (zs2 ++ [((.slice A_un1 n c_un1 : Value), (((cx gk (k / n, k % n), xf), gp ++ [k]), ((i : Int), gt3 n k)))])), .own (.slice (some ⟨b4, 0, none⟩) N N) 4 1 N (bls (metL N ((ncd zs2 ++ [cdE (cx gk (k / n, k % n), xf)]))))] (.blk b2 77 [.slice A_uI1 n c_uI1, .int .i64 (((apF ms n : Nat) : Int)), .int .i64 (-1), .int .i64 0, .int .i64 0, .int .i64 0, .int .i64 0]) [])).trans (Weak.front [.blk b2 77 [.slice A_uI1 n c_uI1, .int .i64 (((apF ms n : Nat) : Int)), .int .i64 (-1), .int .i64 0, .int .i64 0, .int .i64 0, .int .i64 0], .blk b1 28 [.slice Av n cv], .grp 3 1 (ngp n (zs2 ++ [((.slice A_un1 n c_un1 : Value), (((cx gk (k / n, k % n), xf), gp ++ [k]), ((i : Int), gt3 n k)))])), .own (.slice (some ⟨b7, 0, none⟩) 1 1) 77 7 1 ([.slice A_un1 n c_un1, .int .i64 (((xf : Nat) : Int)), .int .i64 (((i : Nat) : Int)), .int .i64 9, .int .i64 (((k / n : Nat) : Int)), .int .i64 (((k % n : Nat) : Int)), .int .i64 0]), .blk b6 77 [.slice A_un1 n c_un1, .int .i64 (((xf : Nat) : Int)), .int .i64 (((i : Nat) : Int)), .int .i64 9, .int .i64 (((k / n : Nat) : Int)), .int .i64 (((k % n : Nat) : Int)), .int .i64 0], .own av2 77 7 ((zs2 ++ [((.slice A_un1 n c_un1 : Value), (((cx gk (k / n, k % n), xf), gp ++ [k]), ((i : Int), gt3 n k)))] : List NZ).length) (ncells (zs2 ++ [((.slice A_un1 n c_un1 : Value), (((cx gk (k / n, k % n), xf), gp ++ [k]), ((i : Int), gt3 n k)))]))] (.own (.slice (some ⟨b4, 0, none⟩) N N) 4 1 N (bls (metL N ((ncd zs2 ++ [cdE (cx gk (k / n, k % n), xf)]))))) [])).trans (Weak.front [.own (.slice (some ⟨b4, 0, none⟩) N N) 4 1 N (bls (metL N ((ncd zs2 ++ [cdE (cx gk (k / n, k % n), xf)])))), .blk b2 77 [.slice A_uI1 n c_uI1, .int .i64 (((apF ms n : Nat) : Int)), .int .i64 (-1), .int .i64 0, .int .i64 0, .int .i64 0, .int .i64 0], .blk b1 28 [.slice Av n cv]] (.grp 3 1 (ngp n (zs2 ++ [((.slice A_un1 n c_un1 : Value), (((cx gk (k / n, k % n), xf), gp ++ [k]), ((i : Int), gt3 n k)))]))) [.own (.slice (some ⟨b7, 0, none⟩) 1 1) 77 7 1 ([.slice A_un1 n c_un1, .int .i64 (((xf : Nat) : Int)), .int .i64 (((i : Nat) : Int)), .int .i64 9, .int .i64 (((k / n : Nat) : Int)), .int .i64 (((k % n : Nat) : Int)), .int .i64 0]), .blk b6 77 [.slice A_un1 n c_un1, .int .i64 (((xf : Nat) : Int)), .int .i64 (((i : Nat) : Int)), .int .i64 9, .int .i64 (((k / n : Nat) : Int)), .int .i64 (((k % n : Nat) : Int)), .int .i64 0], .own av2 77 7 ((zs2 ++ [((.slice A_un1 n c_un1 : Value), (((cx gk (k / n, k % n), xf), gp ++ [k]), ((i : Int), gt3 n k)))] : List NZ).length) (ncells (zs2 ++ [((.slice A_un1 n c_un1 : Value), (((cx gk (k / n, k % n), xf), gp ++ [k]), ((i : Int), gt3 n k)))]))])).trans (Weak.front [.grp 3 1 (ngp n (zs2 ++ [((.slice A_un1 n c_un1 : Value), (((cx gk (k / n, k % n), xf), gp ++ [k]), ((i : Int), gt3 n k)))])), .own (.slice (some ⟨b4, 0, none⟩) N N) 4 1 N (bls (metL N ((ncd zs2 ++ [cdE (cx gk (k / n, k % n), xf)])))), .blk b2 77 [.slice A_uI1 n c_uI1, .int .i64 (((apF ms n : Nat) : Int)), .int .i64 (-1), .int .i64 0, .int .i64 0, .int .i64 0, .int .i64 0], .blk b1 28 [.slice Av n cv], .own (.slice (some ⟨b7, 0, none⟩) 1 1) 77 7 1 ([.slice A_un1 n c_un1, .int .i64 (((xf : Nat) : Int)), .int .i64 (((i : Nat) : Int)), .int .i64 9, .int .i64 (((k / n : Nat) : Int)), .int .i64 (((k % n : Nat) : Int)), .int .i64 0]), .blk b6 77 [.slice A_un1 n c_un1, .int .i64 (((xf : Nat) : Int)), .int .i64 (((i : Nat) : Int)), .int .i64 9, .int .i64 (((k / n : Nat) : Int)), .int .i64 (((k % n : Nat) : Int)), .int .i64 0]] (.own av2 77 7 ((zs2 ++ [((.slice A_un1 n c_un1 : Value), (((cx gk (k / n, k % n), xf), gp ++ [k]), ((i : Int), gt3 n k)))] : List NZ).length) (ncells (zs2 ++ [((.slice A_un1 n c_un1 : Value), (((cx gk (k / n, k % n), xf), gp ++ [k]), ((i : Int), gt3 n k)))]))) [])).trans (Some'.weak (.takeEq (by first | rfl | simp [ncd]) (.takeEq (by first | rfl | simp [ncd]) (.takeEq (by first | rfl | simp [ncd]) (.take (.take (.nil _))))))))
                · have p120 := h120; try simp only [decide_eq_true_eq, decide_eq_false_iff_not, beq_iff_eq, bne_iff_ne, beq_eq_false_iff_ne, ne_eq, gt_iff_lt, ge_iff_le, Int.not_lt, Int.not_le, bne_eq_false_iff_eq, Bool.not_eq_true', Bool.not_eq_false', Bool.and_eq_true, Bool.and_eq_false_iff, Bool.or_eq_true, Bool.or_eq_false_iff, Decidable.not_not, List.cons.injEq, and_true] at p120
                  have hyin : (cx gk (k / n, k % n), xf) ∈ (nk zs2).map (·.1) := by have h := h120; rw [hbx] at h; simpa using h
                  have hbv : brow (lstep n ms) (lok n) ((gk, gf), gp) (mQ n ms i) (k + 1) = nk zs2 := by rw [brow, ← hq2, bvis, hstp, if_neg (fun h => h.2 hyin)]
                  refine Run.skip ?_
                  refine Run.blockEnd ?_
                  refine Run.region ?_
                  refine Run.q (v := .int .i64 (((k : Nat) : Int))) rfl (OpQ.y (OpY.pure rfl)) ?_
                  refine Run.q (v := .int .i64 ((((k : Nat) : Int)) + 1)) rfl (OpQ.y (OpY.add rfl rfl rfl (by omega) (by omega))) ?_
                  refine Run.q (v := .int .i64 ((((k : Nat) : Int)) + 1)) rfl (OpQ.y (OpY.pure rfl)) ?_
                  refine Run.done ?_
                  refine Run.goal ⟨(by repeat (first | exact Same.refl _ _ | refine Same.put rfl ?_ | refine Same.over rfl rfl ?_)), (k + 1, .slice (some ⟨gz, 0, none⟩) (zs2.length) cz, zs2), ?_, ?_, ?_, ?_⟩
                  · first | exact ⟨hkn, hbv.symm, hlk2, t2, ht2⟩ | exact ⟨hkn, by rw [hbv]; simp [nk], hlk2.snoc hz2 rfl rfl, t2 ++ [_], by rw [ht2, List.append_assoc]⟩
                  · show n * n - (k + 1) < n * n - k; omega
                  · exact ⟨(by first | rfl | (congr 1; omega) | simp), (by first | rfl | (congr 1; omega) | simp), trivial⟩
                  · exact ((((((Weak.front [.blk b6 77 [.slice A_un1 n c_un1, .int .i64 (((xf : Nat) : Int)), .int .i64 (((i : Nat) : Int)), .int .i64 9, .int .i64 (((k / n : Nat) : Int)), .int .i64 (((k % n : Nat) : Int)), .int .i64 0], .own (.slice A_un1 n c_un1) 3 1 n (ints (nl (cx gk (k / n, k % n)))), .own (.slice (some ⟨gz, 0, none⟩) (zs2.length) cz) 77 7 (zs2.length) (ncells zs2), .grp 3 1 (ngp n zs2), .own (.slice (some ⟨b4, 0, none⟩) N N) 4 1 N (bls (metL N (ncd zs2))), .blk b2 77 [.slice A_uI1 n c_uI1, .int .i64 (((apF ms n : Nat) : Int)), .int .i64 (-1), .int .i64 0, .int .i64 0, .int .i64 0, .int .i64 0]] (.blk b1 28 [.slice Av n cv]) []).trans (Weak.front [.blk b1 28 [.slice Av n cv], .blk b6 77 [.slice A_un1 n c_un1, .int .i64 (((xf : Nat) : Int)), .int .i64 (((i : Nat) : Int)), .int .i64 9, .int .i64 (((k / n : Nat) : Int)), .int .i64 (((k % n : Nat) : Int)), .int .i64 0], .own (.slice A_un1 n c_un1) 3 1 n (ints (nl (cx gk (k / n, k % n)))), .own (.slice (some ⟨gz, 0, none⟩) (zs2.length) cz) 77 7 (zs2.length) (ncells zs2), .grp 3 1 (ngp n zs2), .own (.slice (some ⟨b4, 0, none⟩) N N) 4 1 N (bls (metL N (ncd zs2)))] (.blk b2 77 [.slice A_uI1 n c_uI1, .int .i64 (((apF ms n : Nat) : Int)), .int .i64 (-1), .int .i64 0, .int .i64 0, .int .i64 0, .int .i64 0]) [])).trans (Weak.front [.blk b2 77 [.slice A_uI1 n c_uI1, .int .i64 (((apF ms n : Nat) : Int)), .int .i64 (-1), .int .i64 0, .int .i64 0, .int .i64 0, .int .i64 0], .blk b1 28 [.slice Av n cv], .blk b6 77 [.slice A_un1 n c_un1, .int .i64 (((xf : Nat) : Int)), .int .i64 (((i : Nat) : Int)), .int .i64 9, .int .i64 (((k / n : Nat) : Int)), .int .i64 (((k % n : Nat) : Int)), .int .i64 0], .own (.slice A_un1 n c_un1) 3 1 n (ints (nl (cx gk (k / n, k % n)))), .own (.slice (some ⟨gz, 0, none⟩) (zs2.length) cz) 77 7 (zs2.length) (ncells zs2), .grp 3 1 (ngp n zs2)] (.own (.slice (some ⟨b4, 0, none⟩) N N) 4 1 N (bls (metL N (ncd zs2)))) [])).trans (Weak.front [.own (.slice (some ⟨b4, 0, none⟩) N N) 4 1 N (bls (metL N (ncd zs2))), .blk b2 77 [.slice A_uI1 n c_uI1, .int .i64 (((apF ms n : Nat) : Int)), .int .i64 (-1), .int .i64 0, .int .i64 0, .int .i64 0, .int .i64 0], .blk b1 28 [.slice Av n cv], .blk b6 77 [.slice A_un1 n c_un1, .int .i64 (((xf : Nat) : Int)), .int .i64 (((i : Nat) : Int)), .int .i64 9, .int .i64 (((k / n : Nat) : Int)), .int .i64 (((k % n : Nat) : Int)), .int .i64 0], .own (.slice A_un1 n c_un1) 3 1 n (ints (nl (cx gk (k / n, k % n)))), .own (.slice (some ⟨gz, 0, none⟩) (zs2.length) cz) 77 7 (zs2.length) (ncells zs2)] (.grp 3 1 (ngp n zs2)) [])).trans (Weak.front [.grp 3 1 (ngp n zs2), .own (.slice (some ⟨b4, 0, none⟩) N N) 4 1 N (bls (metL N (ncd zs2))), .blk b2 77 [.slice A_uI1 n c_uI1, .int .i64 (((apF ms n : Nat) : Int)), .int .i64 (-1), .int .i64 0, .int .i64 0, .int .i64 0, .int .i64 0], .blk b1 28 [.slice Av n cv], .blk b6 77 [.slice A_un1 n c_un1, .int .i64 (((xf : Nat) : Int)), .int .i64 (((i : Nat) : Int)), .int .i64 9, .int .i64 (((k / n : Nat) : Int)), .int .i64 (((k % n : Nat) : Int)), .int .i64 0], .own (.slice A_un1 n c_un1) 3 1 n (ints (nl (cx gk (k / n, k % n))))] (.own (.slice (some ⟨gz, 0, none⟩) (zs2.length) cz) 77 7 (zs2.length) (ncells zs2)) [])).trans (Some'.weak (.takeEq (by first | rfl | simp [ncd]) (.takeEq (by first | rfl | simp [ncd]) (.takeEq (by first | rfl | simp [ncd]) (.take (.take (.nil _))))))))
              · refine OpStep.alloc (zs := [.slice none 0 0, .int .i64 0, .int .i64 0, .int .i64 0, .int .i64 0, .int .i64 0, .int .i64 0]) Tzero_77 fun b8 => ?_
                refine ⟨(Some'.weak (.skip (.take (.take (.take (.take (.take (.nil _)))))))), ?_⟩
                refine DW.step (i := 11) (by kernel_rfl) rfl rfl (OpStep.call (vs := [.agg #[.slice gA n gc], .int .i64 (((k / n : Nat) : Int)), .int .i64 (((k % n : Nat) : Int))]) (caps := []) Tcall_71 rfl rfl (fun w hs => (by have h := l12CX_spec (l := gk) (a := k / n) (b := k % n) (by rw [hgk.1]; omega) (by rw [hgk.1]; exact hg1) (by rw [hgk.1]; exact hg2) (fun j => by have h : nx gk j < 8 := mK8 h3 hgk.2.1 j; omega) (by rw [hgk.1]; exact hs.slGrpR (p := nm n ((.slice gA n gc : Value), (((gk, gf), gp), (gr, (g1, (g2, g3)))))) (.tail _ (.tail _ (List.Mem.head _))) (ng_mem hzm2)); rw [hgk.1] at h; exact h)) ?_)
                rintro _ _ ⟨un, rfl, rfl⟩
                refine ⟨(Some'.weak (.skip (.skip (.take (.take (.take (.take (.take (.nil _))))))))), ?_⟩
                refine DW.formOwn (.head _) (fun A_un2 c_un2 hv hcapc_un2 hmaxc_un2 => ?_)
                subst hv
                refine DW.take (i := 20) (v := .agg #[.slice A_un2 n c_un2, .int .i64 0, .int .i64 (((i : Nat) : Int)), .int .i64 9, .int .i64 (((k / n : Nat) : Int)), .int .i64 (((k % n : Nat) : Int)), .int .i64 0]) rfl (by kernel_rfl) (by kernel_rfl) (by kernel_rfl) (fun _ _ _ h => h) (Some'.weak (.skip (.skip (.take (.take (.take (.take (.take (.nil _))))))))) rfl (OpY.build (cs := [.slice A_un2 n c_un2, .int .i64 0, .int .i64 (((i : Nat) : Int)), .int .i64 9, .int .i64 (((k / n : Nat) : Int)), .int .i64 (((k % n : Nat) : Int)), .int .i64 0]) (by kernel_rfl)) ?_
                refine DW.step (i := 22) (by kernel_rfl) rfl rfl (OpStep.storeAll (us := [.slice A_un2 n c_un2, .int .i64 0, .int .i64 (((i : Nat) : Int)), .int .i64 9, .int .i64 (((k / n : Nat) : Int)), .int .i64 (((k % n : Nat) : Int)), .int .i64 0]) Tsize_77 rfl rfl rfl (.there _ (.here _)) rfl ?_)
                refine ⟨(Some'.weak (.skip (.skip (.take (.take (.take (.take (.take (.nil _))))))))), ?_⟩
                refine DW.done (by kernel_rfl) ?_
                refine Run.seq ?_
                refine Run.lastlyB [10] [.own (.slice A_un2 n c_un2) 3 1 n (ints (nl (cx gk (k / n, k % n)))), .blk b8 77 [.slice A_un2 n c_un2, .int .i64 0, .int .i64 (((i : Nat) : Int)), .int .i64 9, .int .i64 (((k / n : Nat) : Int)), .int .i64 (((k % n : Nat) : Int)), .int .i64 0], .own (.slice (some ⟨gz, 0, none⟩) (zs2.length) cz) 77 7 (zs2.length) (ncells zs2), .grp 3 1 (ngp n zs2), .own (.slice (some ⟨b4, 0, none⟩) N N) 4 1 N (bls (metL N (ncd zs2))), .blk b2 77 [.slice A_uI1 n c_uI1, .int .i64 (((apF ms n : Nat) : Int)), .int .i64 (-1), .int .i64 0, .int .i64 0, .int .i64 0, .int .i64 0], .blk b1 28 [.slice Av n cv]] (by kernel_rfl) ?_
                refine DL.takeP (i := 0) (v := .slice (some ⟨gz, 0, none⟩) (zs2.length) cz) rfl (by kernel_rfl) (by kernel_rfl) (by kernel_rfl) (fun _ _ _ h => h) rfl (fun _ => OpY.pure rfl) ?_
                refine DL.takeP (i := 1) (v := .int .i64 (((i : Nat) : Int))) rfl (by kernel_rfl) (by kernel_rfl) (by kernel_rfl) (fun _ _ _ h => h) rfl (fun _ => OpY.pure rfl) ?_
                refine DL.takeP (i := 2) (v := .pointer (some ⟨gz, i * 7, none⟩)) rfl (by kernel_rfl) (by kernel_rfl) (by kernel_rfl) (fun _ _ _ h => h) rfl (fun _ => OpY.index (kk := i) Tsl_67 rfl rfl (by omega) (by omega) (by first | rfl | omega)) ?_
                refine DL.takeP (i := 3) (v := .pointer (some ⟨gz, i * 7 + 1, none⟩)) rfl (by kernel_rfl) (by kernel_rfl) (by kernel_rfl) (fun _ _ _ h => h) rfl (fun _ => OpY.fieldAddr Tfo_77_1 rfl rfl) ?_
                refine DL.take (i := 4) (v := .int .i64 (((gf : Nat) : Int))) rfl (by kernel_rfl) (by kernel_rfl) (by kernel_rfl) (by kernel_rfl) (fun _ _ _ h => h) (Some'.weak (.take (.take (.take (.take (.take (.take (.take (.nil _))))))))) rfl (OpY.load1 Tone_3 rfl (Cells.own0 (.tail _ (.tail _ (List.Mem.head _))) (preN_sub (o := 1) (preN hz2) rfl))) ?_
                refine DL.takeP (i := 5) (v := .pointer (some ⟨b8, 0, none⟩)) rfl (by kernel_rfl) (by kernel_rfl) (by kernel_rfl) (fun _ _ _ h => h) rfl (fun _ => OpY.fieldAddr Tfo_77_0 rfl rfl) ?_
                refine DL.take (i := 6) (v := .agg #[.slice A_un2 n c_un2]) rfl (by kernel_rfl) (by kernel_rfl) (by kernel_rfl) (by kernel_rfl) (fun _ _ _ h => h) (Some'.weak (.take (.take (.take (.take (.take (.take (.take (.nil _))))))))) rfl (OpY.loadN (cs := [.slice A_un2 n c_un2]) Tagg_28 rfl (Cells.blk (.tail _ (List.Mem.head _)) ⟨rfl, trivial⟩)) ?_
                refine DL.takeP (i := 7) (v := .slice Am (ms.length) cm) rfl (by kernel_rfl) (by kernel_rfl) (by kernel_rfl) (fun _ _ _ h => h) rfl (fun _ => OpY.pure rfl) ?_
                refine DL.stepS (i := 8) (by kernel_rfl) rfl rfl (OpStep.q (v := .int .i64 (((xf : Nat) : Int))) (OpQ.call (vs := [.int .i64 (((gf : Nat) : Int)), .agg #[.slice A_un2 n c_un2], .slice Am (ms.length) cm]) (caps := []) Tcall_90 rfl rfl (fun w hs => (by have h := l14Seen_spec (f := gf) (l := cx gk (k / n, k % n)) hm7 hgk.2.2 (by rw [hnk.1]; exact hs.slOwn (.head _)) (hs.sl hms); rw [hsx] at h; exact h))) ?_)
                refine ⟨(Some'.weak (.take (.take (.take (.take (.take (.take (.take (.nil _))))))))), ?_⟩
                refine DL.takeP (i := 9) (v := .pointer (some ⟨b8, 1, none⟩)) rfl (by kernel_rfl) (by kernel_rfl) (by kernel_rfl) (fun _ _ _ h => h) rfl (fun _ => OpY.fieldAddr Tfo_77_1 rfl rfl) ?_
                refine DL.step (i := 10) (by kernel_rfl) (by kernel_rfl) rfl rfl (OpStep.store (us := [.int .i64 (((xf : Nat) : Int))]) Tsize_3 rfl rfl rfl (.there _ (.here _)) (by simp only [List.length_cons, List.length_nil]; omega) ?_)
                show DL _ _ _ _ _ _ _ _ [.own (.slice A_un2 n c_un2) 3 1 n (ints (nl (cx gk (k / n, k % n)))), .blk b8 77 [.slice A_un2 n c_un2, .int .i64 (((xf : Nat) : Int)), .int .i64 (((i : Nat) : Int)), .int .i64 9, .int .i64 (((k / n : Nat) : Int)), .int .i64 (((k % n : Nat) : Int)), .int .i64 0], .own (.slice (some ⟨gz, 0, none⟩) (zs2.length) cz) 77 7 (zs2.length) (ncells zs2), .grp 3 1 (ngp n zs2), .own (.slice (some ⟨b4, 0, none⟩) N N) 4 1 N (bls (metL N (ncd zs2))), .blk b2 77 [.slice A_uI1 n c_uI1, .int .i64 (((apF ms n : Nat) : Int)), .int .i64 (-1), .int .i64 0, .int .i64 0, .int .i64 0, .int .i64 0], .blk b1 28 [.slice Av n cv]]
                refine DL.done (by kernel_rfl) ?_
                refine Run.seq ?_
                refine Run.region ?_
                refine Run.q (v := .slice (some ⟨b4, 0, none⟩) N N) rfl (OpQ.y (OpY.pure rfl)) ?_
                refine Run.q (v := .agg #[.slice A_un2 n c_un2, .int .i64 (((xf : Nat) : Int)), .int .i64 (((i : Nat) : Int)), .int .i64 9, .int .i64 (((k / n : Nat) : Int)), .int .i64 (((k % n : Nat) : Int)), .int .i64 0]) rfl (OpQ.y (OpY.loadN (cs := [.slice A_un2 n c_un2, .int .i64 (((xf : Nat) : Int)), .int .i64 (((i : Nat) : Int)), .int .i64 9, .int .i64 (((k / n : Nat) : Int)), .int .i64 (((k % n : Nat) : Int)), .int .i64 0]) Tagg_77 rfl (Cells.blk (.tail _ (List.Mem.head _)) ⟨rfl, rfl, rfl, rfl, rfl, rfl, rfl, trivial⟩))) ?_
                refine Run.q (v := .int .i64 (((cdE (cx gk (k / n, k % n), xf) : Nat) : Int))) rfl (OpQ.call (vs := [.agg #[.slice A_un2 n c_un2, .int .i64 (((xf : Nat) : Int)), .int .i64 (((i : Nat) : Int)), .int .i64 9, .int .i64 (((k / n : Nat) : Int)), .int .i64 (((k % n : Nat) : Int)), .int .i64 0]]) (caps := []) Tcall_91 rfl rfl (fun w hs => (by have h := l14Code_spec (f := xf) (l := cx gk (k / n, k % n)) (c2 := (i : Int)) (c3 := 9) (c4 := ((k / n : Nat) : Int)) (c5 := ((k % n : Nat) : Int)) (c6 := 0) (by rw [hnk.1]; omega) hxf (mK8 h3 hnk.2.1) (by rw [hnk.1]; exact hs.slOwn (.head _)); rw [show cdS xf (cx gk (k / n, k % n)) (cx gk (k / n, k % n)).length = cdE (cx gk (k / n, k % n), xf) from rfl] at h; exact h))) ?_
                refine Run.q (v := .pointer (some ⟨b4, cdE (cx gk (k / n, k % n), xf), none⟩)) rfl (OpQ.y (OpY.index (kk := cdE (cx gk (k / n, k % n), xf)) Tsl_104 rfl rfl (by omega) (by omega) (by first | rfl | omega))) ?_
                refine Run.q (v := .bool (bx (metL N (ncd zs2)) (cdE (cx gk (k / n, k % n), xf)))) rfl (OpQ.y (OpY.load1 Tone_4 rfl (Cells.own0 (.tail _ (.tail _ (.tail _ (.tail _ (List.Mem.head _))))) (preBl (by rw [metL_length]; omega))))) ?_
                refine Run.q (v := .bool (!(bx (metL N (ncd zs2)) (cdE (cx gk (k / n, k % n), xf))))) rfl (OpQ.y (OpY.pure rfl)) ?_
                refine Run.done ?_
                refine Run.cond (b := !(bx (metL N (ncd zs2)) (cdE (cx gk (k / n, k % n), xf)))) rfl (fun h120 => ?_) (fun h120 => ?_)
                · have p120 := h120; try simp only [decide_eq_true_eq, decide_eq_false_iff_not, beq_iff_eq, bne_iff_ne, beq_eq_false_iff_ne, ne_eq, gt_iff_lt, ge_iff_le, Int.not_lt, Int.not_le, bne_eq_false_iff_eq, Bool.not_eq_true', Bool.not_eq_false', Bool.and_eq_true, Bool.and_eq_false_iff, Bool.or_eq_true, Bool.or_eq_false_iff, Decidable.not_not, List.cons.injEq, and_true] at p120
                  have hnin : (cx gk (k / n, k % n), xf) ∉ (nk zs2).map (·.1) := by have h := h120; rw [hbx] at h; simpa using h
                  have hbv : brow (lstep n ms) (lok n) ((gk, gf), gp) (mQ n ms i) (k + 1) = nk zs2 ++ [((cx gk (k / n, k % n), xf), gp ++ [k])] := by rw [brow, ← hq2, bvis, hstp, if_pos ⟨by rw [lok, decide_eq_true_eq]; omega, hnin⟩]
                  refine Run.seq ?_
                  refine Run.region ?_
                  refine Run.q (v := .slice (some ⟨b4, 0, none⟩) N N) rfl (OpQ.y (OpY.pure rfl)) ?_
                  refine Run.q (v := .agg #[.slice A_un2 n c_un2, .int .i64 (((xf : Nat) : Int)), .int .i64 (((i : Nat) : Int)), .int .i64 9, .int .i64 (((k / n : Nat) : Int)), .int .i64 (((k % n : Nat) : Int)), .int .i64 0]) rfl (OpQ.y (OpY.loadN (cs := [.slice A_un2 n c_un2, .int .i64 (((xf : Nat) : Int)), .int .i64 (((i : Nat) : Int)), .int .i64 9, .int .i64 (((k / n : Nat) : Int)), .int .i64 (((k % n : Nat) : Int)), .int .i64 0]) Tagg_77 rfl (Cells.blk (.tail _ (List.Mem.head _)) ⟨rfl, rfl, rfl, rfl, rfl, rfl, rfl, trivial⟩))) ?_
                  refine Run.q (v := .int .i64 (((cdE (cx gk (k / n, k % n), xf) : Nat) : Int))) rfl (OpQ.call (vs := [.agg #[.slice A_un2 n c_un2, .int .i64 (((xf : Nat) : Int)), .int .i64 (((i : Nat) : Int)), .int .i64 9, .int .i64 (((k / n : Nat) : Int)), .int .i64 (((k % n : Nat) : Int)), .int .i64 0]]) (caps := []) Tcall_91 rfl rfl (fun w hs => (by have h := l14Code_spec (f := xf) (l := cx gk (k / n, k % n)) (c2 := (i : Int)) (c3 := 9) (c4 := ((k / n : Nat) : Int)) (c5 := ((k % n : Nat) : Int)) (c6 := 0) (by rw [hnk.1]; omega) hxf (mK8 h3 hnk.2.1) (by rw [hnk.1]; exact hs.slOwn (.head _)); rw [show cdS xf (cx gk (k / n, k % n)) (cx gk (k / n, k % n)).length = cdE (cx gk (k / n, k % n), xf) from rfl] at h; exact h))) ?_
                  refine Run.q (v := .pointer (some ⟨b4, cdE (cx gk (k / n, k % n), xf), none⟩)) rfl (OpQ.y (OpY.index (kk := cdE (cx gk (k / n, k % n), xf)) Tsl_104 rfl rfl (by omega) (by omega) (by first | rfl | omega))) ?_
                  refine Run.step rfl (OpStep.storeOwn (us := [.bool true]) Tsize_4 rfl rfl rfl rfl (by rw [bls_set, ← metL_snoc]; exact (.there _ (.there _ (.there _ (.there _ (.here _)))))) (by simp only [List.length_cons, List.length_nil]; omega) ?_)
                  refine Run.done ?_
                  refine Run.region ?_
                  refine Run.q (v := .slice (some ⟨gz, 0, none⟩) (zs2.length) cz) rfl (OpQ.y (OpY.pure rfl)) ?_
                  refine Run.q (v := .agg #[.slice A_un2 n c_un2, .int .i64 (((xf : Nat) : Int)), .int .i64 (((i : Nat) : Int)), .int .i64 9, .int .i64 (((k / n : Nat) : Int)), .int .i64 (((k % n : Nat) : Int)), .int .i64 0]) rfl (OpQ.y (OpY.loadN (cs := [.slice A_un2 n c_un2, .int .i64 (((xf : Nat) : Int)), .int .i64 (((i : Nat) : Int)), .int .i64 9, .int .i64 (((k / n : Nat) : Int)), .int .i64 (((k % n : Nat) : Int)), .int .i64 0]) Tagg_77 rfl (Cells.blk (.tail _ (List.Mem.head _)) ⟨rfl, rfl, rfl, rfl, rfl, rfl, rfl, trivial⟩))) ?_
                  refine Run.step rfl (OpStep.buildSlice (us := [.slice A_un2 n c_un2, .int .i64 (((xf : Nat) : Int)), .int .i64 (((i : Nat) : Int)), .int .i64 9, .int .i64 (((k / n : Nat) : Int)), .int .i64 (((k % n : Nat) : Int)), .int .i64 0]) Tsl_67 (by decide) (by decide) ⟨rfl, [.slice A_un2 n c_un2, .int .i64 (((xf : Nat) : Int)), .int .i64 (((i : Nat) : Int)), .int .i64 9, .int .i64 (((k / n : Nat) : Int)), .int .i64 (((k % n : Nat) : Int)), .int .i64 0], _, rfl, rfl, rfl, rfl⟩ rfl fun b9 => ?_)
                  refine Run.step rfl (OpStep.append (H1 := [.own (.slice (some ⟨b9, 0, none⟩) 1 1) 77 7 1 ([.slice A_un2 n c_un2, .int .i64 (((xf : Nat) : Int)), .int .i64 (((i : Nat) : Int)), .int .i64 9, .int .i64 (((k / n : Nat) : Int)), .int .i64 (((k % n : Nat) : Int)), .int .i64 0]), .own (.slice A_un2 n c_un2) 3 1 n (ints (nl (cx gk (k / n, k % n)))), .blk b8 77 [.slice A_un2 n c_un2, .int .i64 (((xf : Nat) : Int)), .int .i64 (((i : Nat) : Int)), .int .i64 9, .int .i64 (((k / n : Nat) : Int)), .int .i64 (((k % n : Nat) : Int)), .int .i64 0]]) (H2 := [.grp 3 1 (ngp n zs2), .own (.slice (some ⟨b4, 0, none⟩) N N) 4 1 N (bls (metL N ((ncd zs2 ++ [cdE (cx gk (k / n, k % n), xf)])))), .blk b2 77 [.slice A_uI1 n c_uI1, .int .i64 (((apF ms n : Nat) : Int)), .int .i64 (-1), .int .i64 0, .int .i64 0, .int .i64 0, .int .i64 0], .blk b1 28 [.slice Av n cv]]) (v := .slice (some ⟨gz, 0, none⟩) (zs2.length) cz) (u := .slice (some ⟨b9, 0, none⟩) 1 1) (n := zs2.length) (m := 1) (xs := ncells zs2) (ys := [.slice A_un2 n c_un2, .int .i64 (((xf : Nat) : Int)), .int .i64 (((i : Nat) : Int)), .int .i64 9, .int .i64 (((k / n : Nat) : Int)), .int .i64 (((k % n : Nat) : Int)), .int .i64 0]) Tsl_67 (by decide) rfl rfl rfl rfl (fun w hs => hs.slOwn (.head _)) (by simp [Value.oneCell']) (by omega) (by simp only [maxLen]; omega) fun av3 hnav3 => ?_)
                  refine Run.weak (H' := [.own (.slice (some ⟨b9, 0, none⟩) 1 1) 77 7 1 ([.slice A_un2 n c_un2, .int .i64 (((xf : Nat) : Int)), .int .i64 (((i : Nat) : Int)), .int .i64 9, .int .i64 (((k / n : Nat) : Int)), .int .i64 (((k % n : Nat) : Int)), .int .i64 0]), .own (.slice A_un2 n c_un2) 3 1 n (ints (nl (cx gk (k / n, k % n)))), .blk b8 77 [.slice A_un2 n c_un2, .int .i64 (((xf : Nat) : Int)), .int .i64 (((i : Nat) : Int)), .int .i64 9, .int .i64 (((k / n : Nat) : Int)), .int .i64 (((k % n : Nat) : Int)), .int .i64 0], .own av3 77 7 ((zs2 ++ [((.slice A_un2 n c_un2 : Value), (((cx gk (k / n, k % n), xf), gp ++ [k]), ((i : Int), gt3 n k)))] : List NZ).length) (ncells (zs2 ++ [((.slice A_un2 n c_un2 : Value), (((cx gk (k / n, k % n), xf), gp ++ [k]), ((i : Int), gt3 n k)))])), .grp 3 1 (ngp n zs2), .own (.slice (some ⟨b4, 0, none⟩) N N) 4 1 N (bls (metL N ((ncd zs2 ++ [cdE (cx gk (k / n, k % n), xf)])))), .blk b2 77 [.slice A_uI1 n c_uI1, .int .i64 (((apF ms n : Nat) : Int)), .int .i64 (-1), .int .i64 0, .int .i64 0, .int .i64 0, .int .i64 0], .blk b1 28 [.slice Av n cv]]) (Some'.weak (.take (.take (.take (.takeEq (by rw [← ncells_snoc]; exact congrArg (fun k => Res.own _ _ _ k _) (by simp)) (.take (.take (.take (.take (.nil _)))))))))) ?_ ⟨_, _, rfl, fun _ => nofun, fun _ => nofun⟩
                  refine Run.weak (H' := [.grp 3 1 (ngp n (zs2 ++ [((.slice A_un2 n c_un2 : Value), (((cx gk (k / n, k % n), xf), gp ++ [k]), ((i : Int), gt3 n k)))])), .own (.slice (some ⟨b9, 0, none⟩) 1 1) 77 7 1 ([.slice A_un2 n c_un2, .int .i64 (((xf : Nat) : Int)), .int .i64 (((i : Nat) : Int)), .int .i64 9, .int .i64 (((k / n : Nat) : Int)), .int .i64 (((k % n : Nat) : Int)), .int .i64 0]), .blk b8 77 [.slice A_un2 n c_un2, .int .i64 (((xf : Nat) : Int)), .int .i64 (((i : Nat) : Int)), .int .i64 9, .int .i64 (((k / n : Nat) : Int)), .int .i64 (((k % n : Nat) : Int)), .int .i64 0], .own av3 77 7 ((zs2 ++ [((.slice A_un2 n c_un2 : Value), (((cx gk (k / n, k % n), xf), gp ++ [k]), ((i : Int), gt3 n k)))] : List NZ).length) (ncells (zs2 ++ [((.slice A_un2 n c_un2 : Value), (((cx gk (k / n, k % n), xf), gp ++ [k]), ((i : Int), gt3 n k)))])), .own (.slice (some ⟨b4, 0, none⟩) N N) 4 1 N (bls (metL N ((ncd zs2 ++ [cdE (cx gk (k / n, k % n), xf)])))), .blk b2 77 [.slice A_uI1 n c_uI1, .int .i64 (((apF ms n : Nat) : Int)), .int .i64 (-1), .int .i64 0, .int .i64 0, .int .i64 0, .int .i64 0], .blk b1 28 [.slice Av n cv]]) (((Weak.front [.own (.slice (some ⟨b9, 0, none⟩) 1 1) 77 7 1 ([.slice A_un2 n c_un2, .int .i64 (((xf : Nat) : Int)), .int .i64 (((i : Nat) : Int)), .int .i64 9, .int .i64 (((k / n : Nat) : Int)), .int .i64 (((k % n : Nat) : Int)), .int .i64 0]), .own (.slice A_un2 n c_un2) 3 1 n (ints (nl (cx gk (k / n, k % n)))), .blk b8 77 [.slice A_un2 n c_un2, .int .i64 (((xf : Nat) : Int)), .int .i64 (((i : Nat) : Int)), .int .i64 9, .int .i64 (((k / n : Nat) : Int)), .int .i64 (((k % n : Nat) : Int)), .int .i64 0], .own av3 77 7 ((zs2 ++ [((.slice A_un2 n c_un2 : Value), (((cx gk (k / n, k % n), xf), gp ++ [k]), ((i : Int), gt3 n k)))] : List NZ).length) (ncells (zs2 ++ [((.slice A_un2 n c_un2 : Value), (((cx gk (k / n, k % n), xf), gp ++ [k]), ((i : Int), gt3 n k)))]))] (.grp 3 1 (ngp n zs2)) [.own (.slice (some ⟨b4, 0, none⟩) N N) 4 1 N (bls (metL N ((ncd zs2 ++ [cdE (cx gk (k / n, k % n), xf)])))), .blk b2 77 [.slice A_uI1 n c_uI1, .int .i64 (((apF ms n : Nat) : Int)), .int .i64 (-1), .int .i64 0, .int .i64 0, .int .i64 0, .int .i64 0], .blk b1 28 [.slice Av n cv]]).trans (Weak.front [.grp 3 1 (ngp n zs2), .own (.slice (some ⟨b9, 0, none⟩) 1 1) 77 7 1 ([.slice A_un2 n c_un2, .int .i64 (((xf : Nat) : Int)), .int .i64 (((i : Nat) : Int)), .int .i64 9, .int .i64 (((k / n : Nat) : Int)), .int .i64 (((k % n : Nat) : Int)), .int .i64 0])] (.own (.slice A_un2 n c_un2) 3 1 n (ints (nl (cx gk (k / n, k % n))))) [.blk b8 77 [.slice A_un2 n c_un2, .int .i64 (((xf : Nat) : Int)), .int .i64 (((i : Nat) : Int)), .int .i64 9, .int .i64 (((k / n : Nat) : Int)), .int .i64 (((k % n : Nat) : Int)), .int .i64 0], .own av3 77 7 ((zs2 ++ [((.slice A_un2 n c_un2 : Value), (((cx gk (k / n, k % n), xf), gp ++ [k]), ((i : Int), gt3 n k)))] : List NZ).length) (ncells (zs2 ++ [((.slice A_un2 n c_un2 : Value), (((cx gk (k / n, k % n), xf), gp ++ [k]), ((i : Int), gt3 n k)))])), .own (.slice (some ⟨b4, 0, none⟩) N N) 4 1 N (bls (metL N ((ncd zs2 ++ [cdE (cx gk (k / n, k % n), xf)])))), .blk b2 77 [.slice A_uI1 n c_uI1, .int .i64 (((apF ms n : Nat) : Int)), .int .i64 (-1), .int .i64 0, .int .i64 0, .int .i64 0, .int .i64 0], .blk b1 28 [.slice Av n cv]])).trans (Weak.ngSnoc (k := (cx gk (k / n, k % n), xf)) (p := gp ++ [k]))) ?_ ⟨_, _, rfl, fun _ => nofun, fun _ => nofun⟩
                  refine Run.q (v := av3) rfl (OpQ.y (OpY.pure rfl)) ?_
                  refine Run.done ?_
                  refine Run.blockEnd ?_
                  refine Run.region ?_
                  refine Run.q (v := .int .i64 (((k : Nat) : Int))) rfl (OpQ.y (OpY.pure rfl)) ?_
                  refine Run.q (v := .int .i64 ((((k : Nat) : Int)) + 1)) rfl (OpQ.y (OpY.add rfl rfl rfl (by omega) (by omega))) ?_
                  refine Run.q (v := .int .i64 ((((k : Nat) : Int)) + 1)) rfl (OpQ.y (OpY.pure rfl)) ?_
                  refine Run.done ?_
                  refine Run.goal ⟨(by repeat (first | exact Same.refl _ _ | refine Same.put rfl ?_ | refine Same.over rfl rfl ?_)), (k + 1, av3, (zs2 ++ [((.slice A_un2 n c_un2 : Value), (((cx gk (k / n, k % n), xf), gp ++ [k]), ((i : Int), gt3 n k)))])), ?_, ?_, ?_, ?_⟩
                  · first | exact ⟨hkn, hbv.symm, hlk2, t2, ht2⟩ | exact ⟨hkn, by rw [hbv]; simp [nk], hlk2.snoc hz2 rfl rfl, t2 ++ [_], by rw [ht2, List.append_assoc]⟩
                  · show n * n - (k + 1) < n * n - k; omega
                  · exact ⟨(by first | rfl | (congr 1; omega) | simp), (by first | rfl | (congr 1; omega) | simp), trivial⟩
                  · exact ((((((Weak.front [.grp 3 1 (ngp n (zs2 ++ [((.slice A_un2 n c_un2 : Value), (((cx gk (k / n, k % n), xf), gp ++ [k]), ((i : Int), gt3 n k)))])), .own (.slice (some ⟨b9, 0, none⟩) 1 1) 77 7 1 ([.slice A_un2 n c_un2, .int .i64 (((xf : Nat) : Int)), .int .i64 (((i : Nat) : Int)), .int .i64 9, .int .i64 (((k / n : Nat) : Int)), .int .i64 (((k % n : Nat) : Int)), .int .i64 0]), .blk b8 77 [.slice A_un2 n c_un2, .int .i64 (((xf : Nat) : Int)), .int .i64 (((i : Nat) : Int)), .int .i64 9, .int .i64 (((k / n : Nat) : Int)), .int .i64 (((k % n : Nat) : Int)), .int .i64 0], .own av3 77 7 ((zs2 ++ [((.slice A_un2 n c_un2 : Value), (((cx gk (k / n, k % n), xf), gp ++ [k]), ((i : Int), gt3 n k)))] : List NZ).length) (ncells (zs2 ++ [((.slice A_un2 n c_un2 : Value), (((cx gk (k / n, k % n), xf), gp ++ [k]), ((i : Int), gt3 n k)))])), .own (.slice (some ⟨b4, 0, none⟩) N N) 4 1 N (bls (metL N ((ncd zs2 ++ [cdE (cx gk (k / n, k % n), xf)])))), .blk b2 77 [.slice A_uI1 n c_uI1, .int .i64 (((apF ms n : Nat) : Int)), .int .i64 (-1), .int .i64 0, .int .i64 0, .int .i64 0, .int .i64 0]] (.blk b1 28 [.slice Av n cv]) []).trans (Weak.front [.blk b1 28 [.slice Av n cv], .grp 3 1 (ngp n (zs2 ++ [((.slice A_un2 n c_un2 : Value), (((cx gk (k / n, k % n), xf), gp ++ [k]), ((i : Int), gt3 n k)))])), .own (.slice (some ⟨b9, 0, none⟩) 1 1) 77 7 1 ([.slice A_un2 n c_un2, .int .i64 (((xf : Nat) : Int)), .int .i64 (((i : Nat) : Int)), .int .i64 9, .int .i64 (((k / n : Nat) : Int)), .int .i64 (((k % n : Nat) : Int)), .int .i64 0]), .blk b8 77 [.slice A_un2 n c_un2, .int .i64 (((xf : Nat) : Int)), .int .i64 (((i : Nat) : Int)), .int .i64 9, .int .i64 (((k / n : Nat) : Int)), .int .i64 (((k % n : Nat) : Int)), .int .i64 0], .own av3 77 7 ((zs2 ++ [((.slice A_un2 n c_un2 : Value), (((cx gk (k / n, k % n), xf), gp ++ [k]), ((i : Int), gt3 n k)))] : List NZ).length) (ncells (zs2 ++ [((.slice A_un2 n c_un2 : Value), (((cx gk (k / n, k % n), xf), gp ++ [k]), ((i : Int), gt3 n k)))])), .own (.slice (some ⟨b4, 0, none⟩) N N) 4 1 N (bls (metL N ((ncd zs2 ++ [cdE (cx gk (k / n, k % n), xf)]))))] (.blk b2 77 [.slice A_uI1 n c_uI1, .int .i64 (((apF ms n : Nat) : Int)), .int .i64 (-1), .int .i64 0, .int .i64 0, .int .i64 0, .int .i64 0]) [])).trans (Weak.front [.blk b2 77 [.slice A_uI1 n c_uI1, .int .i64 (((apF ms n : Nat) : Int)), .int .i64 (-1), .int .i64 0, .int .i64 0, .int .i64 0, .int .i64 0], .blk b1 28 [.slice Av n cv], .grp 3 1 (ngp n (zs2 ++ [((.slice A_un2 n c_un2 : Value), (((cx gk (k / n, k % n), xf), gp ++ [k]), ((i : Int), gt3 n k)))])), .own (.slice (some ⟨b9, 0, none⟩) 1 1) 77 7 1 ([.slice A_un2 n c_un2, .int .i64 (((xf : Nat) : Int)), .int .i64 (((i : Nat) : Int)), .int .i64 9, .int .i64 (((k / n : Nat) : Int)), .int .i64 (((k % n : Nat) : Int)), .int .i64 0]), .blk b8 77 [.slice A_un2 n c_un2, .int .i64 (((xf : Nat) : Int)), .int .i64 (((i : Nat) : Int)), .int .i64 9, .int .i64 (((k / n : Nat) : Int)), .int .i64 (((k % n : Nat) : Int)), .int .i64 0], .own av3 77 7 ((zs2 ++ [((.slice A_un2 n c_un2 : Value), (((cx gk (k / n, k % n), xf), gp ++ [k]), ((i : Int), gt3 n k)))] : List NZ).length) (ncells (zs2 ++ [((.slice A_un2 n c_un2 : Value), (((cx gk (k / n, k % n), xf), gp ++ [k]), ((i : Int), gt3 n k)))]))] (.own (.slice (some ⟨b4, 0, none⟩) N N) 4 1 N (bls (metL N ((ncd zs2 ++ [cdE (cx gk (k / n, k % n), xf)]))))) [])).trans (Weak.front [.own (.slice (some ⟨b4, 0, none⟩) N N) 4 1 N (bls (metL N ((ncd zs2 ++ [cdE (cx gk (k / n, k % n), xf)])))), .blk b2 77 [.slice A_uI1 n c_uI1, .int .i64 (((apF ms n : Nat) : Int)), .int .i64 (-1), .int .i64 0, .int .i64 0, .int .i64 0, .int .i64 0], .blk b1 28 [.slice Av n cv]] (.grp 3 1 (ngp n (zs2 ++ [((.slice A_un2 n c_un2 : Value), (((cx gk (k / n, k % n), xf), gp ++ [k]), ((i : Int), gt3 n k)))]))) [.own (.slice (some ⟨b9, 0, none⟩) 1 1) 77 7 1 ([.slice A_un2 n c_un2, .int .i64 (((xf : Nat) : Int)), .int .i64 (((i : Nat) : Int)), .int .i64 9, .int .i64 (((k / n : Nat) : Int)), .int .i64 (((k % n : Nat) : Int)), .int .i64 0]), .blk b8 77 [.slice A_un2 n c_un2, .int .i64 (((xf : Nat) : Int)), .int .i64 (((i : Nat) : Int)), .int .i64 9, .int .i64 (((k / n : Nat) : Int)), .int .i64 (((k % n : Nat) : Int)), .int .i64 0], .own av3 77 7 ((zs2 ++ [((.slice A_un2 n c_un2 : Value), (((cx gk (k / n, k % n), xf), gp ++ [k]), ((i : Int), gt3 n k)))] : List NZ).length) (ncells (zs2 ++ [((.slice A_un2 n c_un2 : Value), (((cx gk (k / n, k % n), xf), gp ++ [k]), ((i : Int), gt3 n k)))]))])).trans (Weak.front [.grp 3 1 (ngp n (zs2 ++ [((.slice A_un2 n c_un2 : Value), (((cx gk (k / n, k % n), xf), gp ++ [k]), ((i : Int), gt3 n k)))])), .own (.slice (some ⟨b4, 0, none⟩) N N) 4 1 N (bls (metL N ((ncd zs2 ++ [cdE (cx gk (k / n, k % n), xf)])))), .blk b2 77 [.slice A_uI1 n c_uI1, .int .i64 (((apF ms n : Nat) : Int)), .int .i64 (-1), .int .i64 0, .int .i64 0, .int .i64 0, .int .i64 0], .blk b1 28 [.slice Av n cv], .own (.slice (some ⟨b9, 0, none⟩) 1 1) 77 7 1 ([.slice A_un2 n c_un2, .int .i64 (((xf : Nat) : Int)), .int .i64 (((i : Nat) : Int)), .int .i64 9, .int .i64 (((k / n : Nat) : Int)), .int .i64 (((k % n : Nat) : Int)), .int .i64 0]), .blk b8 77 [.slice A_un2 n c_un2, .int .i64 (((xf : Nat) : Int)), .int .i64 (((i : Nat) : Int)), .int .i64 9, .int .i64 (((k / n : Nat) : Int)), .int .i64 (((k % n : Nat) : Int)), .int .i64 0]] (.own av3 77 7 ((zs2 ++ [((.slice A_un2 n c_un2 : Value), (((cx gk (k / n, k % n), xf), gp ++ [k]), ((i : Int), gt3 n k)))] : List NZ).length) (ncells (zs2 ++ [((.slice A_un2 n c_un2 : Value), (((cx gk (k / n, k % n), xf), gp ++ [k]), ((i : Int), gt3 n k)))]))) [])).trans (Some'.weak (.takeEq (by first | rfl | simp [ncd]) (.takeEq (by first | rfl | simp [ncd]) (.takeEq (by first | rfl | simp [ncd]) (.take (.take (.nil _))))))))
                · have p120 := h120; try simp only [decide_eq_true_eq, decide_eq_false_iff_not, beq_iff_eq, bne_iff_ne, beq_eq_false_iff_ne, ne_eq, gt_iff_lt, ge_iff_le, Int.not_lt, Int.not_le, bne_eq_false_iff_eq, Bool.not_eq_true', Bool.not_eq_false', Bool.and_eq_true, Bool.and_eq_false_iff, Bool.or_eq_true, Bool.or_eq_false_iff, Decidable.not_not, List.cons.injEq, and_true] at p120
                  have hyin : (cx gk (k / n, k % n), xf) ∈ (nk zs2).map (·.1) := by have h := h120; rw [hbx] at h; simpa using h
                  have hbv : brow (lstep n ms) (lok n) ((gk, gf), gp) (mQ n ms i) (k + 1) = nk zs2 := by rw [brow, ← hq2, bvis, hstp, if_neg (fun h => h.2 hyin)]
                  refine Run.skip ?_
                  refine Run.blockEnd ?_
                  refine Run.region ?_
                  refine Run.q (v := .int .i64 (((k : Nat) : Int))) rfl (OpQ.y (OpY.pure rfl)) ?_
                  refine Run.q (v := .int .i64 ((((k : Nat) : Int)) + 1)) rfl (OpQ.y (OpY.add rfl rfl rfl (by omega) (by omega))) ?_
                  refine Run.q (v := .int .i64 ((((k : Nat) : Int)) + 1)) rfl (OpQ.y (OpY.pure rfl)) ?_
                  refine Run.done ?_
                  refine Run.goal ⟨(by repeat (first | exact Same.refl _ _ | refine Same.put rfl ?_ | refine Same.over rfl rfl ?_)), (k + 1, .slice (some ⟨gz, 0, none⟩) (zs2.length) cz, zs2), ?_, ?_, ?_, ?_⟩
                  · first | exact ⟨hkn, hbv.symm, hlk2, t2, ht2⟩ | exact ⟨hkn, by rw [hbv]; simp [nk], hlk2.snoc hz2 rfl rfl, t2 ++ [_], by rw [ht2, List.append_assoc]⟩
                  · show n * n - (k + 1) < n * n - k; omega
                  · exact ⟨(by first | rfl | (congr 1; omega) | simp), (by first | rfl | (congr 1; omega) | simp), trivial⟩
                  · exact ((((((Weak.front [.own (.slice A_un2 n c_un2) 3 1 n (ints (nl (cx gk (k / n, k % n)))), .blk b8 77 [.slice A_un2 n c_un2, .int .i64 (((xf : Nat) : Int)), .int .i64 (((i : Nat) : Int)), .int .i64 9, .int .i64 (((k / n : Nat) : Int)), .int .i64 (((k % n : Nat) : Int)), .int .i64 0], .own (.slice (some ⟨gz, 0, none⟩) (zs2.length) cz) 77 7 (zs2.length) (ncells zs2), .grp 3 1 (ngp n zs2), .own (.slice (some ⟨b4, 0, none⟩) N N) 4 1 N (bls (metL N (ncd zs2))), .blk b2 77 [.slice A_uI1 n c_uI1, .int .i64 (((apF ms n : Nat) : Int)), .int .i64 (-1), .int .i64 0, .int .i64 0, .int .i64 0, .int .i64 0]] (.blk b1 28 [.slice Av n cv]) []).trans (Weak.front [.blk b1 28 [.slice Av n cv], .own (.slice A_un2 n c_un2) 3 1 n (ints (nl (cx gk (k / n, k % n)))), .blk b8 77 [.slice A_un2 n c_un2, .int .i64 (((xf : Nat) : Int)), .int .i64 (((i : Nat) : Int)), .int .i64 9, .int .i64 (((k / n : Nat) : Int)), .int .i64 (((k % n : Nat) : Int)), .int .i64 0], .own (.slice (some ⟨gz, 0, none⟩) (zs2.length) cz) 77 7 (zs2.length) (ncells zs2), .grp 3 1 (ngp n zs2), .own (.slice (some ⟨b4, 0, none⟩) N N) 4 1 N (bls (metL N (ncd zs2)))] (.blk b2 77 [.slice A_uI1 n c_uI1, .int .i64 (((apF ms n : Nat) : Int)), .int .i64 (-1), .int .i64 0, .int .i64 0, .int .i64 0, .int .i64 0]) [])).trans (Weak.front [.blk b2 77 [.slice A_uI1 n c_uI1, .int .i64 (((apF ms n : Nat) : Int)), .int .i64 (-1), .int .i64 0, .int .i64 0, .int .i64 0, .int .i64 0], .blk b1 28 [.slice Av n cv], .own (.slice A_un2 n c_un2) 3 1 n (ints (nl (cx gk (k / n, k % n)))), .blk b8 77 [.slice A_un2 n c_un2, .int .i64 (((xf : Nat) : Int)), .int .i64 (((i : Nat) : Int)), .int .i64 9, .int .i64 (((k / n : Nat) : Int)), .int .i64 (((k % n : Nat) : Int)), .int .i64 0], .own (.slice (some ⟨gz, 0, none⟩) (zs2.length) cz) 77 7 (zs2.length) (ncells zs2), .grp 3 1 (ngp n zs2)] (.own (.slice (some ⟨b4, 0, none⟩) N N) 4 1 N (bls (metL N (ncd zs2)))) [])).trans (Weak.front [.own (.slice (some ⟨b4, 0, none⟩) N N) 4 1 N (bls (metL N (ncd zs2))), .blk b2 77 [.slice A_uI1 n c_uI1, .int .i64 (((apF ms n : Nat) : Int)), .int .i64 (-1), .int .i64 0, .int .i64 0, .int .i64 0, .int .i64 0], .blk b1 28 [.slice Av n cv], .own (.slice A_un2 n c_un2) 3 1 n (ints (nl (cx gk (k / n, k % n)))), .blk b8 77 [.slice A_un2 n c_un2, .int .i64 (((xf : Nat) : Int)), .int .i64 (((i : Nat) : Int)), .int .i64 9, .int .i64 (((k / n : Nat) : Int)), .int .i64 (((k % n : Nat) : Int)), .int .i64 0], .own (.slice (some ⟨gz, 0, none⟩) (zs2.length) cz) 77 7 (zs2.length) (ncells zs2)] (.grp 3 1 (ngp n zs2)) [])).trans (Weak.front [.grp 3 1 (ngp n zs2), .own (.slice (some ⟨b4, 0, none⟩) N N) 4 1 N (bls (metL N (ncd zs2))), .blk b2 77 [.slice A_uI1 n c_uI1, .int .i64 (((apF ms n : Nat) : Int)), .int .i64 (-1), .int .i64 0, .int .i64 0, .int .i64 0, .int .i64 0], .blk b1 28 [.slice Av n cv], .own (.slice A_un2 n c_un2) 3 1 n (ints (nl (cx gk (k / n, k % n)))), .blk b8 77 [.slice A_un2 n c_un2, .int .i64 (((xf : Nat) : Int)), .int .i64 (((i : Nat) : Int)), .int .i64 9, .int .i64 (((k / n : Nat) : Int)), .int .i64 (((k % n : Nat) : Int)), .int .i64 0]] (.own (.slice (some ⟨gz, 0, none⟩) (zs2.length) cz) 77 7 (zs2.length) (ncells zs2)) [])).trans (Some'.weak (.takeEq (by first | rfl | simp [ncd]) (.takeEq (by first | rfl | simp [ncd]) (.takeEq (by first | rfl | simp [ncd]) (.take (.take (.nil _))))))))
          · have p74 := h74; try simp only [decide_eq_true_eq, decide_eq_false_iff_not, beq_iff_eq, bne_iff_ne, beq_eq_false_iff_ne, ne_eq, gt_iff_lt, ge_iff_le, Int.not_lt, Int.not_le, bne_eq_false_iff_eq, Bool.not_eq_true', Bool.not_eq_false', Bool.and_eq_true, Bool.and_eq_false_iff, Bool.or_eq_true, Bool.or_eq_false_iff, Decidable.not_not, List.cons.injEq, and_true] at p74
            have hkn : k = n * n := by omega
            obtain ⟨_, hq2, hlk2, ⟨t2, ht2⟩⟩ := hinv
            have hQ1 : nk zs2 = mQ n ms (i + 1) := by rw [hq2, hkn]; exact (bfs_succ hzx).symm
            refine Run.exit rfl ?_
            refine Run.blockEnd ?_
            refine Run.region ?_
            refine Run.q (v := .int .i64 (((i : Nat) : Int))) rfl (OpQ.y (OpY.pure rfl)) ?_
            refine Run.q (v := .int .i64 ((((i : Nat) : Int)) + 1)) rfl (OpQ.y (OpY.add rfl rfl rfl (by omega) (by omega))) ?_
            refine Run.q (v := .int .i64 ((((i : Nat) : Int)) + 1)) rfl (OpQ.y (OpY.pure rfl)) ?_
            refine Run.done ?_
            refine Run.goal ⟨(by repeat (first | exact Same.refl _ _ | refine Same.put rfl ?_ | refine Same.over rfl rfl ?_)), (i + 1, vl2, zs2), ?_, ?_, ?_, ?_⟩
            · refine ⟨hQ1, hlk2, fun j hj z hzj => ?_⟩
              by_cases hja : j = i
              · subst hja
                rw [ht2, List.getElem?_append_left hil, hz] at hzj
                cases hzj; exact hkne
              · rw [ht2, List.getElem?_append_left (by omega)] at hzj
                exact hnf j (by omega) z hzj
            · show 1000001 - (i + 1) < 1000001 - i; omega
            · exact ⟨(by first | rfl | (congr 1; omega) | simp), (by first | rfl | (congr 1; omega) | simp), trivial⟩
            · exact ((((((Weak.front [.own vl2 77 7 (zs2.length) (ncells zs2), .grp 3 1 (ngp n zs2), .own (.slice (some ⟨b4, 0, none⟩) N N) 4 1 N (bls (metL N (ncd zs2))), .blk b2 77 [.slice A_uI1 n c_uI1, .int .i64 (((apF ms n : Nat) : Int)), .int .i64 (-1), .int .i64 0, .int .i64 0, .int .i64 0, .int .i64 0]] (.blk b1 28 [.slice Av n cv]) []).trans (Weak.front [.blk b1 28 [.slice Av n cv], .own vl2 77 7 (zs2.length) (ncells zs2), .grp 3 1 (ngp n zs2), .own (.slice (some ⟨b4, 0, none⟩) N N) 4 1 N (bls (metL N (ncd zs2)))] (.blk b2 77 [.slice A_uI1 n c_uI1, .int .i64 (((apF ms n : Nat) : Int)), .int .i64 (-1), .int .i64 0, .int .i64 0, .int .i64 0, .int .i64 0]) [])).trans (Weak.front [.blk b2 77 [.slice A_uI1 n c_uI1, .int .i64 (((apF ms n : Nat) : Int)), .int .i64 (-1), .int .i64 0, .int .i64 0, .int .i64 0, .int .i64 0], .blk b1 28 [.slice Av n cv], .own vl2 77 7 (zs2.length) (ncells zs2), .grp 3 1 (ngp n zs2)] (.own (.slice (some ⟨b4, 0, none⟩) N N) 4 1 N (bls (metL N (ncd zs2)))) [])).trans (Weak.front [.own (.slice (some ⟨b4, 0, none⟩) N N) 4 1 N (bls (metL N (ncd zs2))), .blk b2 77 [.slice A_uI1 n c_uI1, .int .i64 (((apF ms n : Nat) : Int)), .int .i64 (-1), .int .i64 0, .int .i64 0, .int .i64 0, .int .i64 0], .blk b1 28 [.slice Av n cv], .own vl2 77 7 (zs2.length) (ncells zs2)] (.grp 3 1 (ngp n zs2)) [])).trans (Weak.front [.grp 3 1 (ngp n zs2), .own (.slice (some ⟨b4, 0, none⟩) N N) 4 1 N (bls (metL N (ncd zs2))), .blk b2 77 [.slice A_uI1 n c_uI1, .int .i64 (((apF ms n : Nat) : Int)), .int .i64 (-1), .int .i64 0, .int .i64 0, .int .i64 0, .int .i64 0], .blk b1 28 [.slice Av n cv]] (.own vl2 77 7 (zs2.length) (ncells zs2)) [])).trans (Some'.weak (.takeEq (by first | rfl | simp) (.takeEq (by first | rfl | simp) (.takeEq (by first | rfl | simp) (.take (.take (.nil _))))))))
    · have p44 := h44; try simp only [decide_eq_true_eq, decide_eq_false_iff_not, beq_iff_eq, bne_iff_ne, beq_eq_false_iff_ne, ne_eq, gt_iff_lt, ge_iff_le, Int.not_lt, Int.not_le, bne_eq_false_iff_eq, Bool.not_eq_true', Bool.not_eq_false', Bool.and_eq_true, Bool.and_eq_false_iff, Bool.or_eq_true, Bool.or_eq_false_iff, Decidable.not_not, List.cons.injEq, and_true] at p44
      exfalso
      obtain ⟨hzq, hlk, hnf⟩ := hinv
      have h1 := hfd i (by rw [← hzq, List.length_map]; omega)
      rw [← hzq] at h1
      obtain ⟨y, hy, hye⟩ := List.mem_map.1 h1
      obtain ⟨z, hzm, rfl⟩ := List.mem_map.1 hy
      obtain ⟨j, hj, hje⟩ := List.getElem_of_mem hzm
      exact hnf j (by omega) z (by rw [List.getElem?_eq_getElem hj, hje]) hye --DONE

set_option maxHeartbeats 1000000 in
set_option maxRecDepth 20000 in
theorem sLeastNetwork_spec {va vm : Value} {n mn : Nat} {xs ms : List Int} {w : World} (ha : Sl w va 1 n (ints xs)) (hms : Sl w vm 1 mn (ints ms)) : Calls Try.prog 14 #[.agg #[va], vm] w (Post No w fun v _ => v = .tuple #[.int .i64 ((nwG n xs ms).length : Nat), .bool (nwB n xs ms)]) := by
  have hxl := ha.len
  rw [Nat.mul_one] at hxl
  have hxl : xs.length = n := by simpa [ints] using hxl
  have hn := ha.le
  obtain ⟨Av, cv, rfl, hnc, _⟩ := ha.form0
  have hmn := hms.le
  obtain rfl : ms.length = mn := by have h := hms.len; simpa [ints] using h
  obtain ⟨Am, cm, rfl, hmc, _⟩ := hms.form0
  refine enter (n := 15) (args := [.agg #[.slice Av n cv], .slice Am (ms.length) cm]) Try.func14 rfl rfl (St.empty _ _) ?_
  refine Run.seq ?_
  refine Run.region ?_
  refine Run.step rfl (OpStep.box (us := [.slice Av n cv]) rfl fun b1 => ?_)
  refine Run.q (v := .int .i64 0) rfl (OpQ.y (OpY.pure rfl)) ?_
  refine Run.q (v := .bool false) rfl (OpQ.y (OpY.pure rfl)) ?_
  refine Run.done ?_
  refine Run.seq ?_
  refine Run.seq ?_
  refine Run.region ?_
  refine Run.q (v := .agg #[.slice Av n cv]) rfl (OpQ.y (OpY.loadN (cs := [.slice Av n cv]) Tagg_28 rfl (Cells.blk (.head _) ⟨rfl, trivial⟩))) ?_
  refine Run.q (v := .slice Am (ms.length) cm) rfl (OpQ.y (OpY.pure rfl)) ?_
  refine Run.q (v := .bool (nwB n xs ms)) rfl (OpQ.call (vs := [.agg #[.slice Av n cv], .slice Am (ms.length) cm]) (caps := []) Tcall_49 rfl rfl (fun w hs => l14Small_spec (hs.sl ha) (hs.sl hms))) ?_
  refine Run.q (v := .bool (!(nwB n xs ms))) rfl (OpQ.y (OpY.pure rfl)) ?_
  refine Run.done ?_
  refine Run.cond (b := !(nwB n xs ms)) rfl (fun h9 => ?_) (fun h9 => ?_)
  · have p9 := h9; try simp only [decide_eq_true_eq, decide_eq_false_iff_not, beq_iff_eq, bne_iff_ne, beq_eq_false_iff_ne, ne_eq, gt_iff_lt, ge_iff_le, Int.not_lt, Int.not_le, bne_eq_false_iff_eq, Bool.not_eq_true', Bool.not_eq_false', Bool.and_eq_true, Bool.and_eq_false_iff, Bool.or_eq_true, Bool.or_eq_false_iff, Decidable.not_not, List.cons.injEq, and_true] at p9
    have hbad : nwB n xs ms = false := by simpa using h9
    refine Run.seq ?_
    refine Run.region ?_
    refine Run.q (v := .int .i64 0) rfl (OpQ.y (OpY.pure rfl)) ?_
    refine Run.q (v := .bool false) rfl (OpQ.y (OpY.pure rfl)) ?_
    refine Run.done ?_
    refine Run.ret ?_
    refine ⟨.tuple #[.int .i64 0, .bool false], [], Out.two rfl rfl rfl, (Some'.weak (.nil _)), ?_⟩
    show _ = _; rw [(nw_bad hbad).1, hbad]; rfl
  · have p9 := h9; try simp only [decide_eq_true_eq, decide_eq_false_iff_not, beq_iff_eq, bne_iff_ne, beq_eq_false_iff_ne, ne_eq, gt_iff_lt, ge_iff_le, Int.not_lt, Int.not_le, bne_eq_false_iff_eq, Bool.not_eq_true', Bool.not_eq_false', Bool.and_eq_true, Bool.and_eq_false_iff, Bool.or_eq_true, Bool.or_eq_false_iff, Decidable.not_not, List.cons.injEq, and_true] at p9
    have hgood : nwB n xs ms = true := by simpa using h9
    have hxl2 : xs.length = n := hxl
    refine Run.skip ?_
    refine Run.seq ?_
    refine Run.region ?_
    refine Run.q (v := .agg #[.slice Av n cv]) rfl (OpQ.y (OpY.loadN (cs := [.slice Av n cv]) Tagg_28 rfl (Cells.blk (.head _) ⟨rfl, trivial⟩))) ?_
    refine Run.q (v := .slice Am (ms.length) cm) rfl (OpQ.y (OpY.pure rfl)) ?_
    refine Run.step rfl (OpStep.call (vs := [.agg #[.slice Av n cv], .slice Am (ms.length) cm]) (caps := []) Tcall_50 rfl rfl (fun w hs => l14Search_spec hxl hgood (hs.sl ha) (hs.sl hms)) ?_)
    rintro uq _ ⟨os, hos, rfl⟩
    show Run _ _ (putF _ _ _ uq) [.own uq 77 7 (os.length) (ncells os), .blk b1 28 [.slice Av n cv]]
    have hol : os.length = (nwG n xs ms).length + 1 := by have h := congrArg List.length hos; simpa using h
    have hlen := nw_le (ms := ms) hxl
    refine Run.formOwn (.head _) (fun A_uq1 c_uq1 hv hcapc_uq1 hmaxc_uq1 => ?_) (fun _ _ _ => ⟨nofun, nofun, nofun⟩)
    subst hv
    refine Run.q (v := .int .i64 (((os.length : Nat) : Int))) rfl (OpQ.y (OpY.len Tsl_67 rfl)) ?_
    refine Run.q (v := .int .i64 ((((nwG n xs ms).length : Nat) : Int))) rfl (OpQ.y (OpY.sub rfl rfl (by omega) (by omega) (by omega))) ?_
    refine Run.q (v := .int .i64 ((((nwG n xs ms).length : Nat) : Int))) rfl (OpQ.y (OpY.pure rfl)) ?_
    refine Run.q (v := .bool true) rfl (OpQ.y (OpY.pure rfl)) ?_
    refine Run.done ?_
    refine Run.ret ?_
    refine ⟨.tuple #[.int .i64 ((((nwG n xs ms).length : Nat) : Int)), .bool true], [], Out.two rfl rfl rfl, (Some'.weak (.nil _)), ?_⟩
    show _ = _; rw [hgood]

set_option maxHeartbeats 2000000 in
set_option maxRecDepth 20000 in
theorem sShortestNetwork_spec {va vm : Value} {n mn : Nat} {xs ms : List Int} {w : World} (ha : Sl w va 1 n (ints xs)) (hms : Sl w vm 1 mn (ints ms)) : Calls Try.prog 24 #[.agg #[va], vm] w (Post No w fun v H => ∃ u, v = .tuple #[.agg #[.int .i64 (nwN n xs ms), u], .bool (nwB n xs ms)] ∧ H = [.own u 71 3 (nwG n xs ms).length (ints (flCX (dcw n (nwG n xs ms))))]) := by
  have hxl := ha.len
  rw [Nat.mul_one] at hxl
  have hxl : xs.length = n := by simpa [ints] using hxl
  have hn := ha.le
  obtain ⟨Av, cv, rfl, hnc, _⟩ := ha.form0
  have hmn := hms.le
  obtain rfl : ms.length = mn := by have h := hms.len; simpa [ints] using h
  obtain ⟨Am, cm, rfl, hmc, _⟩ := hms.form0
  refine enter (n := 39) (args := [.agg #[.slice Av n cv], .slice Am (ms.length) cm]) Try.func24 rfl rfl (St.empty _ _) ?_
  refine Run.seq ?_
  refine Run.region ?_
  refine Run.step rfl (OpStep.box (us := [.slice Av n cv]) rfl fun b1 => ?_)
  refine Run.step rfl (OpStep.alloc (zs := [.int .i64 0, .slice none 0 0]) Tzero_38 fun b2 => ?_)
  refine Run.q (v := .bool false) rfl (OpQ.y (OpY.pure rfl)) ?_
  refine Run.done ?_
  refine Run.seq ?_
  refine Run.seq ?_
  refine Run.region ?_
  refine Run.q (v := .agg #[.slice Av n cv]) rfl (OpQ.y (OpY.loadN (cs := [.slice Av n cv]) Tagg_28 rfl (Cells.blk (.tail _ (List.Mem.head _)) ⟨rfl, trivial⟩))) ?_
  refine Run.q (v := .slice Am (ms.length) cm) rfl (OpQ.y (OpY.pure rfl)) ?_
  refine Run.q (v := .bool (nwB n xs ms)) rfl (OpQ.call (vs := [.agg #[.slice Av n cv], .slice Am (ms.length) cm]) (caps := []) Tcall_49 rfl rfl (fun w hs => l14Small_spec (hs.sl ha) (hs.sl hms))) ?_
  refine Run.q (v := .bool (!(nwB n xs ms))) rfl (OpQ.y (OpY.pure rfl)) ?_
  refine Run.done ?_
  refine Run.cond (b := !(nwB n xs ms)) rfl (fun h12 => ?_) (fun h12 => ?_)
  · have p12 := h12; try simp only [decide_eq_true_eq, decide_eq_false_iff_not, beq_iff_eq, bne_iff_ne, beq_eq_false_iff_ne, ne_eq, gt_iff_lt, ge_iff_le, Int.not_lt, Int.not_le, bne_eq_false_iff_eq, Bool.not_eq_true', Bool.not_eq_false', Bool.and_eq_true, Bool.and_eq_false_iff, Bool.or_eq_true, Bool.or_eq_false_iff, Decidable.not_not, List.cons.injEq, and_true] at p12
    have hbad : nwB n xs ms = false := by simpa using h12
    refine Run.seq ?_
    refine Run.region ?_
    refine Run.q (v := .agg #[.int .i64 0, .slice none 0 0]) rfl (OpQ.y (OpY.build (cs := [.int .i64 0, .slice none 0 0]) (by kernel_rfl))) ?_
    refine Run.step rfl (OpStep.storeAll (us := [.int .i64 0, .slice none 0 0]) Tsize_38 rfl rfl rfl (.here _) rfl ?_)
    refine Run.q (v := .bool false) rfl (OpQ.y (OpY.pure rfl)) ?_
    refine Run.done ?_
    refine Run.ret ?_
    refine ⟨.tuple #[.agg #[.int .i64 0, .slice none 0 0], .bool false], [.own (.slice none 0 0) 71 3 0 ([])], Out.cell2 (cs := [.int .i64 0, .slice none 0 0]) rfl Tagg_38 rfl (Cells.blk (.head _) ⟨rfl, rfl, trivial⟩) rfl, ((Weak.nilOwn 71 3).trans (Some'.weak (.take (.nil _)))), ?_⟩
    exact ⟨_, by rw [(nw_bad hbad).2, hbad], by rw [(nw_bad hbad).1]; rfl⟩
  · have p12 := h12; try simp only [decide_eq_true_eq, decide_eq_false_iff_not, beq_iff_eq, bne_iff_ne, beq_eq_false_iff_ne, ne_eq, gt_iff_lt, ge_iff_le, Int.not_lt, Int.not_le, bne_eq_false_iff_eq, Bool.not_eq_true', Bool.not_eq_false', Bool.and_eq_true, Bool.and_eq_false_iff, Bool.or_eq_true, Bool.or_eq_false_iff, Decidable.not_not, List.cons.injEq, and_true] at p12
    have hgood : nwB n xs ms = true := by simpa using h12
    obtain ⟨q0, hq0⟩ : ∃ q : Nat, q = (nwG n xs ms).length := ⟨_, rfl⟩
    refine Run.skip ?_
    refine Run.seq ?_
    refine Run.region ?_
    refine Run.q (v := .agg #[.slice Av n cv]) rfl (OpQ.y (OpY.loadN (cs := [.slice Av n cv]) Tagg_28 rfl (Cells.blk (.tail _ (List.Mem.head _)) ⟨rfl, trivial⟩))) ?_
    refine Run.q (v := .slice Am (ms.length) cm) rfl (OpQ.y (OpY.pure rfl)) ?_
    refine Run.step rfl (OpStep.call (vs := [.agg #[.slice Av n cv], .slice Am (ms.length) cm]) (caps := []) Tcall_50 rfl rfl (fun w hs => l14Search_spec hxl hgood (hs.sl ha) (hs.sl hms)) ?_)
    rintro uq _ ⟨os, hos, rfl⟩
    show Run _ _ (putF _ _ _ uq) [.own uq 77 7 (os.length) (ncells os), .blk b2 38 [.int .i64 0, .slice none 0 0], .blk b1 28 [.slice Av n cv]]
    have hol : os.length = (nwG n xs ms).length + 1 := by have h := congrArg List.length hos; simpa using h
    have hlen := nw_le (ms := ms) hxl
    refine Run.q (v := uq) rfl (OpQ.y (OpY.pure rfl)) ?_
    refine Run.done ?_
    refine Run.seq ?_
    refine Run.region ?_
    refine Run.q (v := .pointer (some ⟨b1, 0, none⟩)) rfl (OpQ.y (OpY.fieldAddr Tfo_28_0 rfl rfl)) ?_
    refine Run.q (v := .slice Av n cv) rfl (OpQ.y (OpY.load1 Tone_22 rfl (Cells.blk (.tail _ (.tail _ (List.Mem.head _))) ⟨rfl, trivial⟩))) ?_
    refine Run.q (v := .int .i64 (((n : Nat) : Int))) rfl (OpQ.y (OpY.len Tsl_22 rfl)) ?_
    refine Run.q (v := .agg #[.int .i64 (((n : Nat) : Int)), .slice none 0 0]) rfl (OpQ.y (OpY.build (cs := [.int .i64 (((n : Nat) : Int)), .slice none 0 0]) (by kernel_rfl))) ?_
    refine Run.step rfl (OpStep.alloc (zs := [.int .i64 0, .slice none 0 0]) Tzero_38 fun b3 => ?_)
    refine Run.step rfl (OpStep.storeAll (us := [.int .i64 (((n : Nat) : Int)), .slice none 0 0]) Tsize_38 rfl rfl rfl (.here _) rfl ?_)
    refine Run.done ?_
    refine Run.seq ?_
    refine Run.seq ?_
    refine Run.region ?_
    refine Run.q (v := uq) rfl (OpQ.y (OpY.pure rfl)) ?_
    refine Run.formOwn (.tail _ (List.Mem.head _)) (fun A_uq1 c_uq1 hv hcapc_uq1 hmaxc_uq1 => ?_) (fun _ _ _ => ⟨nofun, nofun, nofun⟩)
    subst hv
    refine Run.q (v := .int .i64 (((os.length : Nat) : Int))) rfl (OpQ.y (OpY.len Tsl_67 rfl)) ?_
    refine Run.q (v := .int .i64 ((((nwG n xs ms).length : Nat) : Int) - 1)) rfl (OpQ.y (OpY.sub rfl rfl (by omega) (by omega) (by omega))) ?_
    refine Run.q (v := .int .i64 ((((nwG n xs ms).length : Nat) : Int) - 1)) rfl (OpQ.y (OpY.pure rfl)) ?_
    refine Run.done ?_
    refine Run.block ?_
    refine Run.weak (H' := [.own (.slice none 0 0) 71 3 0 ([]), .blk b3 38 [.int .i64 (((n : Nat) : Int)), .slice none 0 0], .own (.slice A_uq1 (os.length) c_uq1) 77 7 (os.length) (ncells os), .blk b2 38 [.int .i64 0, .slice none 0 0], .blk b1 28 [.slice Av n cv]]) (Weak.nilOwn _ _) ?_ ⟨_, _, rfl, fun _ => nofun, fun _ => nofun⟩
    refine Run.loop (ι := Nat × Value) [8, 24, 25, 26, 27, 28, 29, 30, 31, 32, 33, 34, 35, 36, 37] (fun ⟨i, vg⟩ => [(8, .int .i64 (((i : Nat) : Int) - 1))]) (fun ⟨i, vg⟩ => [.own vg 71 3 ((nwG n xs ms).length - i) (ints (flCX (dcw n ((nwG n xs ms).take ((nwG n xs ms).length - i))))), .own (.slice A_uq1 (os.length) c_uq1) 77 7 (os.length) (ncells os), .blk b3 38 [.int .i64 (((n : Nat) : Int)), vg], .blk b2 38 [.int .i64 0, .slice none 0 0], .blk b1 28 [.slice Av n cv]]) (fun ⟨i, vg⟩ => i ≤ (nwG n xs ms).length) (fun ⟨i, vg⟩ => i) ((nwG n xs ms).length, .slice none 0 0) ?_ ?_ ?_ ?_
    · exact Nat.le_refl _
    · exact ⟨rfl, trivial⟩
    · exact ((((((Weak.front [.own (.slice none 0 0) 71 3 0 ([]), .blk b3 38 [.int .i64 (((n : Nat) : Int)), .slice none 0 0], .own (.slice A_uq1 (os.length) c_uq1) 77 7 (os.length) (ncells os), .blk b2 38 [.int .i64 0, .slice none 0 0]] (.blk b1 28 [.slice Av n cv]) []).trans (Weak.front [.blk b1 28 [.slice Av n cv], .own (.slice none 0 0) 71 3 0 ([]), .blk b3 38 [.int .i64 (((n : Nat) : Int)), .slice none 0 0], .own (.slice A_uq1 (os.length) c_uq1) 77 7 (os.length) (ncells os)] (.blk b2 38 [.int .i64 0, .slice none 0 0]) [])).trans (Weak.front [.blk b2 38 [.int .i64 0, .slice none 0 0], .blk b1 28 [.slice Av n cv], .own (.slice none 0 0) 71 3 0 ([])] (.blk b3 38 [.int .i64 (((n : Nat) : Int)), .slice none 0 0]) [.own (.slice A_uq1 (os.length) c_uq1) 77 7 (os.length) (ncells os)])).trans (Weak.front [.blk b3 38 [.int .i64 (((n : Nat) : Int)), .slice none 0 0], .blk b2 38 [.int .i64 0, .slice none 0 0], .blk b1 28 [.slice Av n cv], .own (.slice none 0 0) 71 3 0 ([])] (.own (.slice A_uq1 (os.length) c_uq1) 77 7 (os.length) (ncells os)) [])).trans (Weak.front [.own (.slice A_uq1 (os.length) c_uq1) 77 7 (os.length) (ncells os), .blk b3 38 [.int .i64 (((n : Nat) : Int)), .slice none 0 0], .blk b2 38 [.int .i64 0, .slice none 0 0], .blk b1 28 [.slice Av n cv]] (.own (.slice none 0 0) 71 3 0 ([])) [])).trans (Some'.weak (.takeEq (by first | rfl | (rw [Nat.sub_self, List.take_zero]; rfl) | simp) (.take (.takeEq (by first | rfl | (rw [Nat.sub_self, List.take_zero]; rfl) | simp) (.take (.take (.nil _))))))))
    · rintro ⟨i, vg⟩ fr hinv
      show Run _ _ (over _ _ [(8, .int .i64 (((i : Nat) : Int) - 1))] fr) [.own vg 71 3 ((nwG n xs ms).length - i) (ints (flCX (dcw n ((nwG n xs ms).take ((nwG n xs ms).length - i))))), .own (.slice A_uq1 (os.length) c_uq1) 77 7 (os.length) (ncells os), .blk b3 38 [.int .i64 (((n : Nat) : Int)), vg], .blk b2 38 [.int .i64 0, .slice none 0 0], .blk b1 28 [.slice Av n cv]]
      try dsimp only at hinv
      refine Run.seq ?_
      refine Run.seq ?_
      refine Run.region ?_
      refine Run.q (v := .int .i64 (((i : Nat) : Int) - 1)) rfl (OpQ.y (OpY.pure rfl)) ?_
      refine Run.q (v := .bool (decide ((((i : Nat) : Int) - 1) ≥ 0))) rfl (OpQ.y (OpY.pure rfl)) ?_
      refine Run.done ?_
      refine Run.cond (b := decide ((((i : Nat) : Int) - 1) ≥ 0)) rfl (fun h25 => ?_) (fun h25 => ?_)
      · have p25 := h25; try simp only [decide_eq_true_eq, decide_eq_false_iff_not, beq_iff_eq, bne_iff_ne, beq_eq_false_iff_ne, ne_eq, gt_iff_lt, ge_iff_le, Int.not_lt, Int.not_le, bne_eq_false_iff_eq, Bool.not_eq_true', Bool.not_eq_false', Bool.and_eq_true, Bool.and_eq_false_iff, Bool.or_eq_true, Bool.or_eq_false_iff, Decidable.not_not, List.cons.injEq, and_true] at p25
        have hi0 : 0 < i := by omega
        obtain ⟨e, he⟩ : ∃ e, (nwG n xs ms)[(nwG n xs ms).length - i]? = some e := ⟨_, List.getElem?_eq_getElem (by omega)⟩
        obtain ⟨z, hoz⟩ : ∃ z, os[i - 1]? = some z := ⟨_, List.getElem?_eq_getElem (by omega)⟩
        have hzg : z.2.2.2 = gt3 n e := by
          have h1 : (os.map (fun z => z.2.2.2))[i - 1]? = some z.2.2.2 := by rw [List.getElem?_map, hoz]; rfl
          rw [hos, List.getElem?_append_left (by simp; omega), List.getElem?_map, List.getElem?_reverse (by omega), show (nwG n xs ms).length - 1 - (i - 1) = (nwG n xs ms).length - i by omega, he] at h1
          exact (Option.some.inj h1).symm
        have hgc : ((ncell z).drop 3).take 3 = [.int .i64 9, .int .i64 ((e / n : Nat) : Int), .int .i64 ((e % n : Nat) : Int)] := by
          show [Value.int .i64 z.2.2.2.1, .int .i64 z.2.2.2.2.1, .int .i64 z.2.2.2.2.2] = _
          rw [hzg]; rfl
        have htk : (nwG n xs ms).take ((nwG n xs ms).length - (i - 1)) = (nwG n xs ms).take ((nwG n xs ms).length - i) ++ [e] := by
          rw [show (nwG n xs ms).length - (i - 1) = (nwG n xs ms).length - i + 1 by omega, List.take_add_one, he]; rfl
        have hgx : ints (flCX (dcw n ((nwG n xs ms).take ((nwG n xs ms).length - i)))) ++ [.int .i64 9, .int .i64 ((e / n : Nat) : Int), .int .i64 ((e % n : Nat) : Int)] = ints (flCX (dcw n ((nwG n xs ms).take ((nwG n xs ms).length - (i - 1))))) := by rw [ints_flCX, htk]; simp only [dcw, List.map_append, List.map_cons, List.map_nil]
        refine Run.skip ?_
        refine Run.seq ?_
        refine Run.block ?_
        refine Run.openOwn (.tail _ (List.Mem.head _)) (by omega) (fun go co hvgo hcapgo _ => ?_) (fun _ _ _ => ⟨nofun, nofun, nofun⟩)
        injection hvgo with hAgo _ hcgo; subst hAgo; subst hcgo
        refine Run.heldB (base := [.own (.slice (some ⟨go, 0, none⟩) (os.length) c_uq1) 77 7 (os.length) (ncells os), .blk b2 38 [.int .i64 0, .slice none 0 0], .blk b1 28 [.slice Av n cv]]) (by kernel_rfl) ?_
        refine DW.take (i := 0) (v := .pointer (some ⟨b3, 1, none⟩)) rfl (by kernel_rfl) (by kernel_rfl) (by kernel_rfl) (fun _ _ _ h => h) (Some'.weak (.skip (.take (.skip (.take (.take (.nil _))))))) rfl (OpY.fieldAddr Tfo_38_1 rfl rfl) ?_
        refine DW.take (i := 2) (v := .slice (some ⟨go, 0, none⟩) (os.length) c_uq1) rfl (by kernel_rfl) (by kernel_rfl) (by kernel_rfl) (fun _ _ _ h => h) (Some'.weak (.skip (.take (.skip (.take (.take (.nil _))))))) rfl (OpY.pure rfl) ?_
        refine DW.take (i := 3) (v := .int .i64 (((i : Nat) : Int) - 1)) rfl (by kernel_rfl) (by kernel_rfl) (by kernel_rfl) (fun _ _ _ h => h) (Some'.weak (.skip (.take (.skip (.take (.take (.nil _))))))) rfl (OpY.pure rfl) ?_
        refine DW.take (i := 4) (v := .pointer (some ⟨go, ((i - 1)) * 7, none⟩)) rfl (by kernel_rfl) (by kernel_rfl) (by kernel_rfl) (fun _ _ _ h => h) (Some'.weak (.skip (.take (.skip (.take (.take (.nil _))))))) rfl (OpY.index (kk := (i - 1)) Tsl_67 rfl rfl (by omega) (by omega) (by first | rfl | omega)) ?_
        refine DW.take (i := 5) (v := .pointer (some ⟨go, ((i - 1)) * 7 + 3, none⟩)) rfl (by kernel_rfl) (by kernel_rfl) (by kernel_rfl) (fun _ _ _ h => h) (Some'.weak (.skip (.take (.skip (.take (.take (.nil _))))))) rfl (OpY.fieldAddr Tfo_77_3 rfl rfl) ?_
        refine DW.take (i := 6) (v := .agg #[.int .i64 9, .int .i64 (((e / n : Nat) : Int)), .int .i64 (((e % n : Nat) : Int))]) rfl (by kernel_rfl) (by kernel_rfl) (by kernel_rfl) (fun _ _ _ h => h) (Some'.weak (.skip (.take (.skip (.take (.take (.nil _))))))) rfl (OpY.loadN (cs := [.int .i64 9, .int .i64 (((e / n : Nat) : Int)), .int .i64 (((e % n : Nat) : Int))]) Tagg_71 rfl (Cells.own0 (.head _) (preN_sub (o := 3) (preN hoz) hgc))) ?_
        refine DW.two (i := 1) (j := 7) (by kernel_rfl) rfl rfl rfl rfl ?_ ?_
        · refine OpStep.q (v := vg) (OpQ.y (OpY.load1 Tone_36 rfl (Cells.blk (.tail _ (.tail _ (List.Mem.head _))) ⟨rfl, trivial⟩))) ?_
          refine ⟨(Some'.weak (.skip (.take (.skip (.take (.take (.nil _))))))), ?_⟩
          refine DW.step (i := 7) (by kernel_rfl) rfl rfl (OpStep.buildSlice (us := [.int .i64 9, .int .i64 (((e / n : Nat) : Int)), .int .i64 (((e % n : Nat) : Int))]) Tsl_36 (by decide) (by decide) ⟨rfl, [.int .i64 9, .int .i64 (((e / n : Nat) : Int)), .int .i64 (((e % n : Nat) : Int))], _, rfl, rfl, rfl, rfl⟩ rfl fun b4 => ?_)
          refine ⟨(Some'.weak (.skip (.skip (.take (.skip (.take (.take (.nil _)))))))), ?_⟩
          refine DW.step (i := 8) (by kernel_rfl) rfl rfl (OpStep.append (H1 := [.own (.slice (some ⟨b4, 0, none⟩) 1 1) 71 3 1 ([.int .i64 9, .int .i64 (((e / n : Nat) : Int)), .int .i64 (((e % n : Nat) : Int))])]) (H2 := [.own (.slice (some ⟨go, 0, none⟩) (os.length) c_uq1) 77 7 (os.length) (ncells os), .blk b3 38 [.int .i64 (((n : Nat) : Int)), vg], .blk b2 38 [.int .i64 0, .slice none 0 0], .blk b1 28 [.slice Av n cv]]) (v := vg) (u := .slice (some ⟨b4, 0, none⟩) 1 1) (n := (nwG n xs ms).length - i) (m := 1) (xs := ints (flCX (dcw n ((nwG n xs ms).take ((nwG n xs ms).length - i))))) (ys := [.int .i64 9, .int .i64 (((e / n : Nat) : Int)), .int .i64 (((e % n : Nat) : Int))]) Tsl_36 (by decide) rfl rfl rfl rfl (fun w hs => hs.slOwn (.head _)) (by simp [Value.oneCell']) (by omega) (by simp only [maxLen]; omega) fun av1 hnav1 => ?_)
          refine DW.weakS (H' := [.own (.slice (some ⟨b4, 0, none⟩) 1 1) 71 3 1 ([.int .i64 9, .int .i64 (((e / n : Nat) : Int)), .int .i64 (((e % n : Nat) : Int))]), .own av1 71 3 ((nwG n xs ms).length - (i - 1)) (ints (flCX (dcw n ((nwG n xs ms).take ((nwG n xs ms).length - (i - 1)))))), .own (.slice (some ⟨go, 0, none⟩) (os.length) c_uq1) 77 7 (os.length) (ncells os), .blk b3 38 [.int .i64 (((n : Nat) : Int)), vg], .blk b2 38 [.int .i64 0, .slice none 0 0], .blk b1 28 [.slice Av n cv]]) (Some'.weak (.take (.takeEq (by rw [← hgx, show (nwG n xs ms).length - i + 1 = (nwG n xs ms).length - (i - 1) by omega]) (.take (.take (.take (.take (.nil _)))))))) ?_
          refine ⟨(Some'.weak (.skip (.skip (.take (.skip (.take (.take (.nil _)))))))), ?_⟩
          refine DW.take (i := 9) (v := .pointer (some ⟨b3, 1, none⟩)) rfl (by kernel_rfl) (by kernel_rfl) (by kernel_rfl) (fun _ _ _ h => h) (Some'.weak (.skip (.skip (.take (.skip (.take (.take (.nil _)))))))) rfl (OpY.fieldAddr Tfo_38_1 rfl rfl) ?_
          refine DW.formOwn (.tail _ (List.Mem.head _)) (fun A_av11 c_av11 hv hcapc_av11 hmaxc_av11 => ?_)
          subst hv
          refine DW.step (i := 10) (by kernel_rfl) rfl rfl (OpStep.store (us := [.slice A_av11 ((nwG n xs ms).length - (i - 1)) c_av11]) Tsize_36 rfl rfl rfl (.there _ (.there _ (.there _ (.here _)))) (by simp only [List.length_cons, List.length_nil]; omega) ?_)
          show Weak [.own (.slice (some ⟨b4, 0, none⟩) 1 1) 71 3 1 ([.int .i64 9, .int .i64 (((e / n : Nat) : Int)), .int .i64 (((e % n : Nat) : Int))]), .own (.slice A_av11 ((nwG n xs ms).length - (i - 1)) c_av11) 71 3 ((nwG n xs ms).length - (i - 1)) (ints (flCX (dcw n ((nwG n xs ms).take ((nwG n xs ms).length - (i - 1)))))), .own (.slice (some ⟨go, 0, none⟩) (os.length) c_uq1) 77 7 (os.length) (ncells os), .blk b3 38 [.int .i64 (((n : Nat) : Int)), .slice A_av11 ((nwG n xs ms).length - (i - 1)) c_av11], .blk b2 38 [.int .i64 0, .slice none 0 0], .blk b1 28 [.slice Av n cv]] _ ∧ DW _ _ _ _ _ _ _ [.own (.slice (some ⟨b4, 0, none⟩) 1 1) 71 3 1 ([.int .i64 9, .int .i64 (((e / n : Nat) : Int)), .int .i64 (((e % n : Nat) : Int))]), .own (.slice A_av11 ((nwG n xs ms).length - (i - 1)) c_av11) 71 3 ((nwG n xs ms).length - (i - 1)) (ints (flCX (dcw n ((nwG n xs ms).take ((nwG n xs ms).length - (i - 1)))))), .own (.slice (some ⟨go, 0, none⟩) (os.length) c_uq1) 77 7 (os.length) (ncells os), .blk b3 38 [.int .i64 (((n : Nat) : Int)), .slice A_av11 ((nwG n xs ms).length - (i - 1)) c_av11], .blk b2 38 [.int .i64 0, .slice none 0 0], .blk b1 28 [.slice Av n cv]]
          refine ⟨(Some'.weak (.skip (.skip (.take (.skip (.take (.take (.nil _)))))))), ?_⟩
          refine DW.done (by kernel_rfl) ?_
          refine Run.blockEnd ?_
          refine Run.region ?_
          refine Run.q (v := .int .i64 (((i : Nat) : Int) - 1)) rfl (OpQ.y (OpY.pure rfl)) ?_
          refine Run.q (v := .int .i64 (((i - 1 : Nat) : Int) - 1)) rfl (OpQ.y (OpY.sub rfl rfl (by omega) (by omega) (by omega))) ?_
          refine Run.q (v := .int .i64 (((i - 1 : Nat) : Int) - 1)) rfl (OpQ.y (OpY.pure rfl)) ?_
          refine Run.done ?_
          refine Run.goal ⟨(by repeat (first | exact Same.refl _ _ | refine Same.put rfl ?_ | refine Same.over rfl rfl ?_)), (i - 1, .slice A_av11 ((nwG n xs ms).length - (i - 1)) c_av11), ?_, ?_, ?_, ?_⟩
          · show i - 1 ≤ _; omega
          · show i - 1 < i; omega
          · exact ⟨(by first | rfl | (congr 1; omega) | simp), trivial⟩
          · exact ((((((Weak.front [.own (.slice (some ⟨b4, 0, none⟩) 1 1) 71 3 1 ([.int .i64 9, .int .i64 (((e / n : Nat) : Int)), .int .i64 (((e % n : Nat) : Int))]), .own (.slice A_av11 ((nwG n xs ms).length - (i - 1)) c_av11) 71 3 ((nwG n xs ms).length - (i - 1)) (ints (flCX (dcw n ((nwG n xs ms).take ((nwG n xs ms).length - (i - 1)))))), .own (.slice (some ⟨go, 0, none⟩) (os.length) c_uq1) 77 7 (os.length) (ncells os), .blk b3 38 [.int .i64 (((n : Nat) : Int)), .slice A_av11 ((nwG n xs ms).length - (i - 1)) c_av11], .blk b2 38 [.int .i64 0, .slice none 0 0]] (.blk b1 28 [.slice Av n cv]) []).trans (Weak.front [.blk b1 28 [.slice Av n cv], .own (.slice (some ⟨b4, 0, none⟩) 1 1) 71 3 1 ([.int .i64 9, .int .i64 (((e / n : Nat) : Int)), .int .i64 (((e % n : Nat) : Int))]), .own (.slice A_av11 ((nwG n xs ms).length - (i - 1)) c_av11) 71 3 ((nwG n xs ms).length - (i - 1)) (ints (flCX (dcw n ((nwG n xs ms).take ((nwG n xs ms).length - (i - 1)))))), .own (.slice (some ⟨go, 0, none⟩) (os.length) c_uq1) 77 7 (os.length) (ncells os), .blk b3 38 [.int .i64 (((n : Nat) : Int)), .slice A_av11 ((nwG n xs ms).length - (i - 1)) c_av11]] (.blk b2 38 [.int .i64 0, .slice none 0 0]) [])).trans (Weak.front [.blk b2 38 [.int .i64 0, .slice none 0 0], .blk b1 28 [.slice Av n cv], .own (.slice (some ⟨b4, 0, none⟩) 1 1) 71 3 1 ([.int .i64 9, .int .i64 (((e / n : Nat) : Int)), .int .i64 (((e % n : Nat) : Int))]), .own (.slice A_av11 ((nwG n xs ms).length - (i - 1)) c_av11) 71 3 ((nwG n xs ms).length - (i - 1)) (ints (flCX (dcw n ((nwG n xs ms).take ((nwG n xs ms).length - (i - 1)))))), .own (.slice (some ⟨go, 0, none⟩) (os.length) c_uq1) 77 7 (os.length) (ncells os)] (.blk b3 38 [.int .i64 (((n : Nat) : Int)), .slice A_av11 ((nwG n xs ms).length - (i - 1)) c_av11]) [])).trans (Weak.front [.blk b3 38 [.int .i64 (((n : Nat) : Int)), .slice A_av11 ((nwG n xs ms).length - (i - 1)) c_av11], .blk b2 38 [.int .i64 0, .slice none 0 0], .blk b1 28 [.slice Av n cv], .own (.slice (some ⟨b4, 0, none⟩) 1 1) 71 3 1 ([.int .i64 9, .int .i64 (((e / n : Nat) : Int)), .int .i64 (((e % n : Nat) : Int))]), .own (.slice A_av11 ((nwG n xs ms).length - (i - 1)) c_av11) 71 3 ((nwG n xs ms).length - (i - 1)) (ints (flCX (dcw n ((nwG n xs ms).take ((nwG n xs ms).length - (i - 1))))))] (.own (.slice (some ⟨go, 0, none⟩) (os.length) c_uq1) 77 7 (os.length) (ncells os)) [])).trans (Weak.front [.own (.slice (some ⟨go, 0, none⟩) (os.length) c_uq1) 77 7 (os.length) (ncells os), .blk b3 38 [.int .i64 (((n : Nat) : Int)), .slice A_av11 ((nwG n xs ms).length - (i - 1)) c_av11], .blk b2 38 [.int .i64 0, .slice none 0 0], .blk b1 28 [.slice Av n cv], .own (.slice (some ⟨b4, 0, none⟩) 1 1) 71 3 1 ([.int .i64 9, .int .i64 (((e / n : Nat) : Int)), .int .i64 (((e % n : Nat) : Int))])] (.own (.slice A_av11 ((nwG n xs ms).length - (i - 1)) c_av11) 71 3 ((nwG n xs ms).length - (i - 1)) (ints (flCX (dcw n ((nwG n xs ms).take ((nwG n xs ms).length - (i - 1))))))) [])).trans (Some'.weak (.takeEq (by first | rfl | (rw [Nat.sub_self, List.take_zero]; rfl) | simp) (.takeEq (by first | rfl | (rw [Nat.sub_self, List.take_zero]; rfl) | simp) (.takeEq (by first | rfl | (rw [Nat.sub_self, List.take_zero]; rfl) | simp) (.take (.take (.nil _))))))))
        · refine OpStep.buildSlice (us := [.int .i64 9, .int .i64 (((e / n : Nat) : Int)), .int .i64 (((e % n : Nat) : Int))]) Tsl_36 (by decide) (by decide) ⟨rfl, [.int .i64 9, .int .i64 (((e / n : Nat) : Int)), .int .i64 (((e % n : Nat) : Int))], _, rfl, rfl, rfl, rfl⟩ rfl fun b5 => ?_
          refine ⟨(Some'.weak (.skip (.skip (.take (.skip (.take (.take (.nil _)))))))), ?_⟩
          refine DW.step (i := 1) (by kernel_rfl) rfl rfl (OpStep.q (v := vg) (OpQ.y (OpY.load1 Tone_36 rfl (Cells.blk (.tail _ (.tail _ (.tail _ (List.Mem.head _)))) ⟨rfl, trivial⟩))) ?_)
          refine ⟨(Some'.weak (.skip (.skip (.take (.skip (.take (.take (.nil _)))))))), ?_⟩
          refine DW.step (i := 8) (by kernel_rfl) rfl rfl (OpStep.append (H1 := [.own (.slice (some ⟨b5, 0, none⟩) 1 1) 71 3 1 ([.int .i64 9, .int .i64 (((e / n : Nat) : Int)), .int .i64 (((e % n : Nat) : Int))])]) (H2 := [.own (.slice (some ⟨go, 0, none⟩) (os.length) c_uq1) 77 7 (os.length) (ncells os), .blk b3 38 [.int .i64 (((n : Nat) : Int)), vg], .blk b2 38 [.int .i64 0, .slice none 0 0], .blk b1 28 [.slice Av n cv]]) (v := vg) (u := .slice (some ⟨b5, 0, none⟩) 1 1) (n := (nwG n xs ms).length - i) (m := 1) (xs := ints (flCX (dcw n ((nwG n xs ms).take ((nwG n xs ms).length - i))))) (ys := [.int .i64 9, .int .i64 (((e / n : Nat) : Int)), .int .i64 (((e % n : Nat) : Int))]) Tsl_36 (by decide) rfl rfl rfl rfl (fun w hs => hs.slOwn (.head _)) (by simp [Value.oneCell']) (by omega) (by simp only [maxLen]; omega) fun av2 hnav2 => ?_)
          refine DW.weakS (H' := [.own (.slice (some ⟨b5, 0, none⟩) 1 1) 71 3 1 ([.int .i64 9, .int .i64 (((e / n : Nat) : Int)), .int .i64 (((e % n : Nat) : Int))]), .own av2 71 3 ((nwG n xs ms).length - (i - 1)) (ints (flCX (dcw n ((nwG n xs ms).take ((nwG n xs ms).length - (i - 1)))))), .own (.slice (some ⟨go, 0, none⟩) (os.length) c_uq1) 77 7 (os.length) (ncells os), .blk b3 38 [.int .i64 (((n : Nat) : Int)), vg], .blk b2 38 [.int .i64 0, .slice none 0 0], .blk b1 28 [.slice Av n cv]]) (Some'.weak (.take (.takeEq (by rw [← hgx, show (nwG n xs ms).length - i + 1 = (nwG n xs ms).length - (i - 1) by omega]) (.take (.take (.take (.take (.nil _)))))))) ?_
          refine ⟨(Some'.weak (.skip (.skip (.take (.skip (.take (.take (.nil _)))))))), ?_⟩
          refine DW.take (i := 9) (v := .pointer (some ⟨b3, 1, none⟩)) rfl (by kernel_rfl) (by kernel_rfl) (by kernel_rfl) (fun _ _ _ h => h) (Some'.weak (.skip (.skip (.take (.skip (.take (.take (.nil _)))))))) rfl (OpY.fieldAddr Tfo_38_1 rfl rfl) ?_
          refine DW.formOwn (.tail _ (List.Mem.head _)) (fun A_av21 c_av21 hv hcapc_av21 hmaxc_av21 => ?_)
          subst hv
          refine DW.step (i := 10) (by kernel_rfl) rfl rfl (OpStep.store (us := [.slice A_av21 ((nwG n xs ms).length - (i - 1)) c_av21]) Tsize_36 rfl rfl rfl (.there _ (.there _ (.there _ (.here _)))) (by simp only [List.length_cons, List.length_nil]; omega) ?_)
          show Weak [.own (.slice (some ⟨b5, 0, none⟩) 1 1) 71 3 1 ([.int .i64 9, .int .i64 (((e / n : Nat) : Int)), .int .i64 (((e % n : Nat) : Int))]), .own (.slice A_av21 ((nwG n xs ms).length - (i - 1)) c_av21) 71 3 ((nwG n xs ms).length - (i - 1)) (ints (flCX (dcw n ((nwG n xs ms).take ((nwG n xs ms).length - (i - 1)))))), .own (.slice (some ⟨go, 0, none⟩) (os.length) c_uq1) 77 7 (os.length) (ncells os), .blk b3 38 [.int .i64 (((n : Nat) : Int)), .slice A_av21 ((nwG n xs ms).length - (i - 1)) c_av21], .blk b2 38 [.int .i64 0, .slice none 0 0], .blk b1 28 [.slice Av n cv]] _ ∧ DW _ _ _ _ _ _ _ [.own (.slice (some ⟨b5, 0, none⟩) 1 1) 71 3 1 ([.int .i64 9, .int .i64 (((e / n : Nat) : Int)), .int .i64 (((e % n : Nat) : Int))]), .own (.slice A_av21 ((nwG n xs ms).length - (i - 1)) c_av21) 71 3 ((nwG n xs ms).length - (i - 1)) (ints (flCX (dcw n ((nwG n xs ms).take ((nwG n xs ms).length - (i - 1)))))), .own (.slice (some ⟨go, 0, none⟩) (os.length) c_uq1) 77 7 (os.length) (ncells os), .blk b3 38 [.int .i64 (((n : Nat) : Int)), .slice A_av21 ((nwG n xs ms).length - (i - 1)) c_av21], .blk b2 38 [.int .i64 0, .slice none 0 0], .blk b1 28 [.slice Av n cv]]
          refine ⟨(Some'.weak (.skip (.skip (.take (.skip (.take (.take (.nil _)))))))), ?_⟩
          refine DW.done (by kernel_rfl) ?_
          refine Run.blockEnd ?_
          refine Run.region ?_
          refine Run.q (v := .int .i64 (((i : Nat) : Int) - 1)) rfl (OpQ.y (OpY.pure rfl)) ?_
          refine Run.q (v := .int .i64 (((i - 1 : Nat) : Int) - 1)) rfl (OpQ.y (OpY.sub rfl rfl (by omega) (by omega) (by omega))) ?_
          refine Run.q (v := .int .i64 (((i - 1 : Nat) : Int) - 1)) rfl (OpQ.y (OpY.pure rfl)) ?_
          refine Run.done ?_
          refine Run.goal ⟨(by repeat (first | exact Same.refl _ _ | refine Same.put rfl ?_ | refine Same.over rfl rfl ?_)), (i - 1, .slice A_av21 ((nwG n xs ms).length - (i - 1)) c_av21), ?_, ?_, ?_, ?_⟩
          · show i - 1 ≤ _; omega
          · show i - 1 < i; omega
          · exact ⟨(by first | rfl | (congr 1; omega) | simp), trivial⟩
          · exact ((((((Weak.front [.own (.slice (some ⟨b5, 0, none⟩) 1 1) 71 3 1 ([.int .i64 9, .int .i64 (((e / n : Nat) : Int)), .int .i64 (((e % n : Nat) : Int))]), .own (.slice A_av21 ((nwG n xs ms).length - (i - 1)) c_av21) 71 3 ((nwG n xs ms).length - (i - 1)) (ints (flCX (dcw n ((nwG n xs ms).take ((nwG n xs ms).length - (i - 1)))))), .own (.slice (some ⟨go, 0, none⟩) (os.length) c_uq1) 77 7 (os.length) (ncells os), .blk b3 38 [.int .i64 (((n : Nat) : Int)), .slice A_av21 ((nwG n xs ms).length - (i - 1)) c_av21], .blk b2 38 [.int .i64 0, .slice none 0 0]] (.blk b1 28 [.slice Av n cv]) []).trans (Weak.front [.blk b1 28 [.slice Av n cv], .own (.slice (some ⟨b5, 0, none⟩) 1 1) 71 3 1 ([.int .i64 9, .int .i64 (((e / n : Nat) : Int)), .int .i64 (((e % n : Nat) : Int))]), .own (.slice A_av21 ((nwG n xs ms).length - (i - 1)) c_av21) 71 3 ((nwG n xs ms).length - (i - 1)) (ints (flCX (dcw n ((nwG n xs ms).take ((nwG n xs ms).length - (i - 1)))))), .own (.slice (some ⟨go, 0, none⟩) (os.length) c_uq1) 77 7 (os.length) (ncells os), .blk b3 38 [.int .i64 (((n : Nat) : Int)), .slice A_av21 ((nwG n xs ms).length - (i - 1)) c_av21]] (.blk b2 38 [.int .i64 0, .slice none 0 0]) [])).trans (Weak.front [.blk b2 38 [.int .i64 0, .slice none 0 0], .blk b1 28 [.slice Av n cv], .own (.slice (some ⟨b5, 0, none⟩) 1 1) 71 3 1 ([.int .i64 9, .int .i64 (((e / n : Nat) : Int)), .int .i64 (((e % n : Nat) : Int))]), .own (.slice A_av21 ((nwG n xs ms).length - (i - 1)) c_av21) 71 3 ((nwG n xs ms).length - (i - 1)) (ints (flCX (dcw n ((nwG n xs ms).take ((nwG n xs ms).length - (i - 1)))))), .own (.slice (some ⟨go, 0, none⟩) (os.length) c_uq1) 77 7 (os.length) (ncells os)] (.blk b3 38 [.int .i64 (((n : Nat) : Int)), .slice A_av21 ((nwG n xs ms).length - (i - 1)) c_av21]) [])).trans (Weak.front [.blk b3 38 [.int .i64 (((n : Nat) : Int)), .slice A_av21 ((nwG n xs ms).length - (i - 1)) c_av21], .blk b2 38 [.int .i64 0, .slice none 0 0], .blk b1 28 [.slice Av n cv], .own (.slice (some ⟨b5, 0, none⟩) 1 1) 71 3 1 ([.int .i64 9, .int .i64 (((e / n : Nat) : Int)), .int .i64 (((e % n : Nat) : Int))]), .own (.slice A_av21 ((nwG n xs ms).length - (i - 1)) c_av21) 71 3 ((nwG n xs ms).length - (i - 1)) (ints (flCX (dcw n ((nwG n xs ms).take ((nwG n xs ms).length - (i - 1))))))] (.own (.slice (some ⟨go, 0, none⟩) (os.length) c_uq1) 77 7 (os.length) (ncells os)) [])).trans (Weak.front [.own (.slice (some ⟨go, 0, none⟩) (os.length) c_uq1) 77 7 (os.length) (ncells os), .blk b3 38 [.int .i64 (((n : Nat) : Int)), .slice A_av21 ((nwG n xs ms).length - (i - 1)) c_av21], .blk b2 38 [.int .i64 0, .slice none 0 0], .blk b1 28 [.slice Av n cv], .own (.slice (some ⟨b5, 0, none⟩) 1 1) 71 3 1 ([.int .i64 9, .int .i64 (((e / n : Nat) : Int)), .int .i64 (((e % n : Nat) : Int))])] (.own (.slice A_av21 ((nwG n xs ms).length - (i - 1)) c_av21) 71 3 ((nwG n xs ms).length - (i - 1)) (ints (flCX (dcw n ((nwG n xs ms).take ((nwG n xs ms).length - (i - 1))))))) [])).trans (Some'.weak (.takeEq (by first | rfl | (rw [Nat.sub_self, List.take_zero]; rfl) | simp) (.takeEq (by first | rfl | (rw [Nat.sub_self, List.take_zero]; rfl) | simp) (.takeEq (by first | rfl | (rw [Nat.sub_self, List.take_zero]; rfl) | simp) (.take (.take (.nil _))))))))
      · have p25 := h25; try simp only [decide_eq_true_eq, decide_eq_false_iff_not, beq_iff_eq, bne_iff_ne, beq_eq_false_iff_ne, ne_eq, gt_iff_lt, ge_iff_le, Int.not_lt, Int.not_le, bne_eq_false_iff_eq, Bool.not_eq_true', Bool.not_eq_false', Bool.and_eq_true, Bool.and_eq_false_iff, Bool.or_eq_true, Bool.or_eq_false_iff, Decidable.not_not, List.cons.injEq, and_true] at p25
        have hi0 : i = 0 := by omega
        refine Run.exit rfl ?_
        refine Run.seq ?_
        refine Run.region ?_
        refine Run.q (v := .agg #[.int .i64 (((n : Nat) : Int)), vg]) rfl (OpQ.y (OpY.loadN (cs := [.int .i64 (((n : Nat) : Int)), vg]) Tagg_38 rfl (Cells.blk (.tail _ (.tail _ (List.Mem.head _))) ⟨rfl, rfl, trivial⟩))) ?_
        refine Run.formOwn (.head _) (fun A_vg1 c_vg1 hv hcapc_vg1 hmaxc_vg1 => ?_) (fun _ _ _ => ⟨nofun, nofun, nofun⟩)
        subst hv
        refine Run.step rfl (OpStep.storeAll (us := [.int .i64 (((n : Nat) : Int)), .slice A_vg1 ((nwG n xs ms).length - i) c_vg1]) Tsize_38 rfl rfl rfl (.there _ (.there _ (.there _ (.here _)))) rfl ?_)
        refine Run.q (v := .bool true) rfl (OpQ.y (OpY.pure rfl)) ?_
        refine Run.done ?_
        refine Run.ret ?_
        refine ⟨.tuple #[.agg #[.int .i64 (((n : Nat) : Int)), .slice A_vg1 ((nwG n xs ms).length - i) c_vg1], .bool true], [.own (.slice A_vg1 ((nwG n xs ms).length - i) c_vg1) 71 3 ((nwG n xs ms).length) (ints (flCX (dcw n (nwG n xs ms))))], Out.cell2 (cs := [.int .i64 (((n : Nat) : Int)), .slice A_vg1 ((nwG n xs ms).length - i) c_vg1]) rfl Tagg_38 rfl (Cells.blk (.tail _ (.tail _ (.tail _ (List.Mem.head _)))) ⟨rfl, rfl, trivial⟩) rfl, (Some'.weak (.takeEq (by first | rfl | (rw [hi0, Nat.sub_zero, List.take_length])) (.nil _))), ?_⟩
        exact ⟨_, by rw [nw_good hgood, hgood], rfl⟩

end Go.Proofs.Yteehfidjofcfmaa
