/- Walks: the reference's search for networks. -/
import Derived.Test.YteehfidjofcfmaaN5
import Derived.Test.YteehfidjofcfmaaProg
import Derived.Test.YteehfidjofcfmaaN6
import Derived.Test.YteehfidjofcfmaaN4
import Derived.Test.YteehfidjofcfmaaN3
set_option linter.unusedSimpArgs false
set_option linter.unusedVariables false
namespace Go.Proofs.Yteehfidjofcfmaa
open Go Go.RowKit
namespace NwuT
theorem Tagg_28 : aggOf Try.prog 28 = some 1 := by kernel_rfl
theorem Tagg_38 : aggOf Try.prog 38 = some 2 := by kernel_rfl
theorem Tagg_71 : aggOf Try.prog 71 = some 3 := by kernel_rfl
theorem Tagg_77 : aggOf Try.prog 77 = some 7 := by kernel_rfl
theorem Tcall_49 : callable Try.prog 49 = true := by kernel_rfl
theorem Tcall_50 : callable Try.prog 50 = true := by kernel_rfl
theorem Tcall_70 : callable Try.prog 70 = true := by kernel_rfl
theorem Tcall_71 : callable Try.prog 71 = true := by kernel_rfl
theorem Tcall_90 : callable Try.prog 90 = true := by kernel_rfl
theorem Tcall_91 : callable Try.prog 91 = true := by kernel_rfl
theorem Tfo_28_0 : fieldOff Try.prog 28 0 = some 0 := by kernel_rfl
theorem Tfo_38_1 : fieldOff Try.prog 38 1 = some 1 := by kernel_rfl
theorem Tfo_77_0 : fieldOff Try.prog 77 0 = some 0 := by kernel_rfl
theorem Tfo_77_1 : fieldOff Try.prog 77 1 = some 1 := by kernel_rfl
theorem Tfo_77_2 : fieldOff Try.prog 77 2 = some 2 := by kernel_rfl
theorem Tint_96 : Try.prog.underlying 96 = some (.int .u64) := by kernel_rfl
theorem Tone_22 : oneOf Try.prog 22 = true := by kernel_rfl
theorem Tone_3 : oneOf Try.prog 3 = true := by kernel_rfl
theorem Tone_36 : oneOf Try.prog 36 = true := by kernel_rfl
theorem Tone_4 : oneOf Try.prog 4 = true := by kernel_rfl
theorem Tsize_3 : (Try.prog.info? 3).map (·.size) = some 1 := by kernel_rfl
theorem Tsize_36 : (Try.prog.info? 36).map (·.size) = some 1 := by kernel_rfl
theorem Tsize_38 : (Try.prog.info? 38).map (·.size) = some 2 := by kernel_rfl
theorem Tsize_4 : (Try.prog.info? 4).map (·.size) = some 1 := by kernel_rfl
theorem Tsize_77 : (Try.prog.info? 77).map (·.size) = some 7 := by kernel_rfl
theorem Tsl_104 : sliceOf Try.prog 104 = some (4, 1, 1, [.bool false]) := by kernel_rfl
theorem Tsl_22 : sliceOf Try.prog 22 = some (3, 1, 8, [.int .i64 0]) := by kernel_rfl
theorem Tsl_36 : sliceOf Try.prog 36 = some (71, 3, 24, [.int .i64 0, .int .i64 0, .int .i64 0]) := by kernel_rfl
theorem Tsl_67 : sliceOf Try.prog 67 = some (77, 7, 72, [.slice none 0 0, .int .i64 0, .int .i64 0, .int .i64 0, .int .i64 0, .int .i64 0, .int .i64 0]) := by kernel_rfl
theorem Tsome_3 : (Try.prog.underlying 3).isSome = true := by kernel_rfl
theorem Tzero_38 : zeroOf Try.prog 38 = some [.int .i64 0, .slice none 0 0] := by kernel_rfl
theorem Tzero_77 : zeroOf Try.prog 77 = some [.slice none 0 0, .int .i64 0, .int .i64 0, .int .i64 0, .int .i64 0, .int .i64 0, .int .i64 0] := by kernel_rfl
end NwuT
open NwuT
theorem preN_sub {cs : List Value} {b o : Nat} {z : NZ} {ys : List Value} (h : Pre cs b (ncell z)) (hy : ((ncell z).drop o).take ys.length = ys) : Pre cs (b + o) ys := by
  refine Pre.of fun j v hv => ?_
  have := h.get (o + j) v (by
    rw [← hy] at hv
    rw [List.getElem?_take] at hv
    split at hv
    · rwa [List.getElem?_drop] at hv
    · cases hv)
  rwa [← Nat.add_assoc] at this

set_option maxHeartbeats 4000000 in
set_option maxRecDepth 20000 in
theorem l14Search_spec {va vm : Value} {n : Nat} {xs ms : List Int} {w : World} (hxl : xs.length = n) (hgood : nwB n xs ms = true) (ha : Sl w va 1 n (ints xs)) (hms : Sl w vm 1 ms.length (ints ms)) : Calls Try.prog 50 #[.agg #[va], vm] w (Post No w fun v H => ∃ os : List NZ, os.map (fun z => z.2.2.2) = (nwG n xs ms).reverse.map (gt3 n) ++ [(0, (0, 0))] ∧ H = [.own v 77 7 os.length (ncells os)]) := by
 obtain ⟨Av, cv, rfl, hnc, _⟩ := ha.form0
 have hn := ha.le
 obtain ⟨Am, cm, rfl, hmc, _⟩ := hms.form0
 have hok := nw_ok hxl hgood
 obtain ⟨h3, h1n, hnl, hml, hmb, hmi, hmk, hm7, hfd, hone, hlen, hbw⟩ := hok
 obtain ⟨m, hm⟩ : ∃ m, m = nats xs := ⟨_, rfl⟩
 rw [← hm] at hnl hml hmb hmi hfd hone
 obtain ⟨N, hN⟩ : ∃ N : Nat, N = 65536 := ⟨_, rfl⟩
 obtain ⟨q0, hq0⟩ : ∃ q : Nat, q = 2 ^ ms.length := ⟨_, rfl⟩
 have hq0b : q0 ≤ 128 := by rw [hq0]; exact Nat.le_trans (Nat.pow_le_pow_right (by omega) hm7) (by decide)
 have hq1 : 1 ≤ q0 := by rw [hq0]; exact Nat.two_pow_pos _
 obtain ⟨gq, hgq⟩ : ∃ q : Nat, q = q0 - 1 := ⟨_, rfl⟩
 have hgq2 : 2 ^ ms.length - 1 = gq := by rw [hgq, hq0]
 rw [hgq2] at hfd hone
 have hkm : mK n ms (m, gq) := ⟨hml, hmb, by rw [← hq0]; show gq < q0; omega⟩
 have h9 : n * n ≤ 9 := Nat.le_trans (Nat.mul_le_mul h3 h3) (by omega)
 have h0f : apF ms n < 128 := by have h := apF_lt (ms := ms) n; rw [← hq0] at h; omega
 have hcN : ∀ {k : List Nat × Nat}, mK n ms k → cdE k < N := fun h => by rw [hN]; exact cdE_lt h3 hm7 h
 have hmc2 := hcN hkm
 have hic := hcN (mK_id n ms)
 refine enter (n := 129) (args := [.agg #[.slice Av n cv], .slice Am (ms.length) cm]) Try.func50 rfl rfl (St.empty _ _) ?_
 refine Run.sr ?_
 refine Run.step rfl (OpStep.box (us := [.slice Av n cv]) rfl fun b1 => ?_)
 refine Run.p (.slice none 0 0) rfl rfl ?_
 refine Run.dsr ?_
 refine Run.y (.pointer (some ⟨b1, 0, none⟩)) rfl (OpY.fieldAddr Tfo_28_0 rfl rfl) ?_
 refine Run.y (.slice Av n cv) rfl (OpY.load1 Tone_22 rfl (Cells.blk (.head _) ⟨rfl, trivial⟩)) ?_
 refine Run.y (.int .i64 (((n : Nat) : Int))) rfl (OpY.len Tsl_22 rfl) ?_
 refine Run.p (.int .i64 (((n : Nat) : Int))) rfl rfl ?_
 refine Run.dsr ?_
 refine Run.p (.int .i64 (((n : Nat) : Int))) rfl rfl ?_
 refine Run.step rfl (OpStep.call (vs := [.int .i64 (((n : Nat) : Int))]) (caps := []) Tcall_70 rfl rfl (fun w hs => l12Identity_spec (by omega) w) ?_)
 rintro _ _ ⟨uI, rfl, rfl⟩
 show Run _ _ (putF _ _ _ (.agg #[uI])) [.own uI 3 1 n (ints (nl (idL n))), .blk b1 28 [.slice Av n cv]]
 refine Run.formOwn (.head _) (fun A_uI1 c_uI1 hv hcapc_uI1 hmaxc_uI1 => ?_) (fun _ _ _ => ⟨nofun, nofun, nofun⟩)
 subst hv
 refine Run.y (.agg #[.slice A_uI1 n c_uI1, .int .i64 0, .int .i64 (-1), .int .i64 0, .int .i64 0, .int .i64 0, .int .i64 0]) rfl (OpY.build (cs := [.slice A_uI1 n c_uI1, .int .i64 0, .int .i64 (-1), .int .i64 0, .int .i64 0, .int .i64 0, .int .i64 0]) (by kernel_rfl)) ?_
 refine Run.step rfl (OpStep.alloc (zs := [.slice none 0 0, .int .i64 0, .int .i64 0, .int .i64 0, .int .i64 0, .int .i64 0, .int .i64 0]) Tzero_77 fun b2 => ?_)
 refine Run.step rfl (OpStep.storeAll (us := [.slice A_uI1 n c_uI1, .int .i64 0, .int .i64 (-1), .int .i64 0, .int .i64 0, .int .i64 0, .int .i64 0]) Tsize_77 rfl rfl rfl (.here _) rfl ?_)
 refine Run.dsr ?_
 refine Run.y (.pointer (some ⟨b2, 0, none⟩)) rfl (OpY.fieldAddr Tfo_77_0 rfl rfl) ?_
 refine Run.y (.agg #[.slice A_uI1 n c_uI1]) rfl (OpY.loadN (cs := [.slice A_uI1 n c_uI1]) Tagg_28 rfl (Cells.blk (.head _) ⟨rfl, trivial⟩)) ?_
 refine Run.p (.slice Am (ms.length) cm) rfl rfl ?_
 refine Run.q (v := .int .i64 (((apF ms n : Nat) : Int))) rfl (OpQ.call (vs := [.int .i64 0, .agg #[.slice A_uI1 n c_uI1], .slice Am (ms.length) cm]) (caps := []) Tcall_90 rfl rfl (fun w hs => (by have h := l14Seen_spec (f := 0) (l := idL n) hm7 (Nat.two_pow_pos _) (by rw [idL_length]; exact hs.slOwn (.tail _ (List.Mem.head _))) (hs.sl hms); rw [seen_first hmk] at h; exact h))) ?_
 refine Run.y (.pointer (some ⟨b2, 1, none⟩)) rfl (OpY.fieldAddr Tfo_77_1 rfl rfl) ?_
 refine Run.step rfl (OpStep.store (us := [.int .i64 (((apF ms n : Nat) : Int))]) Tsize_3 rfl rfl rfl (.here _) (by simp only [List.length_cons, List.length_nil]; omega) ?_)
 show Run _ _ _ [.blk b2 77 [.slice A_uI1 n c_uI1, .int .i64 (((apF ms n : Nat) : Int)), .int .i64 (-1), .int .i64 0, .int .i64 0, .int .i64 0, .int .i64 0], .own (.slice A_uI1 n c_uI1) 3 1 n (ints (nl (idL n))), .blk b1 28 [.slice Av n cv]]
 refine Run.dsr ?_
 refine Run.y (.agg #[.slice A_uI1 n c_uI1, .int .i64 (((apF ms n : Nat) : Int)), .int .i64 (-1), .int .i64 0, .int .i64 0, .int .i64 0, .int .i64 0]) rfl (OpY.loadN (cs := [.slice A_uI1 n c_uI1, .int .i64 (((apF ms n : Nat) : Int)), .int .i64 (-1), .int .i64 0, .int .i64 0, .int .i64 0, .int .i64 0]) Tagg_77 rfl (Cells.blk (.head _) ⟨rfl, rfl, rfl, rfl, rfl, rfl, rfl, trivial⟩)) ?_
 refine Run.step rfl (OpStep.buildSlice (us := [.slice A_uI1 n c_uI1, .int .i64 (((apF ms n : Nat) : Int)), .int .i64 (-1), .int .i64 0, .int .i64 0, .int .i64 0, .int .i64 0]) Tsl_67 (by decide) (by decide) ⟨rfl, [.slice A_uI1 n c_uI1, .int .i64 (((apF ms n : Nat) : Int)), .int .i64 (-1), .int .i64 0, .int .i64 0, .int .i64 0, .int .i64 0], _, rfl, rfl, rfl, rfl⟩ rfl fun b3 => ?_)
 refine Run.p (.slice (some ⟨b3, 0, none⟩) 1 1) rfl rfl ?_
 refine Run.dsr ?_
 refine Run.step rfl (@OpStep.makeSlice _ _ _ _ _ _ _ _ _ 104 (.const (.int .i64 65536)) (.const (.int .i64 65536)) _ _ _ N _ .i64 .i64 Tsl_104 rfl (by decide) (by exact congrArg (Value.int .i64) (show (65536 : Int) = ((N : Nat) : Int) from by omega)) (by exact congrArg (Value.int .i64) (show (65536 : Int) = ((N : Nat) : Int) from by omega)) (by omega) (by simp only [maxLen]; omega) fun b4 => ?_)
 refine Run.p (.slice (some ⟨b4, 0, none⟩) N N) rfl rfl ?_
 refine Run.done ?_
 refine Run.seq ?_
 rw [bls_zero]
 refine Run.region ?_
 refine Run.p (.slice (some ⟨b4, 0, none⟩) N N) rfl rfl ?_
 refine Run.y (.agg #[.slice A_uI1 n c_uI1, .int .i64 (((apF ms n : Nat) : Int)), .int .i64 (-1), .int .i64 0, .int .i64 0, .int .i64 0, .int .i64 0]) rfl (OpY.loadN (cs := [.slice A_uI1 n c_uI1, .int .i64 (((apF ms n : Nat) : Int)), .int .i64 (-1), .int .i64 0, .int .i64 0, .int .i64 0, .int .i64 0]) Tagg_77 rfl (Cells.blk (.tail _ (.tail _ (List.Mem.head _))) ⟨rfl, rfl, rfl, rfl, rfl, rfl, rfl, trivial⟩)) ?_
 refine Run.q (v := .int .i64 (((cdE (idL n, apF ms n) : Nat) : Int))) rfl (OpQ.call (vs := [.agg #[.slice A_uI1 n c_uI1, .int .i64 (((apF ms n : Nat) : Int)), .int .i64 (-1), .int .i64 0, .int .i64 0, .int .i64 0, .int .i64 0]]) (caps := []) Tcall_91 rfl rfl (fun w hs => (by have h := l14Code_spec (f := apF ms n) (l := idL n) (c2 := -1) (c3 := 0) (c4 := 0) (c5 := 0) (c6 := 0) (by rw [idL_length]; omega) h0f (mK8 h3 (mK_id n ms).2.1) (by rw [idL_length]; exact hs.slOwn (.tail _ (.tail _ (.tail _ (List.Mem.head _))))); rw [show cdS (apF ms n) (idL n) (idL n).length = cdE (idL n, apF ms n) from rfl] at h; exact h))) ?_
 refine Run.y (.pointer (some ⟨b4, cdE (idL n, apF ms n), none⟩)) rfl (OpY.index (kk := cdE (idL n, apF ms n)) Tsl_104 rfl rfl (by omega) (by omega) (by first | rfl | omega)) ?_
 refine Run.step rfl (OpStep.storeOwn (us := [.bool true]) Tsize_4 rfl rfl rfl rfl (by rw [bls_set, ← metL_snoc]; exact (.here _)) (by simp only [List.length_cons, List.length_nil]; omega) ?_)
 refine Run.done ?_
 refine Run.weak (H' := [.grp 3 1 (gl ([])), .own (.slice (some ⟨b4, 0, none⟩) N N) 4 1 N (bls (metL N ([cdE (idL n, apF ms n)]))), .own (.slice (some ⟨b3, 0, none⟩) 1 1) 77 7 1 ([.slice A_uI1 n c_uI1, .int .i64 (((apF ms n : Nat) : Int)), .int .i64 (-1), .int .i64 0, .int .i64 0, .int .i64 0, .int .i64 0]), .blk b2 77 [.slice A_uI1 n c_uI1, .int .i64 (((apF ms n : Nat) : Int)), .int .i64 (-1), .int .i64 0, .int .i64 0, .int .i64 0, .int .i64 0], .own (.slice A_uI1 n c_uI1) 3 1 n (ints (nl (idL n))), .blk b1 28 [.slice Av n cv]]) (Weak.grpNil _ _) ?_ ⟨_, _, rfl, fun _ => nofun, fun _ => nofun⟩
 refine Run.weak (H' := [.grp 3 1 (ngp n ([((.slice A_uI1 n c_uI1 : Value), (((idL n, apF ms n), []), ((-1 : Int), ((0 : Int), ((0 : Int), (0 : Int))))))])), .own (.slice (some ⟨b4, 0, none⟩) N N) 4 1 N (bls (metL N ([cdE (idL n, apF ms n)]))), .own (.slice (some ⟨b3, 0, none⟩) 1 1) 77 7 1 ([.slice A_uI1 n c_uI1, .int .i64 (((apF ms n : Nat) : Int)), .int .i64 (-1), .int .i64 0, .int .i64 0, .int .i64 0, .int .i64 0]), .blk b2 77 [.slice A_uI1 n c_uI1, .int .i64 (((apF ms n : Nat) : Int)), .int .i64 (-1), .int .i64 0, .int .i64 0, .int .i64 0, .int .i64 0], .blk b1 28 [.slice Av n cv]]) ((Weak.selF [4, 0]).trans (Weak.ngSnoc (zs := []) (k := (idL n, apF ms n)) (p := []))) ?_ ⟨_, _, rfl, fun _ => nofun, fun _ => nofun⟩
 refine Run.sr ?_
 refine Run.y (.agg #[.slice Av n cv]) rfl (OpY.loadN (cs := [.slice Av n cv]) Tagg_28 rfl (Cells.blk (.tail _ (.tail _ (.tail _ (.tail _ (List.Mem.head _))))) ⟨rfl, trivial⟩)) ?_
 refine Run.p (.slice Am (ms.length) cm) rfl rfl ?_
 refine Run.y (.int .i64 (((ms.length : Nat) : Int))) rfl (OpY.len Tsl_22 rfl) ?_
 refine Run.y (.int .u64 (((ms.length : Nat) : Int))) rfl (OpY.convIntEq Tsome_3 Tint_96 rfl (by rw [IntKind.wrap_u64]; omega)) ?_
 refine Run.y (.int .i64 (((q0 : Nat) : Int))) rfl (OpY.shlOne rfl rfl rfl (by omega) hq0) ?_
 refine Run.y (.int .i64 (((gq : Nat) : Int))) rfl (OpY.sub rfl rfl (by omega) (by omega) (by omega)) ?_
 refine Run.y (.agg #[.slice Av n cv, .int .i64 (((gq : Nat) : Int)), .int .i64 0, .int .i64 0, .int .i64 0, .int .i64 0, .int .i64 0]) rfl (OpY.build (cs := [.slice Av n cv, .int .i64 (((gq : Nat) : Int)), .int .i64 0, .int .i64 0, .int .i64 0, .int .i64 0, .int .i64 0]) (by kernel_rfl)) ?_
 refine Run.q (v := .int .i64 (((cdE (m, gq) : Nat) : Int))) rfl (OpQ.call (vs := [.agg #[.slice Av n cv, .int .i64 (((gq : Nat) : Int)), .int .i64 0, .int .i64 0, .int .i64 0, .int .i64 0, .int .i64 0]]) (caps := []) Tcall_91 rfl rfl (fun w hs => (by have h := l14Code_spec (va := .slice Av n cv) (f := gq) (l := m) (c2 := 0) (c3 := 0) (c4 := 0) (c5 := 0) (c6 := 0) (by omega) (by omega) (mK8 h3 hmb) (by rw [hml, hnl]; exact hs.sl ha); rw [show cdS gq m m.length = cdE (m, gq) from rfl] at h; exact h))) ?_
 refine Run.p (.int .i64 (((cdE (m, gq) : Nat) : Int))) rfl rfl ?_
 refine Run.done ?_
 refine Run.seq ?_
 refine Run.sr ?_
 refine Run.p (.int .i64 0) rfl rfl ?_
 refine Run.done ?_
 refine Run.block ?_
 refine Run.loop (ι := Nat × Value × List NZ) ([4, 7, 10, 11, 12, 13, 14, 41, 42, 43, 44, 45, 46, 47, 48, 49, 50, 51, 52, 53, 54, 55, 56, 57, 58, 59, 60, 61, 62, 63, 64, 65, 66, 67, 68, 69, 70, 71, 72, 73, 74, 75, 76, 77, 78, 79, 80, 81, 82, 83] ++ [84, 85, 86, 87, 88, 89, 90, 91, 92, 93, 94, 95, 96, 97, 98, 99, 100, 101, 102, 103, 104, 105, 106, 107, 108, 109, 110, 111, 112, 113, 114, 115, 116, 117, 118, 119, 120, 121, 122, 123, 124, 125, 126, 127, 128]) (fun ⟨i, vl, zs⟩ => [(7, vl), (10, .int .i64 (((i : Nat) : Int)))]) (fun ⟨i, vl, zs⟩ => [.own vl 77 7 (zs.length) (ncells zs), .grp 3 1 (ngp n zs), .own (.slice (some ⟨b4, 0, none⟩) N N) 4 1 N (bls (metL N (ncd zs))), .blk b2 77 [.slice A_uI1 n c_uI1, .int .i64 (((apF ms n : Nat) : Int)), .int .i64 (-1), .int .i64 0, .int .i64 0, .int .i64 0, .int .i64 0], .blk b1 28 [.slice Av n cv]]) (fun ⟨i, vl, zs⟩ => nk zs = mQ n ms i ∧ Linked n zs ∧ ∀ j, j < i → ∀ z, zs[j]? = some z → z.2.1.1 ≠ (m, gq)) (fun ⟨i, vl, zs⟩ => 1000001 - i) (0, .slice (some ⟨b3, 0, none⟩) 1 1, [((.slice A_uI1 n c_uI1 : Value), (((idL n, apF ms n), ([] : List Nat)), ((-1 : Int), ((0 : Int), ((0 : Int), (0 : Int))))))]) ?_ ?_ ?_ ?_
 ·exact ⟨rfl, Linked.one ⟨rfl, rfl⟩, fun j hj => absurd hj (by omega)⟩
 ·exact ⟨rfl, rfl, trivial⟩
 ·exact ((Weak.selF [2, 0, 0, 0, 0]).trans (Some'.weak (.takeEq (by first | rfl | simp) (.takeEq (by first | rfl | simp) (.takeEq (by first | rfl | simp) (.take (.take (.nil _))))))))
 ·rintro ⟨i, vl, zs⟩ fr hinv
  show Run _ _ (over _ _ [(7, vl), (10, .int .i64 (((i : Nat) : Int)))] fr) [.own vl 77 7 (zs.length) (ncells zs), .grp 3 1 (ngp n zs), .own (.slice (some ⟨b4, 0, none⟩) N N) 4 1 N (bls (metL N (ncd zs))), .blk b2 77 [.slice A_uI1 n c_uI1, .int .i64 (((apF ms n : Nat) : Int)), .int .i64 (-1), .int .i64 0, .int .i64 0, .int .i64 0, .int .i64 0], .blk b1 28 [.slice Av n cv]]
  try dsimp only at hinv
  refine Run.seq ?_
  refine Run.sr ?_
  refine Run.p (.int .i64 (((i : Nat) : Int))) rfl rfl ?_
  refine Run.p (vl) rfl rfl ?_
  refine Run.formOwn (.head _) (fun A_vl1 c_vl1 hv hcapc_vl1 hmaxc_vl1 => ?_) (fun _ _ _ => ⟨nofun, nofun, nofun⟩)
  subst hv
  refine Run.y (.int .i64 (((zs.length : Nat) : Int))) rfl (OpY.len Tsl_67 rfl) ?_
  refine Run.p (.bool (decide ((((i : Nat) : Int)) < (((zs.length : Nat) : Int))))) rfl rfl ?_
  refine Run.done ?_
  refine Run.cond (b := decide ((((i : Nat) : Int)) < (((zs.length : Nat) : Int)))) rfl (fun h44 => ?_) (fun h44 => ?_)
  ·have p44 := h44; try simp only [bs] at p44
   have hil : i < zs.length := by omega
   obtain ⟨hzq, hlk, hnf⟩ := hinv
   obtain ⟨⟨gv, ⟨⟨⟨gk, gf⟩, gp⟩, ⟨gr, ⟨g1, ⟨g2, g3⟩⟩⟩⟩⟩, hz⟩ : ∃ z, zs[i]? = some z := ⟨_, List.getElem?_eq_getElem hil⟩
   have hzx : (mQ n ms i)[i]? = some ((gk, gf), gp) := by rw [← hzq, List.getElem?_map, hz]; rfl
   have hgk : mK n ms (gk, gf) := mQ_key (List.mem_of_getElem? hzx)
   have hgf : gf < 128 := by have h : gf < 2 ^ ms.length := hgk.2.2; omega
   have hgc := hcN hgk
   have hzM : zs.length ≤ 1000000 := by have h := mQ_small h3 hm7 i; rw [← hzq, List.length_map] at h; exact h
   have hpl : gp.length ≤ i := bfs_plen i i _ hzx
   refine Run.formMem (.tail _ (List.Mem.head _)) (ng_mem (n := n) (List.mem_of_getElem? hz)) (fun gA gc hgv => ?_) (fun _ _ _ => ⟨nofun, nofun, nofun⟩)
   simp only [nm] at hgv
   subst hgv
   have hzm := List.mem_of_getElem? hz
   refine Run.openOwn (.head _) (by omega) (fun gz cz hvgz hcapgz _ => ?_) (fun _ _ _ => ⟨nofun, nofun, nofun⟩)
   injection hvgz with hAgz _ hcgz; subst hAgz; subst hcgz
   refine Run.skip ?_
   refine Run.seq ?_
   refine Run.block ?_
   refine Run.seq ?_
   refine Run.sr ?_
   refine Run.p (.slice (some ⟨gz, 0, none⟩) (zs.length) c_vl1) rfl rfl ?_
   refine Run.p (.int .i64 (((i : Nat) : Int))) rfl rfl ?_
   refine Run.y (.pointer (some ⟨gz, i * 7, none⟩)) rfl (OpY.index (kk := i) Tsl_67 rfl rfl (by omega) (by omega) (by first | rfl | omega)) ?_
   refine Run.y (.agg #[.slice gA n gc, .int .i64 (((gf : Nat) : Int)), .int .i64 gr, .int .i64 g1, .int .i64 g2, .int .i64 g3, .int .i64 0]) rfl (OpY.loadN (cs := [.slice gA n gc, .int .i64 (((gf : Nat) : Int)), .int .i64 gr, .int .i64 g1, .int .i64 g2, .int .i64 g3, .int .i64 0]) Tagg_77 rfl (Cells.own0 (.head _) (preN hz))) ?_
   refine Run.q (v := .int .i64 (((cdE (gk, gf) : Nat) : Int))) rfl (OpQ.call (vs := [.agg #[.slice gA n gc, .int .i64 (((gf : Nat) : Int)), .int .i64 gr, .int .i64 g1, .int .i64 g2, .int .i64 g3, .int .i64 0]]) (caps := []) Tcall_91 rfl rfl (fun w hs => (by have h := l14Code_spec (f := gf) (l := gk) (c2 := gr) (c3 := g1) (c4 := g2) (c5 := g3) (c6 := 0) (by rw [hgk.1]; omega) hgf (mK8 h3 hgk.2.1) (by rw [hgk.1]; exact hs.slGrpR (p := nm n ((.slice gA n gc : Value), (((gk, gf), gp), (gr, (g1, (g2, g3)))))) (.tail _ (List.Mem.head _)) (ng_mem hzm)); rw [show cdS gf gk gk.length = cdE (gk, gf) from rfl] at h; exact h))) ?_
   refine Run.p (.int .i64 (((cdE (m, gq) : Nat) : Int))) rfl rfl ?_
   refine Run.p (.bool ((((cdE (gk, gf) : Nat) : Int)) == (((cdE (m, gq) : Nat) : Int)))) rfl rfl ?_
   refine Run.done ?_
   refine Run.cond (b := (((cdE (gk, gf) : Nat) : Int)) == (((cdE (m, gq) : Nat) : Int))) rfl (fun h53 => ?_) (fun h53 => ?_)
   ·have p53 := h53; try simp only [bs] at p53
    have hkg : (gk, gf) = (m, gq) := cdE_inj h3 hgk hkm (by omega)
    have hpG : gp = nwG n xs ms := hone i gp (by rw [← hkg]; exact List.mem_of_getElem? hzx)
    refine Run.sr ?_
    refine Run.p (.slice none 0 0) rfl rfl ?_
    refine Run.done ?_
    refine Run.seq ?_
    refine Run.sr ?_
    refine Run.p (.int .i64 (((i : Nat) : Int))) rfl rfl ?_
    refine Run.p (.int .i64 (((i : Nat) : Int))) rfl rfl ?_
    refine Run.done ?_
    refine Run.block ?_
    refine Run.weak (H' := [.own (.slice none 0 0) 77 7 0 ([]), .own (.slice (some ⟨gz, 0, none⟩) (zs.length) c_vl1) 77 7 (zs.length) (ncells zs), .grp 3 1 (ngp n zs), .own (.slice (some ⟨b4, 0, none⟩) N N) 4 1 N (bls (metL N (ncd zs))), .blk b2 77 [.slice A_uI1 n c_uI1, .int .i64 (((apF ms n : Nat) : Int)), .int .i64 (-1), .int .i64 0, .int .i64 0, .int .i64 0, .int .i64 0], .blk b1 28 [.slice Av n cv]]) (Weak.nilOwn _ _) ?_ ⟨_, _, rfl, fun _ => nofun, fun _ => nofun⟩
    refine Run.loop (ι := Int × Value × List NZ) [11, 12, 55, 56, 57, 58, 59, 60, 61, 62, 63, 64, 65, 66, 67, 68] (fun ⟨kk, vo, os⟩ => [(11, vo), (12, .int .i64 kk)]) (fun ⟨kk, vo, os⟩ => [.own vo 77 7 (os.length) (ncells os), .own (.slice (some ⟨gz, 0, none⟩) (zs.length) c_vl1) 77 7 (zs.length) (ncells zs), .grp 3 1 (ngp n zs)]) (fun ⟨kk, vo, os⟩ => OutI n zs gp kk os ∧ kk < 1000001) (fun ⟨kk, vo, os⟩ => (kk + 1).toNat) ((i : Int), .slice none 0 0, []) ?_ ?_ ?_ ?_
    ·exact ⟨.inl ⟨i, _, [], rfl, hz, by simp, rfl⟩, by omega⟩
    ·exact ⟨rfl, rfl, trivial⟩
    ·exact ((Weak.refl _).trans (Some'.weak (.takeEq (by first | rfl | simp) (.take (.take (.nil _))))))
    ·rintro ⟨kk, vo, os⟩ fr hinv
     show Run _ _ (over _ _ [(11, vo), (12, .int .i64 kk)] fr) [.own vo 77 7 (os.length) (ncells os), .own (.slice (some ⟨gz, 0, none⟩) (zs.length) c_vl1) 77 7 (zs.length) (ncells zs), .grp 3 1 (ngp n zs)]
     try dsimp only at hinv
     refine Run.seq ?_
     refine Run.sr ?_
     refine Run.p (.int .i64 kk) rfl rfl ?_
     refine Run.p (.bool (decide (kk ≥ 0))) rfl rfl ?_
     refine Run.done ?_
     refine Run.cond (b := decide (kk ≥ 0)) rfl (fun h56 => ?_) (fun h56 => ?_)
     ·have p56 := h56; try simp only [bs] at p56
      obtain ⟨hoi, hom⟩ := hinv
      obtain ⟨t, ⟨ov, ⟨⟨⟨ok_, of⟩, op_⟩, ⟨orr, ⟨o1, ⟨o2, o3⟩⟩⟩⟩⟩, r, hkt, hzt, hpr, hor⟩ : ∃ t z r, kk = ((t : Nat) : Int) ∧ zs[t]? = some z ∧ gp = z.2.1.2 ++ r ∧ os.map (fun z => z.2.2.2) = r.reverse.map (gt3 n) := by
       rcases hoi with h | ⟨h, _⟩
       ·exact h
       ·omega
      have htl : t < zs.length := (List.getElem?_eq_some_iff.1 hzt).1
      have hol : os.length ≤ gp.length := by have h1 := congrArg List.length hor; simp only [List.length_map, List.length_reverse] at h1; rw [h1, hpr, List.length_append]; omega
      refine Run.formMem (.tail _ (.tail _ (List.Mem.head _))) (ng_mem (n := n) (List.mem_of_getElem? hzt)) (fun oA oc hov => ?_) (fun _ _ _ => ⟨nofun, nofun, nofun⟩)
      simp only [nm] at hov
      subst hov
      obtain ⟨hstep, hless⟩ := OutI.step hlk hzt hpr hor
      simp only at hstep hless
      refine Run.skip ?_
      refine Run.seq ?_
      refine Run.block ?_
      refine Run.region ?_
      refine Run.p (vo) rfl rfl ?_
      refine Run.p (.slice (some ⟨gz, 0, none⟩) (zs.length) c_vl1) rfl rfl ?_
      refine Run.p (.int .i64 kk) rfl rfl ?_
      refine Run.y (.pointer (some ⟨gz, t * 7, none⟩)) rfl (OpY.index (kk := t) Tsl_67 rfl rfl (by omega) (by omega) (by first | rfl | omega)) ?_
      refine Run.y (.agg #[.slice oA n oc, .int .i64 (((of : Nat) : Int)), .int .i64 orr, .int .i64 o1, .int .i64 o2, .int .i64 o3, .int .i64 0]) rfl (OpY.loadN (cs := [.slice oA n oc, .int .i64 (((of : Nat) : Int)), .int .i64 orr, .int .i64 o1, .int .i64 o2, .int .i64 o3, .int .i64 0]) Tagg_77 rfl (Cells.own0 (.tail _ (List.Mem.head _)) (preN hzt))) ?_
      refine Run.step rfl (OpStep.buildSlice (us := [.slice oA n oc, .int .i64 (((of : Nat) : Int)), .int .i64 orr, .int .i64 o1, .int .i64 o2, .int .i64 o3, .int .i64 0]) Tsl_67 (by decide) (by decide) ⟨rfl, [.slice oA n oc, .int .i64 (((of : Nat) : Int)), .int .i64 orr, .int .i64 o1, .int .i64 o2, .int .i64 o3, .int .i64 0], _, rfl, rfl, rfl, rfl⟩ rfl fun b5 => ?_)
      refine Run.step rfl (OpStep.append (H1 := [.own (.slice (some ⟨b5, 0, none⟩) 1 1) 77 7 1 ([.slice oA n oc, .int .i64 (((of : Nat) : Int)), .int .i64 orr, .int .i64 o1, .int .i64 o2, .int .i64 o3, .int .i64 0])]) (H2 := [.own (.slice (some ⟨gz, 0, none⟩) (zs.length) c_vl1) 77 7 (zs.length) (ncells zs), .grp 3 1 (ngp n zs)]) (v := vo) (u := .slice (some ⟨b5, 0, none⟩) 1 1) (n := os.length) (m := 1) (xs := ncells os) (ys := [.slice oA n oc, .int .i64 (((of : Nat) : Int)), .int .i64 orr, .int .i64 o1, .int .i64 o2, .int .i64 o3, .int .i64 0]) Tsl_67 (by decide) rfl rfl rfl rfl (fun w hs => hs.slOwn (.head _)) (by simp [Value.oneCell']) (by omega) (by simp only [maxLen]; omega) fun av1 hnav1 => ?_)
      refine Run.weak (H' := [.own (.slice (some ⟨b5, 0, none⟩) 1 1) 77 7 1 ([.slice oA n oc, .int .i64 (((of : Nat) : Int)), .int .i64 orr, .int .i64 o1, .int .i64 o2, .int .i64 o3, .int .i64 0]), .own av1 77 7 ((os ++ [((.slice oA n oc : Value), (((ok_, of), op_), (orr, (o1, (o2, o3)))))] : List NZ).length) (ncells (os ++ [((.slice oA n oc : Value), (((ok_, of), op_), (orr, (o1, (o2, o3)))))])), .own (.slice (some ⟨gz, 0, none⟩) (zs.length) c_vl1) 77 7 (zs.length) (ncells zs), .grp 3 1 (ngp n zs)]) (Some'.weak (.take (.takeEq (by rw [← ncells_snoc]; exact congrArg (fun k => Res.own _ _ _ k _) (by simp)) (.take (.take (.nil _)))))) ?_ ⟨_, _, rfl, fun _ => nofun, fun _ => nofun⟩
      refine Run.p (av1) rfl rfl ?_
      refine Run.done ?_
      refine Run.blockEnd ?_
      refine Run.region ?_
      refine Run.p (.slice (some ⟨gz, 0, none⟩) (zs.length) c_vl1) rfl rfl ?_
      refine Run.p (.int .i64 kk) rfl rfl ?_
      refine Run.y (.pointer (some ⟨gz, t * 7, none⟩)) rfl (OpY.index (kk := t) Tsl_67 rfl rfl (by omega) (by omega) (by first | rfl | omega)) ?_
      refine Run.y (.pointer (some ⟨gz, t * 7 + 2, none⟩)) rfl (OpY.fieldAddr Tfo_77_2 rfl rfl) ?_
      refine Run.y (.int .i64 orr) rfl (OpY.load1 Tone_3 rfl (Cells.own0 (.tail _ (.tail _ (List.Mem.head _))) (preN_sub (o := 2) (preN hzt) rfl))) ?_
      refine Run.p (.int .i64 orr) rfl rfl ?_
      refine Run.done ?_
      refine Run.goal ⟨(by repeat (first | exact Same.refl _ _ | refine Same.put rfl ?_ | refine Same.over rfl rfl ?_)), (orr, av1, os ++ [((.slice oA n oc : Value), (((ok_, of), op_), (orr, (o1, (o2, o3)))))]), ?_, ?_, ?_, ?_⟩
      ·exact ⟨hstep, by omega⟩
      ·show (orr + 1).toNat < (kk + 1).toNat; omega
      ·exact ⟨(by first | rfl | (congr 1; omega) | simp), (by first | rfl | (congr 1; omega) | simp), trivial⟩
      ·exact ((Weak.selF [1, 1, 1]).trans (Some'.weak (.takeEq (by first | rfl | simp) (.takeEq (by first | rfl | simp) (.takeEq (by first | rfl | simp) (.nil _))))))
     ·have p56 := h56; try simp only [bs] at p56
      obtain ⟨hoi, hom⟩ := hinv
      have hfin : os.map (fun z => z.2.2.2) = gp.reverse.map (gt3 n) ++ [(0, (0, 0))] := by
       rcases hoi with ⟨t, _, _, h, _⟩ | ⟨_, h⟩
       ·omega
       ·exact h
      refine Run.exit rfl ?_
      refine Run.sr ?_
      refine Run.p (vo) rfl rfl ?_
      refine Run.p (vo) rfl rfl ?_
      refine Run.done ?_
      refine Run.ret ?_
      refine ⟨vo, [.own vo 77 7 (os.length) (ncells os)], Out.one rfl rfl, (Some'.weak (.take (.nil _))), ?_⟩
      exact ⟨os, by rw [← hpG]; exact hfin, rfl⟩
   ·have p53 := h53; try simp only [bs] at p53
    have hkne : (gk, gf) ≠ (m, gq) := fun e => p53 (by rw [e])
    refine Run.skip ?_
    refine Run.sr ?_
    refine Run.p (.int .i64 0) rfl rfl ?_
    refine Run.done ?_
    refine Run.block ?_
    refine Run.loop (ι := Nat × Value × List NZ) ([7, 13, 14, 70, 71, 72, 73, 74, 75, 76, 77, 78, 79, 80, 81, 82, 83, 84, 85, 86, 87, 88, 89, 90, 91, 92, 93, 94, 95, 96, 97, 98, 99, 100, 101, 102, 103, 104, 105, 106, 107, 108, 109, 110, 111, 112, 113, 114, 115, 116] ++ [117, 118, 119, 120, 121, 122, 123, 124, 125, 126, 127, 128]) (fun ⟨k, vl2, zs2⟩ => [(7, vl2), (13, .int .i64 (((k : Nat) : Int)))]) (fun ⟨k, vl2, zs2⟩ => [.own vl2 77 7 (zs2.length) (ncells zs2), .grp 3 1 (ngp n zs2), .own (.slice (some ⟨b4, 0, none⟩) N N) 4 1 N (bls (metL N (ncd zs2))), .blk b2 77 [.slice A_uI1 n c_uI1, .int .i64 (((apF ms n : Nat) : Int)), .int .i64 (-1), .int .i64 0, .int .i64 0, .int .i64 0, .int .i64 0], .blk b1 28 [.slice Av n cv]]) (fun ⟨k, vl2, zs2⟩ => k ≤ n * n ∧ nk zs2 = brow (lstep n ms) (lok n) ((gk, gf), gp) (mQ n ms i) (k) ∧ Linked n zs2 ∧ ∃ t, zs2 = zs ++ t) (fun ⟨k, vl2, zs2⟩ => n * n - k) (0, .slice (some ⟨gz, 0, none⟩) (zs.length) c_vl1, zs) ?_ ?_ ?_ ?_
    ·exact ⟨Nat.zero_le _, hzq, hlk, [], by simp⟩
    ·exact ⟨rfl, rfl, trivial⟩
    ·exact ((Weak.refl _).trans (Some'.weak (.takeEq (by first | rfl | simp [ncd]) (.takeEq (by first | rfl | simp [ncd]) (.takeEq (by first | rfl | simp [ncd]) (.take (.take (.nil _))))))))
    ·rintro ⟨k, vl2, zs2⟩ fr hinv
     show Run _ _ (over _ _ [(7, vl2), (13, .int .i64 (((k : Nat) : Int)))] fr) [.own vl2 77 7 (zs2.length) (ncells zs2), .grp 3 1 (ngp n zs2), .own (.slice (some ⟨b4, 0, none⟩) N N) 4 1 N (bls (metL N (ncd zs2))), .blk b2 77 [.slice A_uI1 n c_uI1, .int .i64 (((apF ms n : Nat) : Int)), .int .i64 (-1), .int .i64 0, .int .i64 0, .int .i64 0, .int .i64 0], .blk b1 28 [.slice Av n cv]]
     try dsimp only at hinv
     refine Run.seq ?_
     refine Run.sr ?_
     refine Run.p (.int .i64 (((k : Nat) : Int))) rfl rfl ?_
     refine Run.p (.int .i64 (((n : Nat) : Int))) rfl rfl ?_
     refine Run.p (.int .i64 (((n : Nat) : Int))) rfl rfl ?_
     refine Run.y (.int .i64 (((n * n : Nat) : Int))) rfl (OpY.mul rfl rfl (by push_cast; rfl) (by omega) (by omega)) ?_
     refine Run.p (.bool (decide ((((k : Nat) : Int)) < (((n * n : Nat) : Int))))) rfl rfl ?_
     refine Run.done ?_
     refine Run.cond (b := decide ((((k : Nat) : Int)) < (((n * n : Nat) : Int)))) rfl (fun h74 => ?_) (fun h74 => ?_)
     ·have p74 := h74; try simp only [bs] at p74
      have hkn : k < n * n := by omega
      obtain ⟨_, hq2, hlk2, ⟨t2, ht2⟩⟩ := hinv
      have hz2 : zs2[i]? = some ((.slice gA n gc : Value), (((gk, gf), gp), (gr, (g1, (g2, g3))))) := by rw [ht2, List.getElem?_append_left hil]; exact hz
      have hzm2 := List.mem_of_getElem? hz2
      have hil2 : i < zs2.length := by rw [ht2, List.length_append]; omega
      have hg1 : k / n < n := (Nat.div_lt_iff_lt_mul (by omega)).2 hkn
      have hg2 : k % n < n := Nat.mod_lt _ (by omega)
      obtain ⟨tq, htq⟩ := brow_in hzx (show k ≤ n * n by omega)
      have hzM2 : zs2.length ≤ 1000000 := by have h := mQ_small h3 hm7 (i + 1); rw [mQ, htq, ← hq2, List.length_append, List.length_map] at h; omega
      have hnt : Noted ms gk gf := by
       have h1 := (bfs_inv (step := lstep n ms) (ok := lok n) (E := n * n) (s := (idL n, apF ms n)) i).ev _ (List.mem_of_getElem? hzx)
       have h2 := (bev_keep hmk gp (idL n, apF ms n) (mK_id n ms) (noted_id hmk)).2.1
       rw [h1] at h2; exact h2
      obtain ⟨xf, hsx⟩ : ∃ x, seenK gf (cx gk (k / n, k % n)) ms ms.length = x := ⟨_, rfl⟩
      have hstp : lstep n ms (gk, gf) k = (cx gk (k / n, k % n), xf) := by rw [← hsx, seen_step hmk hnt hgk.2.2 _ _ (by rw [hgk.1]; exact hg2)]; rfl
      have hnk : mK n ms (cx gk (k / n, k % n), xf) := hstp ▸ mK_step k hgk
      have hxf : xf < 128 := by have h : xf < 2 ^ ms.length := hnk.2.2; omega
      have hnc2 := hcN hnk
      have hbx : bx (metL N (ncd zs2)) (cdE (cx gk (k / n, k % n), xf)) = decide ((cx gk (k / n, k % n), xf) ∈ (nk zs2).map (·.1)) := by
       rw [bx_metL hnc2, Bool.eq_iff_iff, decide_eq_true_eq, decide_eq_true_eq]
       have hall : ∀ z ∈ zs2, mK n ms z.2.1.1 := fun z hz => mQ_key (i := i + 1) (by rw [mQ, htq, ← hq2]; exact List.mem_append.2 (.inl (List.mem_map.2 ⟨z, hz, rfl⟩)))
       constructor
       ·intro h
        obtain ⟨z, hz, he⟩ := List.mem_map.1 h
        have := cdE_inj h3 (hall z hz) hnk he
        exact List.mem_map.2 ⟨z.2.1, List.mem_map.2 ⟨z, hz, rfl⟩, this⟩
       ·intro h
        obtain ⟨y, hy, he⟩ := List.mem_map.1 h
        obtain ⟨z, hz, rfl⟩ := List.mem_map.1 hy
        exact List.mem_map.2 ⟨z, hz, by rw [he]⟩
      refine Run.skip ?_
      refine Run.seq ?_
      refine Run.block ?_
      refine Run.seq ?_
      refine Run.seq ?_
      refine Run.draws (by kernel_rfl) (by kernel_rfl) ?_
      refine Lex.q (v := .int .i64 (((k : Nat) : Int))) rfl (OpQ.y (OpY.pure rfl)) ?_
      refine Lex.q (v := .int .i64 (((n : Nat) : Int))) rfl (OpQ.y (OpY.pure rfl)) ?_
      refine Lex.q (v := .int .i64 (((k / n : Nat) : Int))) rfl (OpQ.y (OpY.quoNat rfl rfl (by omega) (by omega))) ?_
      refine Lex.q (v := .int .i64 (((k : Nat) : Int))) rfl (OpQ.y (OpY.pure rfl)) ?_
      refine Lex.q (v := .int .i64 (((n : Nat) : Int))) rfl (OpQ.y (OpY.pure rfl)) ?_
      refine Lex.q (v := .int .i64 (((k % n : Nat) : Int))) rfl (OpQ.y (OpY.remNat rfl rfl (by omega))) ?_
      refine Lex.q (v := .bool ((((k / n : Nat) : Int)) == (((k % n : Nat) : Int)))) rfl (OpQ.y (OpY.pure rfl)) ?_
      refine Lex.done ?_
      refine Run.cond (b := (((k / n : Nat) : Int)) == (((k % n : Nat) : Int))) rfl (fun h83 => ?_) (fun h83 => ?_)
      ·have p83 := h83; try simp only [bs] at p83
       have hbv : brow (lstep n ms) (lok n) ((gk, gf), gp) (mQ n ms i) (k + 1) = nk zs2 := by rw [brow, ← hq2, bvis, if_neg (fun h => by have h1 := h.1; rw [lok, decide_eq_true_eq] at h1; omega)]
       refine Run.exit rfl ?_
       refine Run.region ?_
       refine Run.p (.int .i64 (((k : Nat) : Int))) rfl rfl ?_
       refine Run.y (.int .i64 ((((k : Nat) : Int)) + 1)) rfl (OpY.add rfl rfl rfl (by omega) (by omega)) ?_
       refine Run.p (.int .i64 ((((k : Nat) : Int)) + 1)) rfl rfl ?_
       refine Run.done ?_
       refine Run.goal ⟨(by repeat (first | exact Same.refl _ _ | refine Same.put rfl ?_ | refine Same.over rfl rfl ?_)), (k + 1, vl2, zs2), ?_, ?_, ?_, ?_⟩
       ·first | exact ⟨hkn, hbv.symm, hlk2, t2, ht2⟩ | exact ⟨hkn, by rw [hbv]; simp [nk], hlk2.snoc hz2 rfl rfl, t2 ++ [_], by rw [ht2, List.append_assoc]⟩
       ·show n * n - (k + 1) < n * n - k; omega
       ·exact ⟨(by first | rfl | (congr 1; omega) | simp), (by first | rfl | (congr 1; omega) | simp), trivial⟩
       ·exact ((Weak.refl _).trans (Some'.weak (.takeEq (by first | rfl | simp [ncd]) (.takeEq (by first | rfl | simp [ncd]) (.takeEq (by first | rfl | simp [ncd]) (.take (.take (.nil _))))))))
      ·have p83 := h83; try simp only [bs] at p83
       refine Run.skip ?_
       refine Run.seq ?_
       refine Run.openOwn (.head _) (by omega) (fun gz cz hvgz hcapgz _ => ?_) (fun _ _ _ => ⟨nofun, nofun, nofun⟩)
       subst hvgz
       refine Run.held (by kernel_rfl) ?_
       refine DW.take (i := 0) (v := .slice (some ⟨gz, 0, none⟩) (zs2.length) cz) rfl (by kernel_rfl) (by kernel_rfl) (by kernel_rfl) (fun _ _ _ h => h) (Weak.refl _) rfl (OpY.pure rfl) ?_
       refine DW.take (i := 1) (v := .int .i64 (((i : Nat) : Int))) rfl (by kernel_rfl) (by kernel_rfl) (by kernel_rfl) (fun _ _ _ h => h) (Weak.refl _) rfl (OpY.pure rfl) ?_
       refine DW.take (i := 2) (v := .pointer (some ⟨gz, i * 7, none⟩)) rfl (by kernel_rfl) (by kernel_rfl) (by kernel_rfl) (fun _ _ _ h => h) (Weak.refl _) rfl (OpY.index (kk := i) Tsl_67 rfl rfl (by omega) (by omega) (by first | rfl | omega)) ?_
       refine DW.take (i := 3) (v := .pointer (some ⟨gz, i * 7, none⟩)) rfl (by kernel_rfl) (by kernel_rfl) (by kernel_rfl) (fun _ _ _ h => h) (Weak.refl _) rfl (OpY.fieldAddr Tfo_77_0 rfl rfl) ?_
       refine DW.take (i := 4) (v := .agg #[.slice gA n gc]) rfl (by kernel_rfl) (by kernel_rfl) (by kernel_rfl) (fun _ _ _ h => h) (Weak.refl _) rfl (OpY.loadN (cs := [.slice gA n gc]) Tagg_28 rfl (Cells.own0 (.head _) (preN_sub (o := 0) (preN hz2) rfl))) ?_
       refine DW.take (i := 5) (v := .int .i64 (((k : Nat) : Int))) rfl (by kernel_rfl) (by kernel_rfl) (by kernel_rfl) (fun _ _ _ h => h) (Weak.refl _) rfl (OpY.pure rfl) ?_
       refine DW.take (i := 6) (v := .int .i64 (((n : Nat) : Int))) rfl (by kernel_rfl) (by kernel_rfl) (by kernel_rfl) (fun _ _ _ h => h) (Weak.refl _) rfl (OpY.pure rfl) ?_
       refine DW.take (i := 7) (v := .int .i64 (((k / n : Nat) : Int))) rfl (by kernel_rfl) (by kernel_rfl) (by kernel_rfl) (fun _ _ _ h => h) (Weak.refl _) rfl (OpY.quoNat rfl rfl (by omega) (by omega)) ?_
       refine DW.take (i := 8) (v := .int .i64 (((k : Nat) : Int))) rfl (by kernel_rfl) (by kernel_rfl) (by kernel_rfl) (fun _ _ _ h => h) (Weak.refl _) rfl (OpY.pure rfl) ?_
       refine DW.take (i := 9) (v := .int .i64 (((n : Nat) : Int))) rfl (by kernel_rfl) (by kernel_rfl) (by kernel_rfl) (fun _ _ _ h => h) (Weak.refl _) rfl (OpY.pure rfl) ?_
       refine DW.take (i := 10) (v := .int .i64 (((k % n : Nat) : Int))) rfl (by kernel_rfl) (by kernel_rfl) (by kernel_rfl) (fun _ _ _ h => h) (Weak.refl _) rfl (OpY.remNat rfl rfl (by omega)) ?_
       refine DW.take (i := 12) (v := .int .i64 (((i : Nat) : Int))) rfl (by kernel_rfl) (by kernel_rfl) (by kernel_rfl) (fun _ _ _ h => h) (Weak.refl _) rfl (OpY.pure rfl) ?_
       refine DW.take (i := 13) (v := .int .i64 (((k : Nat) : Int))) rfl (by kernel_rfl) (by kernel_rfl) (by kernel_rfl) (fun _ _ _ h => h) (Weak.refl _) rfl (OpY.pure rfl) ?_
       refine DW.take (i := 14) (v := .int .i64 (((n : Nat) : Int))) rfl (by kernel_rfl) (by kernel_rfl) (by kernel_rfl) (fun _ _ _ h => h) (Weak.refl _) rfl (OpY.pure rfl) ?_
       refine DW.take (i := 15) (v := .int .i64 (((k / n : Nat) : Int))) rfl (by kernel_rfl) (by kernel_rfl) (by kernel_rfl) (fun _ _ _ h => h) (Weak.refl _) rfl (OpY.quoNat rfl rfl (by omega) (by omega)) ?_
       refine DW.take (i := 16) (v := .int .i64 (((k : Nat) : Int))) rfl (by kernel_rfl) (by kernel_rfl) (by kernel_rfl) (fun _ _ _ h => h) (Weak.refl _) rfl (OpY.pure rfl) ?_
       refine DW.take (i := 17) (v := .int .i64 (((n : Nat) : Int))) rfl (by kernel_rfl) (by kernel_rfl) (by kernel_rfl) (fun _ _ _ h => h) (Weak.refl _) rfl (OpY.pure rfl) ?_
       refine DW.take (i := 18) (v := .int .i64 (((k % n : Nat) : Int))) rfl (by kernel_rfl) (by kernel_rfl) (by kernel_rfl) (fun _ _ _ h => h) (Weak.refl _) rfl (OpY.remNat rfl rfl (by omega)) ?_
       refine DW.take (i := 19) (v := .agg #[.int .i64 9, .int .i64 (((k / n : Nat) : Int)), .int .i64 (((k % n : Nat) : Int))]) rfl (by kernel_rfl) (by kernel_rfl) (by kernel_rfl) (fun _ _ _ h => h) (Weak.refl _) rfl (OpY.build (cs := [.int .i64 9, .int .i64 (((k / n : Nat) : Int)), .int .i64 (((k % n : Nat) : Int))]) (by kernel_rfl)) ?_
       refine DW.two (i := 11) (j := 21) (by kernel_rfl) rfl rfl rfl rfl ?_ ?_
       ·refine OpStep.call (vs := [.agg #[.slice gA n gc], .int .i64 (((k / n : Nat) : Int)), .int .i64 (((k % n : Nat) : Int))]) (caps := []) Tcall_71 rfl rfl (fun w hs => (by have h := l12CX_spec (l := gk) (a := k / n) (b := k % n) (by rw [hgk.1]; omega) (by rw [hgk.1]; exact hg1) (by rw [hgk.1]; exact hg2) (fun j => by have h : nx gk j < 8 := mK8 h3 hgk.2.1 j; omega) (by rw [hgk.1]; exact hs.slGrpR (p := nm n ((.slice gA n gc : Value), (((gk, gf), gp), (gr, (g1, (g2, g3)))))) (.tail _ (List.Mem.head _)) (ng_mem hzm2)); rw [hgk.1] at h; exact h)) ?_
        rintro _ _ ⟨un, rfl, rfl⟩
        refine ⟨(Some'.weak (.skip (.take (.take (.take (.take (.take (.nil _)))))))), ?_⟩
        refine DW.formOwn (.head _) (fun A_un1 c_un1 hv hcapc_un1 hmaxc_un1 => ?_)
        subst hv
        refine DW.take (i := 20) (v := .agg #[.slice A_un1 n c_un1, .int .i64 0, .int .i64 (((i : Nat) : Int)), .int .i64 9, .int .i64 (((k / n : Nat) : Int)), .int .i64 (((k % n : Nat) : Int)), .int .i64 0]) rfl (by kernel_rfl) (by kernel_rfl) (by kernel_rfl) (fun _ _ _ h => h) (Some'.weak (.skip (.take (.take (.take (.take (.take (.nil _)))))))) rfl (OpY.build (cs := [.slice A_un1 n c_un1, .int .i64 0, .int .i64 (((i : Nat) : Int)), .int .i64 9, .int .i64 (((k / n : Nat) : Int)), .int .i64 (((k % n : Nat) : Int)), .int .i64 0]) (by kernel_rfl)) ?_
        refine DW.step (i := 21) (by kernel_rfl) rfl rfl (OpStep.alloc (zs := [.slice none 0 0, .int .i64 0, .int .i64 0, .int .i64 0, .int .i64 0, .int .i64 0, .int .i64 0]) Tzero_77 fun b6 => ?_)
        refine ⟨(Some'.weak (.skip (.skip (.take (.take (.take (.take (.take (.nil _))))))))), ?_⟩
        refine DW.step (i := 22) (by kernel_rfl) rfl rfl (OpStep.storeAll (us := [.slice A_un1 n c_un1, .int .i64 0, .int .i64 (((i : Nat) : Int)), .int .i64 9, .int .i64 (((k / n : Nat) : Int)), .int .i64 (((k % n : Nat) : Int)), .int .i64 0]) Tsize_77 rfl rfl rfl (.here _) rfl ?_)
        refine ⟨(Some'.weak (.skip (.skip (.take (.take (.take (.take (.take (.nil _))))))))), ?_⟩
        refine DW.done (by kernel_rfl) ?_
        refine Run.seq ?_
        refine Run.lastlyB [10] [.blk b6 77 [.slice A_un1 n c_un1, .int .i64 0, .int .i64 (((i : Nat) : Int)), .int .i64 9, .int .i64 (((k / n : Nat) : Int)), .int .i64 (((k % n : Nat) : Int)), .int .i64 0], .own (.slice A_un1 n c_un1) 3 1 n (ints (nl (cx gk (k / n, k % n)))), .own (.slice (some ⟨gz, 0, none⟩) (zs2.length) cz) 77 7 (zs2.length) (ncells zs2), .grp 3 1 (ngp n zs2), .own (.slice (some ⟨b4, 0, none⟩) N N) 4 1 N (bls (metL N (ncd zs2))), .blk b2 77 [.slice A_uI1 n c_uI1, .int .i64 (((apF ms n : Nat) : Int)), .int .i64 (-1), .int .i64 0, .int .i64 0, .int .i64 0, .int .i64 0], .blk b1 28 [.slice Av n cv]] (by kernel_rfl) ?_
        refine DL.takeP (i := 0) (v := .slice (some ⟨gz, 0, none⟩) (zs2.length) cz) rfl (by kernel_rfl) (by kernel_rfl) (by kernel_rfl) (fun _ _ _ h => h) rfl (fun _ => OpY.pure rfl) ?_
        refine DL.takeP (i := 1) (v := .int .i64 (((i : Nat) : Int))) rfl (by kernel_rfl) (by kernel_rfl) (by kernel_rfl) (fun _ _ _ h => h) rfl (fun _ => OpY.pure rfl) ?_
        refine DL.takeP (i := 2) (v := .pointer (some ⟨gz, i * 7, none⟩)) rfl (by kernel_rfl) (by kernel_rfl) (by kernel_rfl) (fun _ _ _ h => h) rfl (fun _ => OpY.index (kk := i) Tsl_67 rfl rfl (by omega) (by omega) (by first | rfl | omega)) ?_
        refine DL.takeP (i := 3) (v := .pointer (some ⟨gz, i * 7 + 1, none⟩)) rfl (by kernel_rfl) (by kernel_rfl) (by kernel_rfl) (fun _ _ _ h => h) rfl (fun _ => OpY.fieldAddr Tfo_77_1 rfl rfl) ?_
        refine DL.take (i := 4) (v := .int .i64 (((gf : Nat) : Int))) rfl (by kernel_rfl) (by kernel_rfl) (by kernel_rfl) (by kernel_rfl) (fun _ _ _ h => h) (Some'.weak (.take (.take (.take (.take (.take (.take (.take (.nil _))))))))) rfl (OpY.load1 Tone_3 rfl (Cells.own0 (.tail _ (.tail _ (List.Mem.head _))) (preN_sub (o := 1) (preN hz2) rfl))) ?_
        refine DL.takeP (i := 5) (v := .pointer (some ⟨b6, 0, none⟩)) rfl (by kernel_rfl) (by kernel_rfl) (by kernel_rfl) (fun _ _ _ h => h) rfl (fun _ => OpY.fieldAddr Tfo_77_0 rfl rfl) ?_
        refine DL.take (i := 6) (v := .agg #[.slice A_un1 n c_un1]) rfl (by kernel_rfl) (by kernel_rfl) (by kernel_rfl) (by kernel_rfl) (fun _ _ _ h => h) (Some'.weak (.take (.take (.take (.take (.take (.take (.take (.nil _))))))))) rfl (OpY.loadN (cs := [.slice A_un1 n c_un1]) Tagg_28 rfl (Cells.blk (.head _) ⟨rfl, trivial⟩)) ?_
        refine DL.takeP (i := 7) (v := .slice Am (ms.length) cm) rfl (by kernel_rfl) (by kernel_rfl) (by kernel_rfl) (fun _ _ _ h => h) rfl (fun _ => OpY.pure rfl) ?_
        refine DL.stepS (i := 8) (by kernel_rfl) rfl rfl (OpStep.q (v := .int .i64 (((xf : Nat) : Int))) (OpQ.call (vs := [.int .i64 (((gf : Nat) : Int)), .agg #[.slice A_un1 n c_un1], .slice Am (ms.length) cm]) (caps := []) Tcall_90 rfl rfl (fun w hs => (by have h := l14Seen_spec (f := gf) (l := cx gk (k / n, k % n)) hm7 hgk.2.2 (by rw [hnk.1]; exact hs.slOwn (.tail _ (List.Mem.head _))) (hs.sl hms); rw [hsx] at h; exact h))) ?_)
        refine ⟨(Some'.weak (.take (.take (.take (.take (.take (.take (.take (.nil _))))))))), ?_⟩
        refine DL.takeP (i := 9) (v := .pointer (some ⟨b6, 1, none⟩)) rfl (by kernel_rfl) (by kernel_rfl) (by kernel_rfl) (fun _ _ _ h => h) rfl (fun _ => OpY.fieldAddr Tfo_77_1 rfl rfl) ?_
        refine DL.step (i := 10) (by kernel_rfl) (by kernel_rfl) rfl rfl (OpStep.store (us := [.int .i64 (((xf : Nat) : Int))]) Tsize_3 rfl rfl rfl (.here _) (by simp only [List.length_cons, List.length_nil]; omega) ?_)
        show DL _ _ _ _ _ _ _ _ [.blk b6 77 [.slice A_un1 n c_un1, .int .i64 (((xf : Nat) : Int)), .int .i64 (((i : Nat) : Int)), .int .i64 9, .int .i64 (((k / n : Nat) : Int)), .int .i64 (((k % n : Nat) : Int)), .int .i64 0], .own (.slice A_un1 n c_un1) 3 1 n (ints (nl (cx gk (k / n, k % n)))), .own (.slice (some ⟨gz, 0, none⟩) (zs2.length) cz) 77 7 (zs2.length) (ncells zs2), .grp 3 1 (ngp n zs2), .own (.slice (some ⟨b4, 0, none⟩) N N) 4 1 N (bls (metL N (ncd zs2))), .blk b2 77 [.slice A_uI1 n c_uI1, .int .i64 (((apF ms n : Nat) : Int)), .int .i64 (-1), .int .i64 0, .int .i64 0, .int .i64 0, .int .i64 0], .blk b1 28 [.slice Av n cv]]
        refine DL.done (by kernel_rfl) ?_
        refine Run.sr ?_
        refine Run.p (.slice (some ⟨b4, 0, none⟩) N N) rfl rfl ?_
        refine Run.y (.agg #[.slice A_un1 n c_un1, .int .i64 (((xf : Nat) : Int)), .int .i64 (((i : Nat) : Int)), .int .i64 9, .int .i64 (((k / n : Nat) : Int)), .int .i64 (((k % n : Nat) : Int)), .int .i64 0]) rfl (OpY.loadN (cs := [.slice A_un1 n c_un1, .int .i64 (((xf : Nat) : Int)), .int .i64 (((i : Nat) : Int)), .int .i64 9, .int .i64 (((k / n : Nat) : Int)), .int .i64 (((k % n : Nat) : Int)), .int .i64 0]) Tagg_77 rfl (Cells.blk (.head _) ⟨rfl, rfl, rfl, rfl, rfl, rfl, rfl, trivial⟩)) ?_
        refine Run.q (v := .int .i64 (((cdE (cx gk (k / n, k % n), xf) : Nat) : Int))) rfl (OpQ.call (vs := [.agg #[.slice A_un1 n c_un1, .int .i64 (((xf : Nat) : Int)), .int .i64 (((i : Nat) : Int)), .int .i64 9, .int .i64 (((k / n : Nat) : Int)), .int .i64 (((k % n : Nat) : Int)), .int .i64 0]]) (caps := []) Tcall_91 rfl rfl (fun w hs => (by have h := l14Code_spec (f := xf) (l := cx gk (k / n, k % n)) (c2 := (i : Int)) (c3 := 9) (c4 := ((k / n : Nat) : Int)) (c5 := ((k % n : Nat) : Int)) (c6 := 0) (by rw [hnk.1]; omega) hxf (mK8 h3 hnk.2.1) (by rw [hnk.1]; exact hs.slOwn (.tail _ (List.Mem.head _))); rw [show cdS xf (cx gk (k / n, k % n)) (cx gk (k / n, k % n)).length = cdE (cx gk (k / n, k % n), xf) from rfl] at h; exact h))) ?_
        refine Run.y (.pointer (some ⟨b4, cdE (cx gk (k / n, k % n), xf), none⟩)) rfl (OpY.index (kk := cdE (cx gk (k / n, k % n), xf)) Tsl_104 rfl rfl (by omega) (by omega) (by first | rfl | omega)) ?_
        refine Run.y (.bool (bx (metL N (ncd zs2)) (cdE (cx gk (k / n, k % n), xf)))) rfl (OpY.load1 Tone_4 rfl (Cells.own0 (.tail _ (.tail _ (.tail _ (.tail _ (List.Mem.head _))))) (preBl (by rw [metL_length]; omega)))) ?_
        refine Run.p (.bool (!(bx (metL N (ncd zs2)) (cdE (cx gk (k / n, k % n), xf))))) rfl rfl ?_
        refine Run.done ?_
        refine Run.cond (b := !(bx (metL N (ncd zs2)) (cdE (cx gk (k / n, k % n), xf)))) rfl (fun h120 => ?_) (fun h120 => ?_)
        ·have p120 := h120; try simp only [bs] at p120
         have hnin : (cx gk (k / n, k % n), xf) ∉ (nk zs2).map (·.1) := by have h := h120; rw [hbx] at h; simpa using h
         have hbv : brow (lstep n ms) (lok n) ((gk, gf), gp) (mQ n ms i) (k + 1) = nk zs2 ++ [((cx gk (k / n, k % n), xf), gp ++ [k])] := by rw [brow, ← hq2, bvis, hstp, if_pos ⟨by rw [lok, decide_eq_true_eq]; omega, hnin⟩]
         refine Run.sr ?_
         refine Run.p (.slice (some ⟨b4, 0, none⟩) N N) rfl rfl ?_
         refine Run.y (.agg #[.slice A_un1 n c_un1, .int .i64 (((xf : Nat) : Int)), .int .i64 (((i : Nat) : Int)), .int .i64 9, .int .i64 (((k / n : Nat) : Int)), .int .i64 (((k % n : Nat) : Int)), .int .i64 0]) rfl (OpY.loadN (cs := [.slice A_un1 n c_un1, .int .i64 (((xf : Nat) : Int)), .int .i64 (((i : Nat) : Int)), .int .i64 9, .int .i64 (((k / n : Nat) : Int)), .int .i64 (((k % n : Nat) : Int)), .int .i64 0]) Tagg_77 rfl (Cells.blk (.head _) ⟨rfl, rfl, rfl, rfl, rfl, rfl, rfl, trivial⟩)) ?_
         refine Run.q (v := .int .i64 (((cdE (cx gk (k / n, k % n), xf) : Nat) : Int))) rfl (OpQ.call (vs := [.agg #[.slice A_un1 n c_un1, .int .i64 (((xf : Nat) : Int)), .int .i64 (((i : Nat) : Int)), .int .i64 9, .int .i64 (((k / n : Nat) : Int)), .int .i64 (((k % n : Nat) : Int)), .int .i64 0]]) (caps := []) Tcall_91 rfl rfl (fun w hs => (by have h := l14Code_spec (f := xf) (l := cx gk (k / n, k % n)) (c2 := (i : Int)) (c3 := 9) (c4 := ((k / n : Nat) : Int)) (c5 := ((k % n : Nat) : Int)) (c6 := 0) (by rw [hnk.1]; omega) hxf (mK8 h3 hnk.2.1) (by rw [hnk.1]; exact hs.slOwn (.tail _ (List.Mem.head _))); rw [show cdS xf (cx gk (k / n, k % n)) (cx gk (k / n, k % n)).length = cdE (cx gk (k / n, k % n), xf) from rfl] at h; exact h))) ?_
         refine Run.y (.pointer (some ⟨b4, cdE (cx gk (k / n, k % n), xf), none⟩)) rfl (OpY.index (kk := cdE (cx gk (k / n, k % n), xf)) Tsl_104 rfl rfl (by omega) (by omega) (by first | rfl | omega)) ?_
         refine Run.step rfl (OpStep.storeOwn (us := [.bool true]) Tsize_4 rfl rfl rfl rfl (by rw [bls_set, ← metL_snoc]; exact (.there _ (.there _ (.there _ (.there _ (.here _)))))) (by simp only [List.length_cons, List.length_nil]; omega) ?_)
         refine Run.dr ?_
         refine Run.p (.slice (some ⟨gz, 0, none⟩) (zs2.length) cz) rfl rfl ?_
         refine Run.y (.agg #[.slice A_un1 n c_un1, .int .i64 (((xf : Nat) : Int)), .int .i64 (((i : Nat) : Int)), .int .i64 9, .int .i64 (((k / n : Nat) : Int)), .int .i64 (((k % n : Nat) : Int)), .int .i64 0]) rfl (OpY.loadN (cs := [.slice A_un1 n c_un1, .int .i64 (((xf : Nat) : Int)), .int .i64 (((i : Nat) : Int)), .int .i64 9, .int .i64 (((k / n : Nat) : Int)), .int .i64 (((k % n : Nat) : Int)), .int .i64 0]) Tagg_77 rfl (Cells.blk (.head _) ⟨rfl, rfl, rfl, rfl, rfl, rfl, rfl, trivial⟩)) ?_
         refine Run.step rfl (OpStep.buildSlice (us := [.slice A_un1 n c_un1, .int .i64 (((xf : Nat) : Int)), .int .i64 (((i : Nat) : Int)), .int .i64 9, .int .i64 (((k / n : Nat) : Int)), .int .i64 (((k % n : Nat) : Int)), .int .i64 0]) Tsl_67 (by decide) (by decide) ⟨rfl, [.slice A_un1 n c_un1, .int .i64 (((xf : Nat) : Int)), .int .i64 (((i : Nat) : Int)), .int .i64 9, .int .i64 (((k / n : Nat) : Int)), .int .i64 (((k % n : Nat) : Int)), .int .i64 0], _, rfl, rfl, rfl, rfl⟩ rfl fun b7 => ?_)
         refine Run.step rfl (OpStep.append (H1 := [.own (.slice (some ⟨b7, 0, none⟩) 1 1) 77 7 1 ([.slice A_un1 n c_un1, .int .i64 (((xf : Nat) : Int)), .int .i64 (((i : Nat) : Int)), .int .i64 9, .int .i64 (((k / n : Nat) : Int)), .int .i64 (((k % n : Nat) : Int)), .int .i64 0]), .blk b6 77 [.slice A_un1 n c_un1, .int .i64 (((xf : Nat) : Int)), .int .i64 (((i : Nat) : Int)), .int .i64 9, .int .i64 (((k / n : Nat) : Int)), .int .i64 (((k % n : Nat) : Int)), .int .i64 0], .own (.slice A_un1 n c_un1) 3 1 n (ints (nl (cx gk (k / n, k % n))))]) (H2 := [.grp 3 1 (ngp n zs2), .own (.slice (some ⟨b4, 0, none⟩) N N) 4 1 N (bls (metL N ((ncd zs2 ++ [cdE (cx gk (k / n, k % n), xf)])))), .blk b2 77 [.slice A_uI1 n c_uI1, .int .i64 (((apF ms n : Nat) : Int)), .int .i64 (-1), .int .i64 0, .int .i64 0, .int .i64 0, .int .i64 0], .blk b1 28 [.slice Av n cv]]) (v := .slice (some ⟨gz, 0, none⟩) (zs2.length) cz) (u := .slice (some ⟨b7, 0, none⟩) 1 1) (n := zs2.length) (m := 1) (xs := ncells zs2) (ys := [.slice A_un1 n c_un1, .int .i64 (((xf : Nat) : Int)), .int .i64 (((i : Nat) : Int)), .int .i64 9, .int .i64 (((k / n : Nat) : Int)), .int .i64 (((k % n : Nat) : Int)), .int .i64 0]) Tsl_67 (by decide) rfl rfl rfl rfl (fun w hs => hs.slOwn (.head _)) (by simp [Value.oneCell']) (by omega) (by simp only [maxLen]; omega) fun av2 hnav2 => ?_)
         refine Run.weak (H' := [.own (.slice (some ⟨b7, 0, none⟩) 1 1) 77 7 1 ([.slice A_un1 n c_un1, .int .i64 (((xf : Nat) : Int)), .int .i64 (((i : Nat) : Int)), .int .i64 9, .int .i64 (((k / n : Nat) : Int)), .int .i64 (((k % n : Nat) : Int)), .int .i64 0]), .blk b6 77 [.slice A_un1 n c_un1, .int .i64 (((xf : Nat) : Int)), .int .i64 (((i : Nat) : Int)), .int .i64 9, .int .i64 (((k / n : Nat) : Int)), .int .i64 (((k % n : Nat) : Int)), .int .i64 0], .own (.slice A_un1 n c_un1) 3 1 n (ints (nl (cx gk (k / n, k % n)))), .own av2 77 7 ((zs2 ++ [((.slice A_un1 n c_un1 : Value), (((cx gk (k / n, k % n), xf), gp ++ [k]), ((i : Int), gt3 n k)))] : List NZ).length) (ncells (zs2 ++ [((.slice A_un1 n c_un1 : Value), (((cx gk (k / n, k % n), xf), gp ++ [k]), ((i : Int), gt3 n k)))])), .grp 3 1 (ngp n zs2), .own (.slice (some ⟨b4, 0, none⟩) N N) 4 1 N (bls (metL N ((ncd zs2 ++ [cdE (cx gk (k / n, k % n), xf)])))), .blk b2 77 [.slice A_uI1 n c_uI1, .int .i64 (((apF ms n : Nat) : Int)), .int .i64 (-1), .int .i64 0, .int .i64 0, .int .i64 0, .int .i64 0], .blk b1 28 [.slice Av n cv]]) (Some'.weak (.take (.take (.take (.takeEq (by rw [← ncells_snoc]; exact congrArg (fun k => Res.own _ _ _ k _) (by simp)) (.take (.take (.take (.take (.nil _)))))))))) ?_ ⟨_, _, rfl, fun _ => nofun, fun _ => nofun⟩
         refine Run.weak (H' := [.grp 3 1 (ngp n (zs2 ++ [((.slice A_un1 n c_un1 : Value), (((cx gk (k / n, k % n), xf), gp ++ [k]), ((i : Int), gt3 n k)))])), .own (.slice (some ⟨b7, 0, none⟩) 1 1) 77 7 1 ([.slice A_un1 n c_un1, .int .i64 (((xf : Nat) : Int)), .int .i64 (((i : Nat) : Int)), .int .i64 9, .int .i64 (((k / n : Nat) : Int)), .int .i64 (((k % n : Nat) : Int)), .int .i64 0]), .blk b6 77 [.slice A_un1 n c_un1, .int .i64 (((xf : Nat) : Int)), .int .i64 (((i : Nat) : Int)), .int .i64 9, .int .i64 (((k / n : Nat) : Int)), .int .i64 (((k % n : Nat) : Int)), .int .i64 0], .own av2 77 7 ((zs2 ++ [((.slice A_un1 n c_un1 : Value), (((cx gk (k / n, k % n), xf), gp ++ [k]), ((i : Int), gt3 n k)))] : List NZ).length) (ncells (zs2 ++ [((.slice A_un1 n c_un1 : Value), (((cx gk (k / n, k % n), xf), gp ++ [k]), ((i : Int), gt3 n k)))])), .own (.slice (some ⟨b4, 0, none⟩) N N) 4 1 N (bls (metL N ((ncd zs2 ++ [cdE (cx gk (k / n, k % n), xf)])))), .blk b2 77 [.slice A_uI1 n c_uI1, .int .i64 (((apF ms n : Nat) : Int)), .int .i64 (-1), .int .i64 0, .int .i64 0, .int .i64 0, .int .i64 0], .blk b1 28 [.slice Av n cv]]) ((Weak.selF [2, 3]).trans (Weak.ngSnoc (k := (cx gk (k / n, k % n), xf)) (p := gp ++ [k]))) ?_ ⟨_, _, rfl, fun _ => nofun, fun _ => nofun⟩
         refine Run.p (av2) rfl rfl ?_
         refine Run.done ?_
         refine Run.blockEnd ?_
         refine Run.region ?_
         refine Run.p (.int .i64 (((k : Nat) : Int))) rfl rfl ?_
         refine Run.y (.int .i64 ((((k : Nat) : Int)) + 1)) rfl (OpY.add rfl rfl rfl (by omega) (by omega)) ?_
         refine Run.p (.int .i64 ((((k : Nat) : Int)) + 1)) rfl rfl ?_
         refine Run.done ?_
         refine Run.goal ⟨(by repeat (first | exact Same.refl _ _ | refine Same.put rfl ?_ | refine Same.over rfl rfl ?_)), (k + 1, av2, (zs2 ++ [((.slice A_un1 n c_un1 : Value), (((cx gk (k / n, k % n), xf), gp ++ [k]), ((i : Int), gt3 n k)))])), ?_, ?_, ?_, ?_⟩
         ·first | exact ⟨hkn, hbv.symm, hlk2, t2, ht2⟩ | exact ⟨hkn, by rw [hbv]; simp [nk], hlk2.snoc hz2 rfl rfl, t2 ++ [_], by rw [ht2, List.append_assoc]⟩
         ·show n * n - (k + 1) < n * n - k; omega
         ·exact ⟨(by first | rfl | (congr 1; omega) | simp), (by first | rfl | (congr 1; omega) | simp), trivial⟩
         ·exact ((Weak.selF [3, 0, 2, 2, 2]).trans (Some'.weak (.takeEq (by first | rfl | simp [ncd]) (.takeEq (by first | rfl | simp [ncd]) (.takeEq (by first | rfl | simp [ncd]) (.take (.take (.nil _))))))))
        ·have p120 := h120; try simp only [bs] at p120
         have hyin : (cx gk (k / n, k % n), xf) ∈ (nk zs2).map (·.1) := by have h := h120; rw [hbx] at h; simpa using h
         have hbv : brow (lstep n ms) (lok n) ((gk, gf), gp) (mQ n ms i) (k + 1) = nk zs2 := by rw [brow, ← hq2, bvis, hstp, if_neg (fun h => h.2 hyin)]
         refine Run.skip ?_
         refine Run.blockEnd ?_
         refine Run.region ?_
         refine Run.p (.int .i64 (((k : Nat) : Int))) rfl rfl ?_
         refine Run.y (.int .i64 ((((k : Nat) : Int)) + 1)) rfl (OpY.add rfl rfl rfl (by omega) (by omega)) ?_
         refine Run.p (.int .i64 ((((k : Nat) : Int)) + 1)) rfl rfl ?_
         refine Run.done ?_
         refine Run.goal ⟨(by repeat (first | exact Same.refl _ _ | refine Same.put rfl ?_ | refine Same.over rfl rfl ?_)), (k + 1, .slice (some ⟨gz, 0, none⟩) (zs2.length) cz, zs2), ?_, ?_, ?_, ?_⟩
         ·first | exact ⟨hkn, hbv.symm, hlk2, t2, ht2⟩ | exact ⟨hkn, by rw [hbv]; simp [nk], hlk2.snoc hz2 rfl rfl, t2 ++ [_], by rw [ht2, List.append_assoc]⟩
         ·show n * n - (k + 1) < n * n - k; omega
         ·exact ⟨(by first | rfl | (congr 1; omega) | simp), (by first | rfl | (congr 1; omega) | simp), trivial⟩
         ·exact ((Weak.selF [2, 2, 2, 2, 2]).trans (Some'.weak (.takeEq (by first | rfl | simp [ncd]) (.takeEq (by first | rfl | simp [ncd]) (.takeEq (by first | rfl | simp [ncd]) (.take (.take (.nil _))))))))
       ·refine OpStep.alloc (zs := [.slice none 0 0, .int .i64 0, .int .i64 0, .int .i64 0, .int .i64 0, .int .i64 0, .int .i64 0]) Tzero_77 fun b8 => ?_
        refine ⟨(Some'.weak (.skip (.take (.take (.take (.take (.take (.nil _)))))))), ?_⟩
        refine DW.step (i := 11) (by kernel_rfl) rfl rfl (OpStep.call (vs := [.agg #[.slice gA n gc], .int .i64 (((k / n : Nat) : Int)), .int .i64 (((k % n : Nat) : Int))]) (caps := []) Tcall_71 rfl rfl (fun w hs => (by have h := l12CX_spec (l := gk) (a := k / n) (b := k % n) (by rw [hgk.1]; omega) (by rw [hgk.1]; exact hg1) (by rw [hgk.1]; exact hg2) (fun j => by have h : nx gk j < 8 := mK8 h3 hgk.2.1 j; omega) (by rw [hgk.1]; exact hs.slGrpR (p := nm n ((.slice gA n gc : Value), (((gk, gf), gp), (gr, (g1, (g2, g3)))))) (.tail _ (.tail _ (List.Mem.head _))) (ng_mem hzm2)); rw [hgk.1] at h; exact h)) ?_)
        rintro _ _ ⟨un, rfl, rfl⟩
        refine ⟨(Some'.weak (.skip (.skip (.take (.take (.take (.take (.take (.nil _))))))))), ?_⟩
        refine DW.formOwn (.head _) (fun A_un2 c_un2 hv hcapc_un2 hmaxc_un2 => ?_)
        subst hv
        refine DW.take (i := 20) (v := .agg #[.slice A_un2 n c_un2, .int .i64 0, .int .i64 (((i : Nat) : Int)), .int .i64 9, .int .i64 (((k / n : Nat) : Int)), .int .i64 (((k % n : Nat) : Int)), .int .i64 0]) rfl (by kernel_rfl) (by kernel_rfl) (by kernel_rfl) (fun _ _ _ h => h) (Some'.weak (.skip (.skip (.take (.take (.take (.take (.take (.nil _))))))))) rfl (OpY.build (cs := [.slice A_un2 n c_un2, .int .i64 0, .int .i64 (((i : Nat) : Int)), .int .i64 9, .int .i64 (((k / n : Nat) : Int)), .int .i64 (((k % n : Nat) : Int)), .int .i64 0]) (by kernel_rfl)) ?_
        refine DW.step (i := 22) (by kernel_rfl) rfl rfl (OpStep.storeAll (us := [.slice A_un2 n c_un2, .int .i64 0, .int .i64 (((i : Nat) : Int)), .int .i64 9, .int .i64 (((k / n : Nat) : Int)), .int .i64 (((k % n : Nat) : Int)), .int .i64 0]) Tsize_77 rfl rfl rfl (.there _ (.here _)) rfl ?_)
        refine ⟨(Some'.weak (.skip (.skip (.take (.take (.take (.take (.take (.nil _))))))))), ?_⟩
        refine DW.done (by kernel_rfl) ?_
        refine Run.seq ?_
        refine Run.lastlyB [10] [.own (.slice A_un2 n c_un2) 3 1 n (ints (nl (cx gk (k / n, k % n)))), .blk b8 77 [.slice A_un2 n c_un2, .int .i64 0, .int .i64 (((i : Nat) : Int)), .int .i64 9, .int .i64 (((k / n : Nat) : Int)), .int .i64 (((k % n : Nat) : Int)), .int .i64 0], .own (.slice (some ⟨gz, 0, none⟩) (zs2.length) cz) 77 7 (zs2.length) (ncells zs2), .grp 3 1 (ngp n zs2), .own (.slice (some ⟨b4, 0, none⟩) N N) 4 1 N (bls (metL N (ncd zs2))), .blk b2 77 [.slice A_uI1 n c_uI1, .int .i64 (((apF ms n : Nat) : Int)), .int .i64 (-1), .int .i64 0, .int .i64 0, .int .i64 0, .int .i64 0], .blk b1 28 [.slice Av n cv]] (by kernel_rfl) ?_
        refine DL.takeP (i := 0) (v := .slice (some ⟨gz, 0, none⟩) (zs2.length) cz) rfl (by kernel_rfl) (by kernel_rfl) (by kernel_rfl) (fun _ _ _ h => h) rfl (fun _ => OpY.pure rfl) ?_
        refine DL.takeP (i := 1) (v := .int .i64 (((i : Nat) : Int))) rfl (by kernel_rfl) (by kernel_rfl) (by kernel_rfl) (fun _ _ _ h => h) rfl (fun _ => OpY.pure rfl) ?_
        refine DL.takeP (i := 2) (v := .pointer (some ⟨gz, i * 7, none⟩)) rfl (by kernel_rfl) (by kernel_rfl) (by kernel_rfl) (fun _ _ _ h => h) rfl (fun _ => OpY.index (kk := i) Tsl_67 rfl rfl (by omega) (by omega) (by first | rfl | omega)) ?_
        refine DL.takeP (i := 3) (v := .pointer (some ⟨gz, i * 7 + 1, none⟩)) rfl (by kernel_rfl) (by kernel_rfl) (by kernel_rfl) (fun _ _ _ h => h) rfl (fun _ => OpY.fieldAddr Tfo_77_1 rfl rfl) ?_
        refine DL.take (i := 4) (v := .int .i64 (((gf : Nat) : Int))) rfl (by kernel_rfl) (by kernel_rfl) (by kernel_rfl) (by kernel_rfl) (fun _ _ _ h => h) (Some'.weak (.take (.take (.take (.take (.take (.take (.take (.nil _))))))))) rfl (OpY.load1 Tone_3 rfl (Cells.own0 (.tail _ (.tail _ (List.Mem.head _))) (preN_sub (o := 1) (preN hz2) rfl))) ?_
        refine DL.takeP (i := 5) (v := .pointer (some ⟨b8, 0, none⟩)) rfl (by kernel_rfl) (by kernel_rfl) (by kernel_rfl) (fun _ _ _ h => h) rfl (fun _ => OpY.fieldAddr Tfo_77_0 rfl rfl) ?_
        refine DL.take (i := 6) (v := .agg #[.slice A_un2 n c_un2]) rfl (by kernel_rfl) (by kernel_rfl) (by kernel_rfl) (by kernel_rfl) (fun _ _ _ h => h) (Some'.weak (.take (.take (.take (.take (.take (.take (.take (.nil _))))))))) rfl (OpY.loadN (cs := [.slice A_un2 n c_un2]) Tagg_28 rfl (Cells.blk (.tail _ (List.Mem.head _)) ⟨rfl, trivial⟩)) ?_
        refine DL.takeP (i := 7) (v := .slice Am (ms.length) cm) rfl (by kernel_rfl) (by kernel_rfl) (by kernel_rfl) (fun _ _ _ h => h) rfl (fun _ => OpY.pure rfl) ?_
        refine DL.stepS (i := 8) (by kernel_rfl) rfl rfl (OpStep.q (v := .int .i64 (((xf : Nat) : Int))) (OpQ.call (vs := [.int .i64 (((gf : Nat) : Int)), .agg #[.slice A_un2 n c_un2], .slice Am (ms.length) cm]) (caps := []) Tcall_90 rfl rfl (fun w hs => (by have h := l14Seen_spec (f := gf) (l := cx gk (k / n, k % n)) hm7 hgk.2.2 (by rw [hnk.1]; exact hs.slOwn (.head _)) (hs.sl hms); rw [hsx] at h; exact h))) ?_)
        refine ⟨(Some'.weak (.take (.take (.take (.take (.take (.take (.take (.nil _))))))))), ?_⟩
        refine DL.takeP (i := 9) (v := .pointer (some ⟨b8, 1, none⟩)) rfl (by kernel_rfl) (by kernel_rfl) (by kernel_rfl) (fun _ _ _ h => h) rfl (fun _ => OpY.fieldAddr Tfo_77_1 rfl rfl) ?_
        refine DL.step (i := 10) (by kernel_rfl) (by kernel_rfl) rfl rfl (OpStep.store (us := [.int .i64 (((xf : Nat) : Int))]) Tsize_3 rfl rfl rfl (.there _ (.here _)) (by simp only [List.length_cons, List.length_nil]; omega) ?_)
        show DL _ _ _ _ _ _ _ _ [.own (.slice A_un2 n c_un2) 3 1 n (ints (nl (cx gk (k / n, k % n)))), .blk b8 77 [.slice A_un2 n c_un2, .int .i64 (((xf : Nat) : Int)), .int .i64 (((i : Nat) : Int)), .int .i64 9, .int .i64 (((k / n : Nat) : Int)), .int .i64 (((k % n : Nat) : Int)), .int .i64 0], .own (.slice (some ⟨gz, 0, none⟩) (zs2.length) cz) 77 7 (zs2.length) (ncells zs2), .grp 3 1 (ngp n zs2), .own (.slice (some ⟨b4, 0, none⟩) N N) 4 1 N (bls (metL N (ncd zs2))), .blk b2 77 [.slice A_uI1 n c_uI1, .int .i64 (((apF ms n : Nat) : Int)), .int .i64 (-1), .int .i64 0, .int .i64 0, .int .i64 0, .int .i64 0], .blk b1 28 [.slice Av n cv]]
        refine DL.done (by kernel_rfl) ?_
        refine Run.sr ?_
        refine Run.p (.slice (some ⟨b4, 0, none⟩) N N) rfl rfl ?_
        refine Run.y (.agg #[.slice A_un2 n c_un2, .int .i64 (((xf : Nat) : Int)), .int .i64 (((i : Nat) : Int)), .int .i64 9, .int .i64 (((k / n : Nat) : Int)), .int .i64 (((k % n : Nat) : Int)), .int .i64 0]) rfl (OpY.loadN (cs := [.slice A_un2 n c_un2, .int .i64 (((xf : Nat) : Int)), .int .i64 (((i : Nat) : Int)), .int .i64 9, .int .i64 (((k / n : Nat) : Int)), .int .i64 (((k % n : Nat) : Int)), .int .i64 0]) Tagg_77 rfl (Cells.blk (.tail _ (List.Mem.head _)) ⟨rfl, rfl, rfl, rfl, rfl, rfl, rfl, trivial⟩)) ?_
        refine Run.q (v := .int .i64 (((cdE (cx gk (k / n, k % n), xf) : Nat) : Int))) rfl (OpQ.call (vs := [.agg #[.slice A_un2 n c_un2, .int .i64 (((xf : Nat) : Int)), .int .i64 (((i : Nat) : Int)), .int .i64 9, .int .i64 (((k / n : Nat) : Int)), .int .i64 (((k % n : Nat) : Int)), .int .i64 0]]) (caps := []) Tcall_91 rfl rfl (fun w hs => (by have h := l14Code_spec (f := xf) (l := cx gk (k / n, k % n)) (c2 := (i : Int)) (c3 := 9) (c4 := ((k / n : Nat) : Int)) (c5 := ((k % n : Nat) : Int)) (c6 := 0) (by rw [hnk.1]; omega) hxf (mK8 h3 hnk.2.1) (by rw [hnk.1]; exact hs.slOwn (.head _)); rw [show cdS xf (cx gk (k / n, k % n)) (cx gk (k / n, k % n)).length = cdE (cx gk (k / n, k % n), xf) from rfl] at h; exact h))) ?_
        refine Run.y (.pointer (some ⟨b4, cdE (cx gk (k / n, k % n), xf), none⟩)) rfl (OpY.index (kk := cdE (cx gk (k / n, k % n), xf)) Tsl_104 rfl rfl (by omega) (by omega) (by first | rfl | omega)) ?_
        refine Run.y (.bool (bx (metL N (ncd zs2)) (cdE (cx gk (k / n, k % n), xf)))) rfl (OpY.load1 Tone_4 rfl (Cells.own0 (.tail _ (.tail _ (.tail _ (.tail _ (List.Mem.head _))))) (preBl (by rw [metL_length]; omega)))) ?_
        refine Run.p (.bool (!(bx (metL N (ncd zs2)) (cdE (cx gk (k / n, k % n), xf))))) rfl rfl ?_
        refine Run.done ?_
        refine Run.cond (b := !(bx (metL N (ncd zs2)) (cdE (cx gk (k / n, k % n), xf)))) rfl (fun h120 => ?_) (fun h120 => ?_)
        ·have p120 := h120; try simp only [bs] at p120
         have hnin : (cx gk (k / n, k % n), xf) ∉ (nk zs2).map (·.1) := by have h := h120; rw [hbx] at h; simpa using h
         have hbv : brow (lstep n ms) (lok n) ((gk, gf), gp) (mQ n ms i) (k + 1) = nk zs2 ++ [((cx gk (k / n, k % n), xf), gp ++ [k])] := by rw [brow, ← hq2, bvis, hstp, if_pos ⟨by rw [lok, decide_eq_true_eq]; omega, hnin⟩]
         refine Run.sr ?_
         refine Run.p (.slice (some ⟨b4, 0, none⟩) N N) rfl rfl ?_
         refine Run.y (.agg #[.slice A_un2 n c_un2, .int .i64 (((xf : Nat) : Int)), .int .i64 (((i : Nat) : Int)), .int .i64 9, .int .i64 (((k / n : Nat) : Int)), .int .i64 (((k % n : Nat) : Int)), .int .i64 0]) rfl (OpY.loadN (cs := [.slice A_un2 n c_un2, .int .i64 (((xf : Nat) : Int)), .int .i64 (((i : Nat) : Int)), .int .i64 9, .int .i64 (((k / n : Nat) : Int)), .int .i64 (((k % n : Nat) : Int)), .int .i64 0]) Tagg_77 rfl (Cells.blk (.tail _ (List.Mem.head _)) ⟨rfl, rfl, rfl, rfl, rfl, rfl, rfl, trivial⟩)) ?_
         refine Run.q (v := .int .i64 (((cdE (cx gk (k / n, k % n), xf) : Nat) : Int))) rfl (OpQ.call (vs := [.agg #[.slice A_un2 n c_un2, .int .i64 (((xf : Nat) : Int)), .int .i64 (((i : Nat) : Int)), .int .i64 9, .int .i64 (((k / n : Nat) : Int)), .int .i64 (((k % n : Nat) : Int)), .int .i64 0]]) (caps := []) Tcall_91 rfl rfl (fun w hs => (by have h := l14Code_spec (f := xf) (l := cx gk (k / n, k % n)) (c2 := (i : Int)) (c3 := 9) (c4 := ((k / n : Nat) : Int)) (c5 := ((k % n : Nat) : Int)) (c6 := 0) (by rw [hnk.1]; omega) hxf (mK8 h3 hnk.2.1) (by rw [hnk.1]; exact hs.slOwn (.head _)); rw [show cdS xf (cx gk (k / n, k % n)) (cx gk (k / n, k % n)).length = cdE (cx gk (k / n, k % n), xf) from rfl] at h; exact h))) ?_
         refine Run.y (.pointer (some ⟨b4, cdE (cx gk (k / n, k % n), xf), none⟩)) rfl (OpY.index (kk := cdE (cx gk (k / n, k % n), xf)) Tsl_104 rfl rfl (by omega) (by omega) (by first | rfl | omega)) ?_
         refine Run.step rfl (OpStep.storeOwn (us := [.bool true]) Tsize_4 rfl rfl rfl rfl (by rw [bls_set, ← metL_snoc]; exact (.there _ (.there _ (.there _ (.there _ (.here _)))))) (by simp only [List.length_cons, List.length_nil]; omega) ?_)
         refine Run.dr ?_
         refine Run.p (.slice (some ⟨gz, 0, none⟩) (zs2.length) cz) rfl rfl ?_
         refine Run.y (.agg #[.slice A_un2 n c_un2, .int .i64 (((xf : Nat) : Int)), .int .i64 (((i : Nat) : Int)), .int .i64 9, .int .i64 (((k / n : Nat) : Int)), .int .i64 (((k % n : Nat) : Int)), .int .i64 0]) rfl (OpY.loadN (cs := [.slice A_un2 n c_un2, .int .i64 (((xf : Nat) : Int)), .int .i64 (((i : Nat) : Int)), .int .i64 9, .int .i64 (((k / n : Nat) : Int)), .int .i64 (((k % n : Nat) : Int)), .int .i64 0]) Tagg_77 rfl (Cells.blk (.tail _ (List.Mem.head _)) ⟨rfl, rfl, rfl, rfl, rfl, rfl, rfl, trivial⟩)) ?_
         refine Run.step rfl (OpStep.buildSlice (us := [.slice A_un2 n c_un2, .int .i64 (((xf : Nat) : Int)), .int .i64 (((i : Nat) : Int)), .int .i64 9, .int .i64 (((k / n : Nat) : Int)), .int .i64 (((k % n : Nat) : Int)), .int .i64 0]) Tsl_67 (by decide) (by decide) ⟨rfl, [.slice A_un2 n c_un2, .int .i64 (((xf : Nat) : Int)), .int .i64 (((i : Nat) : Int)), .int .i64 9, .int .i64 (((k / n : Nat) : Int)), .int .i64 (((k % n : Nat) : Int)), .int .i64 0], _, rfl, rfl, rfl, rfl⟩ rfl fun b9 => ?_)
         refine Run.step rfl (OpStep.append (H1 := [.own (.slice (some ⟨b9, 0, none⟩) 1 1) 77 7 1 ([.slice A_un2 n c_un2, .int .i64 (((xf : Nat) : Int)), .int .i64 (((i : Nat) : Int)), .int .i64 9, .int .i64 (((k / n : Nat) : Int)), .int .i64 (((k % n : Nat) : Int)), .int .i64 0]), .own (.slice A_un2 n c_un2) 3 1 n (ints (nl (cx gk (k / n, k % n)))), .blk b8 77 [.slice A_un2 n c_un2, .int .i64 (((xf : Nat) : Int)), .int .i64 (((i : Nat) : Int)), .int .i64 9, .int .i64 (((k / n : Nat) : Int)), .int .i64 (((k % n : Nat) : Int)), .int .i64 0]]) (H2 := [.grp 3 1 (ngp n zs2), .own (.slice (some ⟨b4, 0, none⟩) N N) 4 1 N (bls (metL N ((ncd zs2 ++ [cdE (cx gk (k / n, k % n), xf)])))), .blk b2 77 [.slice A_uI1 n c_uI1, .int .i64 (((apF ms n : Nat) : Int)), .int .i64 (-1), .int .i64 0, .int .i64 0, .int .i64 0, .int .i64 0], .blk b1 28 [.slice Av n cv]]) (v := .slice (some ⟨gz, 0, none⟩) (zs2.length) cz) (u := .slice (some ⟨b9, 0, none⟩) 1 1) (n := zs2.length) (m := 1) (xs := ncells zs2) (ys := [.slice A_un2 n c_un2, .int .i64 (((xf : Nat) : Int)), .int .i64 (((i : Nat) : Int)), .int .i64 9, .int .i64 (((k / n : Nat) : Int)), .int .i64 (((k % n : Nat) : Int)), .int .i64 0]) Tsl_67 (by decide) rfl rfl rfl rfl (fun w hs => hs.slOwn (.head _)) (by simp [Value.oneCell']) (by omega) (by simp only [maxLen]; omega) fun av3 hnav3 => ?_)
         refine Run.weak (H' := [.own (.slice (some ⟨b9, 0, none⟩) 1 1) 77 7 1 ([.slice A_un2 n c_un2, .int .i64 (((xf : Nat) : Int)), .int .i64 (((i : Nat) : Int)), .int .i64 9, .int .i64 (((k / n : Nat) : Int)), .int .i64 (((k % n : Nat) : Int)), .int .i64 0]), .own (.slice A_un2 n c_un2) 3 1 n (ints (nl (cx gk (k / n, k % n)))), .blk b8 77 [.slice A_un2 n c_un2, .int .i64 (((xf : Nat) : Int)), .int .i64 (((i : Nat) : Int)), .int .i64 9, .int .i64 (((k / n : Nat) : Int)), .int .i64 (((k % n : Nat) : Int)), .int .i64 0], .own av3 77 7 ((zs2 ++ [((.slice A_un2 n c_un2 : Value), (((cx gk (k / n, k % n), xf), gp ++ [k]), ((i : Int), gt3 n k)))] : List NZ).length) (ncells (zs2 ++ [((.slice A_un2 n c_un2 : Value), (((cx gk (k / n, k % n), xf), gp ++ [k]), ((i : Int), gt3 n k)))])), .grp 3 1 (ngp n zs2), .own (.slice (some ⟨b4, 0, none⟩) N N) 4 1 N (bls (metL N ((ncd zs2 ++ [cdE (cx gk (k / n, k % n), xf)])))), .blk b2 77 [.slice A_uI1 n c_uI1, .int .i64 (((apF ms n : Nat) : Int)), .int .i64 (-1), .int .i64 0, .int .i64 0, .int .i64 0, .int .i64 0], .blk b1 28 [.slice Av n cv]]) (Some'.weak (.take (.take (.take (.takeEq (by rw [← ncells_snoc]; exact congrArg (fun k => Res.own _ _ _ k _) (by simp)) (.take (.take (.take (.take (.nil _)))))))))) ?_ ⟨_, _, rfl, fun _ => nofun, fun _ => nofun⟩
         refine Run.weak (H' := [.grp 3 1 (ngp n (zs2 ++ [((.slice A_un2 n c_un2 : Value), (((cx gk (k / n, k % n), xf), gp ++ [k]), ((i : Int), gt3 n k)))])), .own (.slice (some ⟨b9, 0, none⟩) 1 1) 77 7 1 ([.slice A_un2 n c_un2, .int .i64 (((xf : Nat) : Int)), .int .i64 (((i : Nat) : Int)), .int .i64 9, .int .i64 (((k / n : Nat) : Int)), .int .i64 (((k % n : Nat) : Int)), .int .i64 0]), .blk b8 77 [.slice A_un2 n c_un2, .int .i64 (((xf : Nat) : Int)), .int .i64 (((i : Nat) : Int)), .int .i64 9, .int .i64 (((k / n : Nat) : Int)), .int .i64 (((k % n : Nat) : Int)), .int .i64 0], .own av3 77 7 ((zs2 ++ [((.slice A_un2 n c_un2 : Value), (((cx gk (k / n, k % n), xf), gp ++ [k]), ((i : Int), gt3 n k)))] : List NZ).length) (ncells (zs2 ++ [((.slice A_un2 n c_un2 : Value), (((cx gk (k / n, k % n), xf), gp ++ [k]), ((i : Int), gt3 n k)))])), .own (.slice (some ⟨b4, 0, none⟩) N N) 4 1 N (bls (metL N ((ncd zs2 ++ [cdE (cx gk (k / n, k % n), xf)])))), .blk b2 77 [.slice A_uI1 n c_uI1, .int .i64 (((apF ms n : Nat) : Int)), .int .i64 (-1), .int .i64 0, .int .i64 0, .int .i64 0, .int .i64 0], .blk b1 28 [.slice Av n cv]]) ((Weak.selF [1, 3]).trans (Weak.ngSnoc (k := (cx gk (k / n, k % n), xf)) (p := gp ++ [k]))) ?_ ⟨_, _, rfl, fun _ => nofun, fun _ => nofun⟩
         refine Run.p (av3) rfl rfl ?_
         refine Run.done ?_
         refine Run.blockEnd ?_
         refine Run.region ?_
         refine Run.p (.int .i64 (((k : Nat) : Int))) rfl rfl ?_
         refine Run.y (.int .i64 ((((k : Nat) : Int)) + 1)) rfl (OpY.add rfl rfl rfl (by omega) (by omega)) ?_
         refine Run.p (.int .i64 ((((k : Nat) : Int)) + 1)) rfl rfl ?_
         refine Run.done ?_
         refine Run.goal ⟨(by repeat (first | exact Same.refl _ _ | refine Same.put rfl ?_ | refine Same.over rfl rfl ?_)), (k + 1, av3, (zs2 ++ [((.slice A_un2 n c_un2 : Value), (((cx gk (k / n, k % n), xf), gp ++ [k]), ((i : Int), gt3 n k)))])), ?_, ?_, ?_, ?_⟩
         ·first | exact ⟨hkn, hbv.symm, hlk2, t2, ht2⟩ | exact ⟨hkn, by rw [hbv]; simp [nk], hlk2.snoc hz2 rfl rfl, t2 ++ [_], by rw [ht2, List.append_assoc]⟩
         ·show n * n - (k + 1) < n * n - k; omega
         ·exact ⟨(by first | rfl | (congr 1; omega) | simp), (by first | rfl | (congr 1; omega) | simp), trivial⟩
         ·exact ((Weak.selF [3, 0, 2, 2, 2]).trans (Some'.weak (.takeEq (by first | rfl | simp [ncd]) (.takeEq (by first | rfl | simp [ncd]) (.takeEq (by first | rfl | simp [ncd]) (.take (.take (.nil _))))))))
        ·have p120 := h120; try simp only [bs] at p120
         have hyin : (cx gk (k / n, k % n), xf) ∈ (nk zs2).map (·.1) := by have h := h120; rw [hbx] at h; simpa using h
         have hbv : brow (lstep n ms) (lok n) ((gk, gf), gp) (mQ n ms i) (k + 1) = nk zs2 := by rw [brow, ← hq2, bvis, hstp, if_neg (fun h => h.2 hyin)]
         refine Run.skip ?_
         refine Run.blockEnd ?_
         refine Run.region ?_
         refine Run.p (.int .i64 (((k : Nat) : Int))) rfl rfl ?_
         refine Run.y (.int .i64 ((((k : Nat) : Int)) + 1)) rfl (OpY.add rfl rfl rfl (by omega) (by omega)) ?_
         refine Run.p (.int .i64 ((((k : Nat) : Int)) + 1)) rfl rfl ?_
         refine Run.done ?_
         refine Run.goal ⟨(by repeat (first | exact Same.refl _ _ | refine Same.put rfl ?_ | refine Same.over rfl rfl ?_)), (k + 1, .slice (some ⟨gz, 0, none⟩) (zs2.length) cz, zs2), ?_, ?_, ?_, ?_⟩
         ·first | exact ⟨hkn, hbv.symm, hlk2, t2, ht2⟩ | exact ⟨hkn, by rw [hbv]; simp [nk], hlk2.snoc hz2 rfl rfl, t2 ++ [_], by rw [ht2, List.append_assoc]⟩
         ·show n * n - (k + 1) < n * n - k; omega
         ·exact ⟨(by first | rfl | (congr 1; omega) | simp), (by first | rfl | (congr 1; omega) | simp), trivial⟩
         ·exact ((Weak.selF [2, 2, 2, 2, 2]).trans (Some'.weak (.takeEq (by first | rfl | simp [ncd]) (.takeEq (by first | rfl | simp [ncd]) (.takeEq (by first | rfl | simp [ncd]) (.take (.take (.nil _))))))))
     ·have p74 := h74; try simp only [bs] at p74
      have hkn : k = n * n := by omega
      obtain ⟨_, hq2, hlk2, ⟨t2, ht2⟩⟩ := hinv
      have hQ1 : nk zs2 = mQ n ms (i + 1) := by rw [hq2, hkn]; exact (bfs_succ hzx).symm
      refine Run.exit rfl ?_
      refine Run.blockEnd ?_
      refine Run.region ?_
      refine Run.p (.int .i64 (((i : Nat) : Int))) rfl rfl ?_
      refine Run.y (.int .i64 ((((i : Nat) : Int)) + 1)) rfl (OpY.add rfl rfl rfl (by omega) (by omega)) ?_
      refine Run.p (.int .i64 ((((i : Nat) : Int)) + 1)) rfl rfl ?_
      refine Run.done ?_
      refine Run.goal ⟨(by repeat (first | exact Same.refl _ _ | refine Same.put rfl ?_ | refine Same.over rfl rfl ?_)), (i + 1, vl2, zs2), ?_, ?_, ?_, ?_⟩
      ·refine ⟨hQ1, hlk2, fun j hj z hzj => ?_⟩
       by_cases hja : j = i
       ·subst hja
        rw [ht2, List.getElem?_append_left hil, hz] at hzj
        cases hzj; exact hkne
       ·rw [ht2, List.getElem?_append_left (by omega)] at hzj
        exact hnf j (by omega) z hzj
      ·show 1000001 - (i + 1) < 1000001 - i; omega
      ·exact ⟨(by first | rfl | (congr 1; omega) | simp), (by first | rfl | (congr 1; omega) | simp), trivial⟩
      ·exact ((Weak.refl _).trans (Some'.weak (.takeEq (by first | rfl | simp) (.takeEq (by first | rfl | simp) (.takeEq (by first | rfl | simp) (.take (.take (.nil _))))))))
  ·have p44 := h44; try simp only [bs] at p44
   exfalso
   obtain ⟨hzq, hlk, hnf⟩ := hinv
   have h1 := hfd i (by rw [← hzq, List.length_map]; omega)
   rw [← hzq] at h1
   obtain ⟨y, hy, hye⟩ := List.mem_map.1 h1
   obtain ⟨z, hzm, rfl⟩ := List.mem_map.1 hy
   obtain ⟨j, hj, hje⟩ := List.getElem_of_mem hzm
   exact hnf j (by omega) z (by rw [List.getElem?_eq_getElem hj, hje]) hye --DONE

set_option maxHeartbeats 1000000 in
set_option maxRecDepth 20000 in
theorem sLeastNetwork_spec {va vm : Value} {n mn : Nat} {xs ms : List Int} {w : World} (ha : Sl w va 1 n (ints xs)) (hms : Sl w vm 1 mn (ints ms)) : Calls Try.prog 14 #[.agg #[va], vm] w (Post No w fun v _ => v = .tuple #[.int .i64 ((nwG n xs ms).length : Nat), .bool (nwB n xs ms)]) := by
 have hxl := ha.len
 rw [Nat.mul_one] at hxl
 have hxl : xs.length = n := by simpa [ints] using hxl
 have hn := ha.le
 obtain ⟨Av, cv, rfl, hnc, _⟩ := ha.form0
 have hmn := hms.le
 obtain rfl : ms.length = mn := by have h := hms.len; simpa [ints] using h
 obtain ⟨Am, cm, rfl, hmc, _⟩ := hms.form0
 refine enter (n := 15) (args := [.agg #[.slice Av n cv], .slice Am (ms.length) cm]) Try.func14 rfl rfl (St.empty _ _) ?_
 refine Run.sr ?_
 refine Run.step rfl (OpStep.box (us := [.slice Av n cv]) rfl fun b1 => ?_)
 refine Run.p (.int .i64 0) rfl rfl ?_
 refine Run.p (.bool false) rfl rfl ?_
 refine Run.done ?_
 refine Run.seq ?_
 refine Run.sr ?_
 refine Run.y (.agg #[.slice Av n cv]) rfl (OpY.loadN (cs := [.slice Av n cv]) Tagg_28 rfl (Cells.blk (.head _) ⟨rfl, trivial⟩)) ?_
 refine Run.p (.slice Am (ms.length) cm) rfl rfl ?_
 refine Run.q (v := .bool (nwB n xs ms)) rfl (OpQ.call (vs := [.agg #[.slice Av n cv], .slice Am (ms.length) cm]) (caps := []) Tcall_49 rfl rfl (fun w hs => l14Small_spec (hs.sl ha) (hs.sl hms))) ?_
 refine Run.p (.bool (!(nwB n xs ms))) rfl rfl ?_
 refine Run.done ?_
 refine Run.cond (b := !(nwB n xs ms)) rfl (fun h9 => ?_) (fun h9 => ?_)
 ·have p9 := h9; try simp only [bs] at p9
  have hbad : nwB n xs ms = false := by simpa using h9
  refine Run.sr ?_
  refine Run.p (.int .i64 0) rfl rfl ?_
  refine Run.p (.bool false) rfl rfl ?_
  refine Run.done ?_
  refine Run.ret ?_
  refine ⟨.tuple #[.int .i64 0, .bool false], [], Out.two rfl rfl rfl, (Some'.weak (.nil _)), ?_⟩
  show _ = _; rw [(nw_bad hbad).1, hbad]; rfl
 ·have p9 := h9; try simp only [bs] at p9
  have hgood : nwB n xs ms = true := by simpa using h9
  have hxl2 : xs.length = n := hxl
  refine Run.skip ?_
  refine Run.sr ?_
  refine Run.y (.agg #[.slice Av n cv]) rfl (OpY.loadN (cs := [.slice Av n cv]) Tagg_28 rfl (Cells.blk (.head _) ⟨rfl, trivial⟩)) ?_
  refine Run.p (.slice Am (ms.length) cm) rfl rfl ?_
  refine Run.step rfl (OpStep.call (vs := [.agg #[.slice Av n cv], .slice Am (ms.length) cm]) (caps := []) Tcall_50 rfl rfl (fun w hs => l14Search_spec hxl hgood (hs.sl ha) (hs.sl hms)) ?_)
  rintro uq _ ⟨os, hos, rfl⟩
  show Run _ _ (putF _ _ _ uq) [.own uq 77 7 (os.length) (ncells os), .blk b1 28 [.slice Av n cv]]
  have hol : os.length = (nwG n xs ms).length + 1 := by have h := congrArg List.length hos; simpa using h
  have hlen := nw_le (ms := ms) hxl
  refine Run.formOwn (.head _) (fun A_uq1 c_uq1 hv hcapc_uq1 hmaxc_uq1 => ?_) (fun _ _ _ => ⟨nofun, nofun, nofun⟩)
  subst hv
  refine Run.y (.int .i64 (((os.length : Nat) : Int))) rfl (OpY.len Tsl_67 rfl) ?_
  refine Run.y (.int .i64 ((((nwG n xs ms).length : Nat) : Int))) rfl (OpY.sub rfl rfl (by omega) (by omega) (by omega)) ?_
  refine Run.p (.int .i64 ((((nwG n xs ms).length : Nat) : Int))) rfl rfl ?_
  refine Run.p (.bool true) rfl rfl ?_
  refine Run.done ?_
  refine Run.ret ?_
  refine ⟨.tuple #[.int .i64 ((((nwG n xs ms).length : Nat) : Int)), .bool true], [], Out.two rfl rfl rfl, (Some'.weak (.nil _)), ?_⟩
  show _ = _; rw [hgood]

end Go.Proofs.Yteehfidjofcfmaa
/- The walk of the law FnNetworks. -/
set_option linter.unusedSimpArgs false
set_option linter.unusedVariables false
namespace Go.Proofs.Yteehfidjofcfmaa
open Go Go.RowKit
namespace L51T
theorem Tagg_28 : aggOf Try.prog 28 = some 1 := by kernel_rfl
theorem Tagg_38 : aggOf Try.prog 38 = some 2 := by kernel_rfl
theorem Tbool_4 : Try.prog.underlying 4 = some .bool := by kernel_rfl
theorem Tcall_14 : callable Try.prog 14 = true := by kernel_rfl
theorem Tcall_16 : callable Try.prog 16 = true := by kernel_rfl
theorem Tcall_25 : callable Try.prog 25 = true := by kernel_rfl
theorem Tcall_28 : callable Try.prog 28 = true := by kernel_rfl
theorem Tcall_31 : callable Try.prog 31 = true := by kernel_rfl
theorem Tcall_33 : callable Try.prog 33 = true := by kernel_rfl
theorem Tcall_34 : callable Try.prog 34 = true := by kernel_rfl
theorem Tcall_36 : callable Try.prog 36 = true := by kernel_rfl
theorem Tcall_37 : callable Try.prog 37 = true := by kernel_rfl
theorem Tcall_40 : callable Try.prog 40 = true := by kernel_rfl
theorem Tcall_41 : callable Try.prog 41 = true := by kernel_rfl
theorem Tcall_42 : callable Try.prog 42 = true := by kernel_rfl
theorem Tcall_43 : callable Try.prog 43 = true := by kernel_rfl
theorem Tcall_44 : callable Try.prog 44 = true := by kernel_rfl
theorem Tfo_28_0 : fieldOff Try.prog 28 0 = some 0 := by kernel_rfl
theorem Tfo_38_1 : fieldOff Try.prog 38 1 = some 1 := by kernel_rfl
theorem Tone_22 : oneOf Try.prog 22 = true := by kernel_rfl
theorem Tone_3 : oneOf Try.prog 3 = true := by kernel_rfl
theorem Tone_36 : oneOf Try.prog 36 = true := by kernel_rfl
theorem Tsize_28 : (Try.prog.info? 28).map (·.size) = some 1 := by kernel_rfl
theorem Tsize_38 : (Try.prog.info? 38).map (·.size) = some 2 := by kernel_rfl
theorem Tsl_22 : sliceOf Try.prog 22 = some (3, 1, 8, [.int .i64 0]) := by kernel_rfl
theorem Tsl_36 : sliceOf Try.prog 36 = some (71, 3, 24, [.int .i64 0, .int .i64 0, .int .i64 0]) := by kernel_rfl
theorem Tsl_46 : sliceOf Try.prog 46 = some (5, 1, 1, [.int .u8 0]) := by kernel_rfl
theorem Tzero_28 : zeroOf Try.prog 28 = some [.slice none 0 0] := by kernel_rfl
theorem Tzero_38 : zeroOf Try.prog 38 = some [.int .i64 0, .slice none 0 0] := by kernel_rfl
end L51T
open L51T
theorem q_ne {xs ys : List Int} {k : Nat} (h : ix xs k ≠ ix ys k) : decide (xs = ys) = false := by
  rw [decide_eq_false_iff_not]; intro e; exact h (by rw [e])
theorem q_len {xs ys : List Int} (h : xs.length ≠ ys.length) : decide (xs = ys) = false := by
  rw [decide_eq_false_iff_not]; intro e; exact h (by rw [e])
theorem q_eq {xs ys : List Int} (hl : xs.length = ys.length) (h : ∀ i, i < xs.length → decide (ix xs i = ix ys i) = true) : decide (xs = ys) = true := by
  rw [decide_eq_true_iff]
  refine List.ext_getElem hl fun i h1 h2 => ?_
  have := of_decide_eq_true (h i h1)
  simpa [ix, List.getD, h1, h2] using this
theorem eqc_same (N : Int) (xs : List Int) (n : Nat) : ((N == N) && eqGs xs n xs n) = true := by
  have h : eqGs xs n xs n = true := eqGs_eq rfl fun i _ => by simp [eqG1]
  rw [h, beq_self_eq_true]; rfl
theorem nats_nl (l : List Nat) : nats (nl l) = l := by
  have : nl (nats (nl l)) = nl l := nl_nats fun x hx => by simp only [nl, List.mem_map] at hx; obtain ⟨y, _, rfl⟩ := hx; omega
  exact nl_inj this
theorem App.append {n m : Nat} {G : List (Nat × Nat)} (h : App n G m) : ∀ Y : List (Nat × Nat), App n (G ++ Y) m
  | [] => by rwa [List.append_nil]
  | e :: Y => by
    have := App.append (h.snoc e) Y
    rwa [List.append_assoc] at this
theorem apF_row {n : Nat} {ms : List Int} (h : mskOk n ms ms.length = true) {i : Nat} (hi : i < ms.length) : ∀ {q : Nat}, (apF ms q).testBit i = true → ∃ j, j < q ∧ ((2 ^ j : Nat) : Int) = ix ms i
  | 0, hb => by simp [apF] at hb
  | q + 1, hb => by
    rw [apF, apx_bit h hi] at hb
    rcases Bool.or_eq_true_iff.1 hb with hb | hb
    · obtain ⟨j, hj, he⟩ := apF_row h hi hb
      exact ⟨j, by omega, he⟩
    · exact ⟨q, by omega, (of_decide_eq_true hb).symm⟩
/-- What is noted has appeared. -/
theorem seen_app {n : Nat} {ms : List Int} (h : mskOk n ms ms.length = true) (hn : 1 ≤ n) {i : Nat} (hi : i < ms.length) : ∀ u : List Nat, (bev (lstep n ms) (idL n, apF ms n) u).2.testBit i = true → App n (dcw n u) (ix ms i).toNat := by
  intro u
  induction h2 : u.length generalizing u with
  | zero =>
    obtain rfl : u = [] := List.length_eq_zero_iff.1 h2
    intro hb
    obtain ⟨j, hj, he⟩ := apF_row h hi hb
    refine ⟨0, j, by simp, hj, ?_⟩
    rw [List.take_zero]
    show nx (idL n) j = _
    rw [nx_idL hj, ← he, Int.toNat_natCast]
  | succ k ih =>
    obtain ⟨v, e, rfl⟩ : ∃ v e, u = v ++ [e] := by
      rcases List.eq_nil_or_concat u with rfl | ⟨v, e, rfl⟩
      · simp at h2
      · exact ⟨v, e, by rw [List.concat_eq_append]⟩
    have hv : v.length = k := by simpa using h2
    intro hb
    have e1 : dcw n (v ++ [e]) = dcw n v ++ [(e / n, e % n)] := by simp [dcw]
    rw [bev_snoc, lstep] at hb
    simp only at hb
    rw [apx_bit h hi] at hb
    rcases Bool.or_eq_true_iff.1 hb with hb | hb
    · rw [e1]; exact (ih v hv hb).snoc _
    · have he := of_decide_eq_true hb
      refine ⟨(dcw n (v ++ [e])).length, e % n, Nat.le_refl _, Nat.mod_lt _ (by omega), ?_⟩
      rw [List.take_length, e1, cxs_append]
      rw [bev_fst] at he
      show nx (cx (cxs (idL n) (dcw n v)) (e / n, e % n)) (e % n) = _
      simp only at he
      omega
theorem nw_run {n : Nat} {xs ms : List Int} (hl : xs.length = n) (h : nwB n xs ms = true) : WOk n (dcw n (nwG n xs ms)) ∧ cxs (idL n) (dcw n (nwG n xs ms)) = nats xs ∧ ∀ i, i < ms.length → App n (dcw n (nwG n xs ms)) (ix ms i).toNat := by
  obtain ⟨h3, h1n, hnl, hml, hmb, hmi, hmk, hm7, hfd, hone, hlen, hbw⟩ := nw_ok hl h
  obtain ⟨B, hB⟩ : ∃ B : Nat, B = 1000000 := ⟨_, rfl⟩
  obtain ⟨y, hy, he⟩ := List.mem_map.1 (hfd B (by rw [hB]; exact mQ_small h3 hm7 _))
  have hyG : y.2 = nwG n xs ms := hone B y.2 (by rw [← he]; exact hy)
  have hev := (bfs_inv (step := lstep n ms) (ok := lok n) (E := n * n) (s := (idL n, apF ms n)) B).ev y hy
  rw [hyG, he] at hev
  refine ⟨dec_ok hbw, ?_, fun i hi => seen_app hmk h1n hi _ ?_⟩
  · have h2 := bev_fst n ms (nwG n xs ms) (idL n, apF ms n)
    rw [hev] at h2; exact h2.symm
  · rw [hev]
    show (2 ^ ms.length - 1).testBit i = true
    rw [Nat.testBit_two_pow_sub_one]; simpa using hi
theorem lo_net {n : Nat} {xs ms : List Int} (hl : xs.length = n) (h : nwB n xs ms = true) : loB (nwN n xs ms) (flCX (dcw n (nwG n xs ms))) (nwG n xs ms).length = true ∧ loL (nwN n xs ms) (flCX (dcw n (nwG n xs ms))) (nwG n xs ms).length = nats xs := by
  obtain ⟨hw, hr, _⟩ := nw_run hl h
  have hk := nw_ok hl h
  have h5 : n ≤ 5 := by have := hk.n3; omega
  have hlen := hk.len
  have h2 := loL_cx ⟨hk.n1, h5⟩ hw (by rw [dcw_len]; omega)
  rw [dcw_len, ← nw_good h] at h2
  exact ⟨h2.1, h2.2.trans hr⟩
noncomputable def netX (n : Nat) (ms : List Int) : List Nat := cxs (idL n) (gnG n ms)
noncomputable def netB (n : Nat) (ms : List Int) : List Nat := inL (netX n ms).length (nl (netX n ms))
noncomputable def netR (n : Nat) (xs ms : List Int) : List Nat := coL (netB n ms).length (nl (netB n ms)) n xs
structure NetOk (n : Nat) (xs ms : List Int) : Prop where
  msk : mskOk n ms ms.length = true
  lo : loB (gnN n ms) (flCX (gnG n ms)) (gnG n ms).length = true ∧ loL (gnN n ms) (flCX (gnG n ms)) (gnG n ms).length = netX n ms
  okX : linOk (nl (netX n ms)) (netX n ms).length = true
  co : coB (netB n ms).length (nl (netB n ms)) n xs = true
  okR : linOk (nl (netR n xs ms)) (netR n xs ms).length = true
  le : (nwG n xs ms).length ≤ (gnG n ms).length + (syW (netR n xs ms).length (nl (netR n xs ms))).length
theorem net_ok {n : Nat} {xs ms : List Int} (hl : xs.length = n) (h : nwB n xs ms = true) : NetOk n xs ms := by
  obtain ⟨h3, h1n, hnl, hml, hmb, hmi, hmk, hm7, hfd, hone, hlen, hbw⟩ := nw_ok hl h
  have hok : linOk xs n = true := by simp only [nwB, Bool.and_eq_true] at h; exact h.1.2
  have h5 : n ≤ 5 := by omega
  have hg := gn_ok hmk
  have hid : Indep (idL n) := by rw [← elW_run hml hmb hmi]; exact indep_cxs _ _ hml (elW_ok n (nats xs)) hmi
  have hidl : (idL n).length = n := by simp
  -- the map of the network
  have hXl : (netX n ms).length = n := by rw [netX, cxs_length]; exact hidl
  have hXb : ∀ i, nx (netX n ms) i < 2 ^ n := cxs_lt _ _ (idL_lt n)
  have hXi : Indep (netX n ms) := indep_cxs _ _ hidl hg.wok hid
  have hXok : linOk (nl (netX n ms)) (netX n ms).length = true := by rw [hXl]; exact linOk_of h1n h5 hXl hXb hXi
  have hlo := loL_cx ⟨h1n, h5⟩ hg.wok (by have := hg.gl; omega)
  rw [← hg.gN] at hlo
  -- its inverse
  have hB : netB n ms = cxs (idL n) (elW n (netX n ms)) := by
    rw [netB, hXl]
    have := (inL_facts (n := n) (xs := nl (netX n ms)) (by rw [nl_length]; exact hXl) (by rw [← hXl]; rw [hXl] at hXok ⊢; exact hXok)).1
    rw [this, nats_nl]
  have hBl : (netB n ms).length = n := by rw [hB, cxs_length]; exact hidl
  have hBb : ∀ i, nx (netB n ms) i < 2 ^ n := by rw [hB]; exact cxs_lt _ _ (idL_lt n)
  have hBi : Indep (netB n ms) := by rw [hB]; exact indep_cxs _ _ hidl (elW_ok _ _) hid
  have hBok : linOk (nl (netB n ms)) n = true := linOk_of h1n h5 hBl hBb hBi
  have hXB : comp (netX n ms) (netB n ms) = idL n := by rw [hB]; exact comp_inv hXl hXb hXi
  have hco : coB (netB n ms).length (nl (netB n ms)) n xs = true := by rw [hBl, coB, hBok, hok, decide_eq_true rfl]; rfl
  -- the rest
  have hm := syn_run hml hmb hmi
  have hwm := wok_rev (elW_ok n (nats xs))
  have hR : netR n xs ms = cxs (netB n ms) (elW n (nats xs)).reverse := by
    rw [netR, coL, if_pos hco, nats_nl]
    conv => lhs; rw [← hm]
    rw [comp_cxs _ _ _ hidl hwm, comp_id hBl]
  have hRl : (netR n xs ms).length = n := by rw [hR, cxs_length]; exact hBl
  have hRb : ∀ i, nx (netR n xs ms) i < 2 ^ n := by rw [hR]; exact cxs_lt _ _ hBb
  have hRi : Indep (netR n xs ms) := by rw [hR]; exact indep_cxs _ _ hBl hwm hBi
  have hRok : linOk (nl (netR n xs ms)) n = true := linOk_of h1n h5 hRl hRb hRi
  have hY : syW n (nl (netR n xs ms)) = (elW n (netR n xs ms)).reverse := by rw [syW, if_pos hRok, nats_nl]
  have hYw := wok_rev (elW_ok n (netR n xs ms))
  have hYr := syn_run hRl hRb hRi
  refine ⟨hmk, ⟨hlo.1, hlo.2⟩, hXok, hco, by rw [hRl]; exact hRok, ?_⟩
  have hall : cxs (idL n) (gnG n ms ++ (elW n (netR n xs ms)).reverse) = nats xs := by
    rw [cxs_append]
    show cxs (netX n ms) _ = _
    have e1 : cxs (netX n ms) (elW n (netR n xs ms)).reverse = comp (netX n ms) (cxs (idL n) (elW n (netR n xs ms)).reverse) := by
      rw [comp_cxs _ _ _ hidl hYw, comp_id hXl]
    rw [e1, hYr, hR, comp_cxs _ _ _ hBl hwm, hXB, hm]
  have h6 := gray_short (n := n) (xs := xs) (ms := ms) (w := gnG n ms ++ (elW n (netR n xs ms)).reverse) hl h (fun e he => by
    rcases List.mem_append.1 he with he | he
    · exact hg.wok e he
    · exact hYw e he) hall (fun i hi => (hg.app i hi).append _)
  rw [hRl, hY]
  rw [List.length_append] at h6
  exact h6
theorem Run.lenOf {E : Env} {k : List It} {f : Fr} {H : List Res} {e : TypeId} {v : Value} {n : Nat} {xs : List Int} (hm : Res.own v e 1 n (ints xs) ∈ H) (h : xs.length = n → Run E k f H) (hk : ∀ G i k', k ≠ .goal G :: k' ∧ k ≠ .block i :: k' ∧ k ≠ [] := by exact fun _ _ _ => ⟨nofun, nofun, nofun⟩) : Run E k f H := by
  have key : ∀ w, St E.M E.w0 w H → Run E k f H := by
    intro w hs
    exact h (by simpa using (hs.slOwn hm).len)
  match k, hk with
  | [], hk => exact absurd rfl (hk (fun _ _ => True) 0 []).2.2
  | .goal G :: k', hk => exact absurd rfl (hk G 0 k').1
  | .block i :: k', hk => exact absurd rfl (hk (fun _ _ => True) i k').2.1
  | .rounds c n :: k', _ => exact fun a w ha hs => key w hs a w ha hs
  | .ops ops l :: k', _ => exact fun a w ha hs => key w hs a w ha hs
  | .code c :: k', _ => exact fun a w ha hs => key w hs a w ha hs

set_option maxHeartbeats 1000000 in
set_option maxRecDepth 20000 in
theorem qInts_spec {va vb : Value} {n m : Nat} {xs ys : List Int} {w : World} (ha : Sl w va 1 n (ints xs)) (hb : Sl w vb 1 m (ints ys)) : Calls Try.prog 34 #[va, vb] w (Post No w fun v _ => v = .bool (decide (xs = ys))) := by
 have hxl := ha.len
 have hyl := hb.len
 have hn := ha.le
 have hm := hb.le
 obtain ⟨A, c, rfl, _, _⟩ := ha.form0
 obtain ⟨B, d, rfl, _, _⟩ := hb.form0
 refine enter (n := 26) (args := [.slice A n c, .slice B m d]) Try.func34 rfl rfl (St.empty _ _) ?_
 refine Run.sr ?_
 refine Run.p (.bool false) rfl rfl ?_
 refine Run.done ?_
 refine Run.seq ?_
 refine Run.sr ?_
 refine Run.p (.slice A n c) rfl rfl ?_
 refine Run.y (.int .i64 (((n : Nat) : Int))) rfl (OpY.len Tsl_22 rfl) ?_
 refine Run.p (.slice B m d) rfl rfl ?_
 refine Run.y (.int .i64 (((m : Nat) : Int))) rfl (OpY.len Tsl_22 rfl) ?_
 refine Run.p (.bool ((((n : Nat) : Int)) != (((m : Nat) : Int)))) rfl rfl ?_
 refine Run.done ?_
 refine Run.cond (b := (((n : Nat) : Int)) != (((m : Nat) : Int))) rfl (fun h10 => ?_) (fun h10 => ?_)
 ·have p10 := h10; try simp only [bs] at p10
  have hres : decide (xs = ys) = false := q_len (by omega)
  refine Run.sr ?_
  refine Run.p (.bool false) rfl rfl ?_
  refine Run.done ?_
  refine Run.ret ?_
  refine ⟨.bool false, [], Out.one rfl rfl, (Some'.weak (.nil _)), ?_⟩
  show _ = _; rw [hres]
 ·have p10 := h10; try simp only [bs] at p10
  refine Run.skip ?_
  refine Run.seq ?_
  refine Run.sr ?_
  refine Run.p (.slice A n c) rfl rfl ?_
  refine Run.y (.int .i64 (((n : Nat) : Int))) rfl (OpY.len Tsl_22 rfl) ?_
  refine Run.p (.int .i64 0) rfl rfl ?_
  refine Run.done ?_
  refine Run.block ?_
  refine Run.loop (ι := Nat) [4, 5, 13, 14, 15, 16, 17, 18, 19, 20, 21, 22, 23, 24, 25] (fun k => [(13, .int .i64 (((k : Nat) : Int)))]) (fun k => []) (fun k => k ≤ n ∧ (∀ i, i < k → decide (ix xs i = ix ys i) = true)) (fun k => n - k) 0 ?_ ?_ ?_ ?_
  ·exact ⟨Nat.zero_le _, by first | trivial | (intro i hi; omega)⟩
  ·exact ⟨rfl, trivial⟩
  ·exact (Some'.weak (.nil _))
  ·rintro k fr hinv
   show Run _ _ (over _ _ [(13, .int .i64 (((k : Nat) : Int)))] fr) []
   try dsimp only at hinv
   refine Run.sr ?_
   refine Run.p (.bool (decide ((((k : Nat) : Int)) < (((n : Nat) : Int))))) rfl rfl ?_
   refine Run.done ?_
   refine Run.seq ?_
   refine Run.cond (b := decide ((((k : Nat) : Int)) < (((n : Nat) : Int)))) rfl (fun h14 => ?_) (fun h14 => ?_)
   ·have p14 := h14; try simp only [bs] at p14
    have hltk : k < n := by omega
    obtain ⟨b, o, rfl⟩ := ha.opn (by omega)
    have hltm : k < m := by omega
    obtain ⟨b2, o2, rfl⟩ := hb.opn (by omega)
    refine Run.skip ?_
    refine Run.seq ?_
    refine Run.block ?_
    refine Run.sr ?_
    refine Run.p (.int .i64 (((k : Nat) : Int))) rfl rfl ?_
    refine Run.p (.int .i64 (((k : Nat) : Int))) rfl rfl ?_
    refine Run.done ?_
    refine Run.seq ?_
    refine Run.draws (by kernel_rfl) (by kernel_rfl) ?_
    refine Lex.q (v := .slice (some ⟨b, o, none⟩) n c) rfl (OpQ.y (OpY.pure rfl)) ?_
    refine Lex.q (v := .int .i64 (((k : Nat) : Int))) rfl (OpQ.y (OpY.pure rfl)) ?_
    refine Lex.q (v := .pointer (some ⟨b, o + k, none⟩)) rfl (OpQ.y (OpY.index (kk := k) Tsl_22 rfl rfl (by omega) (by omega) (by first | rfl | omega))) ?_
    refine Lex.q (v := .int .i64 (ix xs (k))) rfl (OpQ.y (OpY.load1 Tone_3 rfl (Cells.arg (k := k) ha rfl (by omega) (pre1 (by omega))))) ?_
    refine Lex.q (v := .slice (some ⟨b2, o2, none⟩) m d) rfl (OpQ.y (OpY.pure rfl)) ?_
    refine Lex.q (v := .int .i64 (((k : Nat) : Int))) rfl (OpQ.y (OpY.pure rfl)) ?_
    refine Lex.q (v := .pointer (some ⟨b2, o2 + k, none⟩)) rfl (OpQ.y (OpY.index (kk := k) Tsl_22 rfl rfl (by omega) (by omega) (by first | rfl | omega))) ?_
    refine Lex.q (v := .int .i64 (ix ys (k))) rfl (OpQ.y (OpY.load1 Tone_3 rfl (Cells.arg (k := k) hb rfl (by omega) (pre1 (by omega))))) ?_
    refine Lex.q (v := .bool ((ix xs (k)) != (ix ys (k)))) rfl (OpQ.y (OpY.pure rfl)) ?_
    refine Lex.done ?_
    refine Run.cond (b := (ix xs (k)) != (ix ys (k))) rfl (fun h24 => ?_) (fun h24 => ?_)
    ·have p24 := h24; try simp only [bs] at p24
     have hres : decide (xs = ys) = false := q_ne (k := k) (by omega)
     refine Run.sr ?_
     refine Run.p (.bool false) rfl rfl ?_
     refine Run.done ?_
     refine Run.ret ?_
     refine ⟨.bool false, [], Out.one rfl rfl, (Some'.weak (.nil _)), ?_⟩
     show _ = _; rw [hres]
    ·have p24 := h24; try simp only [bs] at p24
     have hgood : decide (ix xs k = ix ys k) = true := by simp; omega
     refine Run.skip ?_
     refine Run.blockEnd ?_
     refine Run.region ?_
     refine Run.y (.int .i64 ((((k : Nat) : Int)) + 1)) rfl (OpY.add rfl rfl rfl (by omega) (by omega)) ?_
     refine Run.p (.int .i64 ((((k : Nat) : Int)) + 1)) rfl rfl ?_
     refine Run.done ?_
     refine Run.goal ⟨(by repeat (first | exact Same.refl _ _ | refine Same.put rfl ?_ | refine Same.over rfl rfl ?_)), k + 1, ?_, ?_, ?_, ?_⟩
     ·refine ⟨by omega, ?_⟩
      intro i hi
      rcases Nat.lt_succ_iff_lt_or_eq.1 hi with h | h
      ·exact hinv.2 i h
      ·rw [h]; exact hgood
     ·omega
     ·exact ⟨(by first | rfl | (congr 1; omega) | simp), trivial⟩
     ·exact (Some'.weak (.nil _))
   ·have p14 := h14; try simp only [bs] at p14
    have hknk : k = n := by omega
    have hres : decide (xs = ys) = true := q_eq (by omega) fun i hi => hinv.2 i (by omega)
    refine Run.exit rfl ?_
    refine Run.sr ?_
    refine Run.p (.bool true) rfl rfl ?_
    refine Run.done ?_
    refine Run.ret ?_
    refine ⟨.bool true, [], Out.one rfl rfl, (Some'.weak (.nil _)), ?_⟩
    show _ = _; rw [hres]

set_option maxHeartbeats 4000000 in
set_option maxRecDepth 20000 in
theorem law_spec {va vb : Value} {n m0 : Nat} {cs ds : List Int} {w : World} (ha : Sl w va 1 n (u8s cs)) (hby : ∀ x ∈ cs, 0 ≤ x ∧ x < 256) (hb : Sl w vb 1 m0 (u8s ds)) (hbz : ∀ x ∈ ds, 0 ≤ x ∧ x < 256) : Calls Try.prog 8 #[va, vb] w (Post No w fun v _ => v = .bool true) := by
 obtain ⟨Ac, cc, rfl, hn0, _⟩ := ha.form0
 obtain ⟨Bc, dd, rfl, hm0, _⟩ := hb.form0
 refine enter (n := 195) (args := [.slice Ac n cc, .slice Bc m0 dd]) Try.func8 rfl rfl (St.empty _ _) ?_
 refine Run.sr ?_
 refine Run.p (.bool false) rfl rfl ?_
 refine Run.done ?_
 refine Run.seq ?_
 refine Run.sr ?_
 refine Run.p (.slice Ac n cc) rfl rfl ?_
 refine Run.y (.int .i64 (((n : Nat) : Int))) rfl (OpY.len Tsl_46 rfl) ?_
 refine Run.p (.slice Bc m0 dd) rfl rfl ?_
 refine Run.y (.int .i64 (((m0 : Nat) : Int))) rfl (OpY.len Tsl_46 rfl) ?_
 refine Run.y (.int .i64 (IntKind.i64.wrap (((n : Nat) : Int) + ((m0 : Nat) : Int)))) rfl (OpY.addW rfl rfl rfl) ?_
 refine Run.p (.bool (decide ((IntKind.i64.wrap (((n : Nat) : Int) + ((m0 : Nat) : Int))) > 1048576))) rfl rfl ?_
 refine Run.done ?_
 refine Run.cond (b := decide ((IntKind.i64.wrap (((n : Nat) : Int) + ((m0 : Nat) : Int))) > 1048576)) rfl (fun h40 => ?_) (fun h40 => ?_)
 ·have p40 := h40; try simp only [bs] at p40
  refine Run.sr ?_
  refine Run.p (.bool true) rfl rfl ?_
  refine Run.done ?_
  refine Run.ret ?_
  refine ⟨.bool true, [], Out.one rfl rfl, (Some'.weak (.nil _)), ?_⟩
  rfl
 ·have p40 := h40; try simp only [bs] at p40
  refine Run.skip ?_
  refine Run.sr ?_
  refine Run.p (.slice Ac n cc) rfl rfl ?_
  refine Run.step rfl (OpStep.call (vs := [.slice Ac n cc]) (caps := []) Tcall_40 rfl rfl (fun w hs => DrawGrayNetwork_spec (hs.sl ha) hby) ?_)
  rintro _ _ ⟨K, vk, kn, mk, ⟨hK6, hk40⟩, rfl, rfl⟩
  show Run _ _ (putF _ _ _ (.tuple #[.int .i64 (((K : Nat) : Int)), vk])) [.own vk 3 1 kn (ints mk)]
  refine Run.p (.tuple #[.int .i64 (((K : Nat) : Int)), vk]) rfl rfl ?_
  refine Run.p (.int .i64 (((K : Nat) : Int))) rfl rfl ?_
  refine Run.p (vk) rfl rfl ?_
  refine Run.p (.int .i64 (((K : Nat) : Int))) rfl rfl ?_
  refine Run.p (vk) rfl rfl ?_
  refine Run.done ?_
  refine Run.lenOf (.head _) fun hlmk => ?_
  refine Run.sr ?_
  refine Run.p (.int .i64 (((K : Nat) : Int))) rfl rfl ?_
  refine Run.p (vk) rfl rfl ?_
  refine Run.step rfl (OpStep.call (vs := [.int .i64 (((K : Nat) : Int)), vk]) (caps := []) Tcall_41 rfl rfl (fun w hs => (by have h := GrayNetwork_spec (n := K) (ms := mk) (by have h := hs.slOwn (.head _); rw [hlmk]; exact h); exact h)) ?_)
  rintro _ _ ⟨ug1, rfl, rfl⟩
  show Run _ _ (putF _ _ _ (.tuple #[.agg #[.int .i64 (gnN K mk), ug1], .bool (mskOk K mk mk.length)])) [.own ug1 71 3 ((gnG K mk).length) (ints (flCX (gnG K mk))), .own vk 3 1 kn (ints mk)]
  refine Run.p (.tuple #[.agg #[.int .i64 (gnN K mk), ug1], .bool (mskOk K mk mk.length)]) rfl rfl ?_
  refine Run.p (.agg #[.int .i64 (gnN K mk), ug1]) rfl rfl ?_
  refine Run.p (.bool (mskOk K mk mk.length)) rfl rfl ?_
  refine Run.step rfl (OpStep.alloc (zs := [.int .i64 0, .slice none 0 0]) Tzero_38 fun b1 => ?_)
  refine Run.formOwn (.tail _ (List.Mem.head _)) (fun A_ug11 c_ug11 hv hcapc_ug11 hmaxc_ug11 => ?_) (fun _ _ _ => ⟨nofun, nofun, nofun⟩)
  subst hv
  refine Run.step rfl (OpStep.storeAll (us := [.int .i64 (gnN K mk), .slice A_ug11 ((gnG K mk).length) c_ug11]) Tsize_38 rfl rfl rfl (.here _) rfl ?_)
  refine Run.p (.bool (mskOk K mk mk.length)) rfl rfl ?_
  refine Run.dsr ?_
  refine Run.p (.int .i64 (((K : Nat) : Int))) rfl rfl ?_
  refine Run.p (vk) rfl rfl ?_
  refine Run.step rfl (OpStep.call (vs := [.int .i64 (((K : Nat) : Int)), vk]) (caps := []) Tcall_42 rfl rfl (fun w hs => (by have h := sGrayNetwork_spec (n := K) (ms := mk) (by have h := hs.slOwn (.tail _ (.tail _ (List.Mem.head _))); rw [hlmk]; exact h); exact h)) ?_)
  rintro _ _ ⟨uh1, rfl, rfl⟩
  show Run _ _ (putF _ _ _ (.tuple #[.agg #[.int .i64 (gnN K mk), uh1], .bool (mskOk K mk mk.length)])) [.own uh1 71 3 ((gnG K mk).length) (ints (flCX (gnG K mk))), .blk b1 38 [.int .i64 (gnN K mk), .slice A_ug11 ((gnG K mk).length) c_ug11], .own (.slice A_ug11 ((gnG K mk).length) c_ug11) 71 3 ((gnG K mk).length) (ints (flCX (gnG K mk))), .own vk 3 1 kn (ints mk)]
  refine Run.p (.tuple #[.agg #[.int .i64 (gnN K mk), uh1], .bool (mskOk K mk mk.length)]) rfl rfl ?_
  refine Run.p (.agg #[.int .i64 (gnN K mk), uh1]) rfl rfl ?_
  refine Run.p (.bool (mskOk K mk mk.length)) rfl rfl ?_
  refine Run.step rfl (OpStep.alloc (zs := [.int .i64 0, .slice none 0 0]) Tzero_38 fun b2 => ?_)
  refine Run.formOwn (.tail _ (List.Mem.head _)) (fun A_uh11 c_uh11 hv hcapc_uh11 hmaxc_uh11 => ?_) (fun _ _ _ => ⟨nofun, nofun, nofun⟩)
  subst hv
  refine Run.step rfl (OpStep.storeAll (us := [.int .i64 (gnN K mk), .slice A_uh11 ((gnG K mk).length) c_uh11]) Tsize_38 rfl rfl rfl (.here _) rfl ?_)
  refine Run.p (.bool (mskOk K mk mk.length)) rfl rfl ?_
  refine Run.dsr ?_
  refine Run.p (.slice Bc m0 dd) rfl rfl ?_
  refine Run.step rfl (OpStep.call (vs := [.slice Bc m0 dd]) (caps := []) Tcall_43 rfl rfl (fun w hs => DrawLeastNetwork_spec (hs.sl hb) hbz) ?_)
  rintro _ _ ⟨Au, cu, vb0, n0, n1, x0, x1, vl, gm, ms, ⟨h6, h7, hrd⟩, hg8, rfl, rfl⟩
  show Run _ _ (putF _ _ _ (.tuple #[.agg #[.slice Au n1 cu], vl])) [.own vb0 3 1 n0 (ints x0), .own vl 3 1 gm (ints ms), .blk b2 38 [.int .i64 (gnN K mk), .slice A_uh11 ((gnG K mk).length) c_uh11], .own (.slice A_uh11 ((gnG K mk).length) c_uh11) 71 3 ((gnG K mk).length) (ints (flCX (gnG K mk))), .blk b1 38 [.int .i64 (gnN K mk), .slice A_ug11 ((gnG K mk).length) c_ug11], .own (.slice A_ug11 ((gnG K mk).length) c_ug11) 71 3 ((gnG K mk).length) (ints (flCX (gnG K mk))), .own vk 3 1 kn (ints mk)]
  refine Run.p (.tuple #[.agg #[.slice Au n1 cu], vl]) rfl rfl ?_
  refine Run.p (.agg #[.slice Au n1 cu]) rfl rfl ?_
  refine Run.p (vl) rfl rfl ?_
  refine Run.step rfl (OpStep.alloc (zs := [.slice none 0 0]) Tzero_28 fun b3 => ?_)
  refine Run.step rfl (OpStep.storeAll (us := [.slice Au n1 cu]) Tsize_28 rfl rfl rfl (.here _) rfl ?_)
  refine Run.p (vl) rfl rfl ?_
  refine Run.done ?_
  refine Run.lenOf (.tail _ (.tail _ (List.Mem.head _))) fun hlms => ?_
  refine Run.sr ?_
  refine Run.y (.agg #[.slice Au n1 cu]) rfl (OpY.loadN (cs := [.slice Au n1 cu]) Tagg_28 rfl (Cells.blk (.head _) ⟨rfl, trivial⟩)) ?_
  refine Run.p (vl) rfl rfl ?_
  refine Run.q (v := .tuple #[.int .i64 ((((nwG n1 x1 ms).length : Nat) : Int)), .bool (nwB n1 x1 ms)]) rfl (OpQ.call (vs := [.agg #[.slice Au n1 cu], vl]) (caps := []) Tcall_16 rfl rfl (fun w hs => (by have h := LeastNetwork_spec (ms := ms) (hrd _ (hs.holds _ (.tail _ (List.Mem.head _)))) (hs.slOwn (.tail _ (.tail _ (List.Mem.head _)))); exact h))) ?_
  refine Run.p (.tuple #[.int .i64 ((((nwG n1 x1 ms).length : Nat) : Int)), .bool (nwB n1 x1 ms)]) rfl rfl ?_
  refine Run.p (.int .i64 ((((nwG n1 x1 ms).length : Nat) : Int))) rfl rfl ?_
  refine Run.p (.bool (nwB n1 x1 ms)) rfl rfl ?_
  refine Run.p (.int .i64 ((((nwG n1 x1 ms).length : Nat) : Int))) rfl rfl ?_
  refine Run.p (.bool (nwB n1 x1 ms)) rfl rfl ?_
  refine Run.dsr ?_
  refine Run.y (.agg #[.slice Au n1 cu]) rfl (OpY.loadN (cs := [.slice Au n1 cu]) Tagg_28 rfl (Cells.blk (.head _) ⟨rfl, trivial⟩)) ?_
  refine Run.p (vl) rfl rfl ?_
  refine Run.q (v := .tuple #[.int .i64 ((((nwG n1 x1 ms).length : Nat) : Int)), .bool (nwB n1 x1 ms)]) rfl (OpQ.call (vs := [.agg #[.slice Au n1 cu], vl]) (caps := []) Tcall_14 rfl rfl (fun w hs => (by have h := sLeastNetwork_spec (ms := ms) (hrd _ (hs.holds _ (.tail _ (List.Mem.head _)))) (hs.slOwn (.tail _ (.tail _ (List.Mem.head _)))); exact h))) ?_
  refine Run.p (.tuple #[.int .i64 ((((nwG n1 x1 ms).length : Nat) : Int)), .bool (nwB n1 x1 ms)]) rfl rfl ?_
  refine Run.p (.int .i64 ((((nwG n1 x1 ms).length : Nat) : Int))) rfl rfl ?_
  refine Run.p (.bool (nwB n1 x1 ms)) rfl rfl ?_
  refine Run.p (.int .i64 ((((nwG n1 x1 ms).length : Nat) : Int))) rfl rfl ?_
  refine Run.p (.bool (nwB n1 x1 ms)) rfl rfl ?_
  refine Run.done ?_
  refine Run.seq ?_
  refine Run.sr ?_
  refine Run.p (.bool (mskOk K mk mk.length)) rfl rfl ?_
  refine Run.p (.bool (mskOk K mk mk.length)) rfl rfl ?_
  refine Run.y (.bool false) rfl (OpY.neqBSame Tbool_4 rfl rfl rfl) ?_
  refine Run.p (.bool false) rfl rfl ?_
  refine Run.y (.agg #[.int .i64 (gnN K mk), .slice A_ug11 ((gnG K mk).length) c_ug11]) rfl (OpY.loadN (cs := [.int .i64 (gnN K mk), .slice A_ug11 ((gnG K mk).length) c_ug11]) Tagg_38 rfl (Cells.blk (.tail _ (.tail _ (.tail _ (.tail _ (.tail _ (List.Mem.head _)))))) ⟨rfl, rfl, trivial⟩)) ?_
  refine Run.y (.agg #[.int .i64 (gnN K mk), .slice A_uh11 ((gnG K mk).length) c_uh11]) rfl (OpY.loadN (cs := [.int .i64 (gnN K mk), .slice A_uh11 ((gnG K mk).length) c_uh11]) Tagg_38 rfl (Cells.blk (.tail _ (.tail _ (.tail _ (List.Mem.head _)))) ⟨rfl, rfl, trivial⟩)) ?_
  refine Run.q (v := .bool true) rfl (OpQ.call (vs := [.agg #[.int .i64 (gnN K mk), .slice A_ug11 ((gnG K mk).length) c_ug11], .agg #[.int .i64 (gnN K mk), .slice A_uh11 ((gnG K mk).length) c_uh11]]) (caps := []) Tcall_33 rfl rfl (fun w hs => (by have h := EqualCircuits_spec (N := gnN K mk) (M := gnN K mk) (hs.slOwn (.tail _ (.tail _ (.tail _ (.tail _ (.tail _ (.tail _ (List.Mem.head _)))))))) (hs.slOwn (.tail _ (.tail _ (.tail _ (.tail _ (List.Mem.head _)))))); rw [eqc_same] at h; exact h))) ?_
  refine Run.p (.bool false) rfl rfl ?_
  refine Run.p (.bool false) rfl rfl ?_
  refine Run.p (.bool false) rfl rfl ?_
  refine Run.p (.bool (nwB n1 x1 ms)) rfl rfl ?_
  refine Run.p (.bool (nwB n1 x1 ms)) rfl rfl ?_
  refine Run.y (.bool false) rfl (OpY.neqBSame Tbool_4 rfl rfl rfl) ?_
  refine Run.p (.bool false) rfl rfl ?_
  refine Run.p (.bool false) rfl rfl ?_
  refine Run.p (.int .i64 ((((nwG n1 x1 ms).length : Nat) : Int))) rfl rfl ?_
  refine Run.p (.int .i64 ((((nwG n1 x1 ms).length : Nat) : Int))) rfl rfl ?_
  refine Run.y (.bool false) rfl (OpY.neqSame rfl rfl rfl) ?_
  refine Run.p (.bool false) rfl rfl ?_
  refine Run.done ?_
  refine Run.cond (b := false) rfl (fun h => nomatch h) (fun _ => ?_)
  refine Run.skip ?_
  refine Run.seq ?_
  refine Run.sr ?_
  refine Run.p (.bool (mskOk K mk mk.length)) rfl rfl ?_
  refine Run.done ?_
  refine Run.cond (b := mskOk K mk mk.length) rfl (fun h94 => ?_) (fun h94 => ?_)
  ·have p94 := h94; try simp only [bs] at p94
   have hmk : mskOk K mk mk.length = true := by simpa using p94
   have hk := gn_ok hmk
   refine Run.sr ?_
   refine Run.y (.agg #[.int .i64 (gnN K mk), .slice A_ug11 ((gnG K mk).length) c_ug11]) rfl (OpY.loadN (cs := [.int .i64 (gnN K mk), .slice A_ug11 ((gnG K mk).length) c_ug11]) Tagg_38 rfl (Cells.blk (.tail _ (.tail _ (.tail _ (.tail _ (.tail _ (List.Mem.head _)))))) ⟨rfl, rfl, trivial⟩)) ?_
   refine Run.p (vk) rfl rfl ?_
   refine Run.q (v := .tuple #[.bool true, .bool true]) rfl (OpQ.call (vs := [.agg #[.int .i64 (gnN K mk), .slice A_ug11 ((gnG K mk).length) c_ug11], vk]) (caps := []) Tcall_44 rfl rfl (fun w hs => (by have h := IsParityNetwork_spec (n := K) (G := gnG K mk) ⟨hk.n1, hk.n5⟩ hk.wok (by have := hk.gl; omega) (hs.slOwn (.tail _ (.tail _ (.tail _ (.tail _ (.tail _ (.tail _ (List.Mem.head _)))))))) (ms := mk) (mn := mk.length) (by rw [hlmk]; exact (hs.slOwn (.tail _ (.tail _ (.tail _ (.tail _ (.tail _ (.tail _ (.tail _ (List.Mem.head _)))))))))) hmk hk.app; rw [← hk.gN] at h; exact h))) ?_
   refine Run.p (.tuple #[.bool true, .bool true]) rfl rfl ?_
   refine Run.p (.bool true) rfl rfl ?_
   refine Run.p (.bool true) rfl rfl ?_
   refine Run.p (.bool true) rfl rfl ?_
   refine Run.p (.bool true) rfl rfl ?_
   refine Run.dsr ?_
   refine Run.p (.bool true) rfl rfl ?_
   refine Run.p (.bool false) rfl rfl ?_
   refine Run.p (.bool false) rfl rfl ?_
   refine Run.p (.bool true) rfl rfl ?_
   refine Run.p (.bool false) rfl rfl ?_
   refine Run.p (.bool false) rfl rfl ?_
   refine Run.done ?_
   refine Run.cond (b := false) rfl (fun h => nomatch h) (fun _ => ?_)
   refine Run.skip ?_
   refine Run.sr ?_
   refine Run.y (.agg #[.slice Au n1 cu]) rfl (OpY.loadN (cs := [.slice Au n1 cu]) Tagg_28 rfl (Cells.blk (.head _) ⟨rfl, trivial⟩)) ?_
   refine Run.p (vl) rfl rfl ?_
   refine Run.step rfl (OpStep.call (vs := [.agg #[.slice Au n1 cu], vl]) (caps := []) Tcall_25 rfl rfl (fun w hs => (by have h := ShortestNetwork_spec (ms := ms) (hrd _ (hs.holds _ (.tail _ (List.Mem.head _)))) (hs.slOwn (.tail _ (.tail _ (List.Mem.head _)))); exact h)) ?_)
   rintro _ _ ⟨us, rfl, rfl⟩
   show Run _ _ (putF _ _ _ (.tuple #[.agg #[.int .i64 (nwN n1 x1 ms), us], .bool (nwB n1 x1 ms)])) [.own us 71 3 ((nwG n1 x1 ms).length) (ints (flCX (dcw n1 (nwG n1 x1 ms)))), .blk b3 28 [.slice Au n1 cu], .own vb0 3 1 n0 (ints x0), .own vl 3 1 gm (ints ms), .blk b2 38 [.int .i64 (gnN K mk), .slice A_uh11 ((gnG K mk).length) c_uh11], .own (.slice A_uh11 ((gnG K mk).length) c_uh11) 71 3 ((gnG K mk).length) (ints (flCX (gnG K mk))), .blk b1 38 [.int .i64 (gnN K mk), .slice A_ug11 ((gnG K mk).length) c_ug11], .own (.slice A_ug11 ((gnG K mk).length) c_ug11) 71 3 ((gnG K mk).length) (ints (flCX (gnG K mk))), .own vk 3 1 kn (ints mk)]
   refine Run.p (.tuple #[.agg #[.int .i64 (nwN n1 x1 ms), us], .bool (nwB n1 x1 ms)]) rfl rfl ?_
   refine Run.p (.agg #[.int .i64 (nwN n1 x1 ms), us]) rfl rfl ?_
   refine Run.p (.bool (nwB n1 x1 ms)) rfl rfl ?_
   refine Run.step rfl (OpStep.alloc (zs := [.int .i64 0, .slice none 0 0]) Tzero_38 fun b4 => ?_)
   refine Run.formOwn (.tail _ (List.Mem.head _)) (fun A_us1 c_us1 hv hcapc_us1 hmaxc_us1 => ?_) (fun _ _ _ => ⟨nofun, nofun, nofun⟩)
   subst hv
   refine Run.step rfl (OpStep.storeAll (us := [.int .i64 (nwN n1 x1 ms), .slice A_us1 ((nwG n1 x1 ms).length) c_us1]) Tsize_38 rfl rfl rfl (.here _) rfl ?_)
   refine Run.p (.bool (nwB n1 x1 ms)) rfl rfl ?_
   refine Run.done ?_
   refine Run.seq ?_
   refine Run.sr ?_
   refine Run.p (.bool (nwB n1 x1 ms)) rfl rfl ?_
   refine Run.p (.bool (nwB n1 x1 ms)) rfl rfl ?_
   refine Run.y (.bool false) rfl (OpY.neqBSame Tbool_4 rfl rfl rfl) ?_
   refine Run.p (.bool false) rfl rfl ?_
   refine Run.y (.pointer (some ⟨b4, 1, none⟩)) rfl (OpY.fieldAddr Tfo_38_1 rfl rfl) ?_
   refine Run.y (.slice A_us1 ((nwG n1 x1 ms).length) c_us1) rfl (OpY.load1 Tone_36 rfl (Cells.blk (.head _) ⟨rfl, trivial⟩)) ?_
   refine Run.y (.int .i64 ((((nwG n1 x1 ms).length : Nat) : Int))) rfl (OpY.len Tsl_36 rfl) ?_
   refine Run.p (.int .i64 ((((nwG n1 x1 ms).length : Nat) : Int))) rfl rfl ?_
   refine Run.y (.bool false) rfl (OpY.neqSame rfl rfl rfl) ?_
   refine Run.p (.bool false) rfl rfl ?_
   refine Run.done ?_
   refine Run.cond (b := false) rfl (fun h => nomatch h) (fun _ => ?_)
   refine Run.skip ?_
   refine Run.seq ?_
   refine Run.sr ?_
   refine Run.p (.bool (nwB n1 x1 ms)) rfl rfl ?_
   refine Run.p (.bool (!(nwB n1 x1 ms))) rfl rfl ?_
   refine Run.done ?_
   refine Run.cond (b := !(nwB n1 x1 ms)) rfl (fun h124 => ?_) (fun h124 => ?_)
   ·have p124 := h124; try simp only [bs] at p124
    refine Run.sr ?_
    refine Run.p (.bool true) rfl rfl ?_
    refine Run.done ?_
    refine Run.ret ?_
    refine ⟨.bool true, [], Out.one rfl rfl, (Some'.weak (.nil _)), ?_⟩
    rfl
   ·have p124 := h124; try simp only [bs] at p124
    have hone : nwB n1 x1 ms = true := by simpa using p124
    have hnw := nw_ok h7 hone
    have hrun := nw_run h7 hone
    have hlo := lo_net h7 hone
    have hnet := net_ok h7 hone
    have hgl := gn_len n1 ms
    have hsy := syW_len (n := (netR n1 x1 ms).length) (nl (netR n1 x1 ms))
    have hle : decide ((((nwG n1 x1 ms).length : Nat) : Int) ≤ (((gnG n1 ms).length : Nat) : Int) + (((syW (netR n1 x1 ms).length (nl (netR n1 x1 ms))).length : Nat) : Int)) = true := decide_eq_true (by have := hnet.le; omega)
    refine Run.skip ?_
    refine Run.sr ?_
    refine Run.y (.agg #[.int .i64 (nwN n1 x1 ms), .slice A_us1 ((nwG n1 x1 ms).length) c_us1]) rfl (OpY.loadN (cs := [.int .i64 (nwN n1 x1 ms), .slice A_us1 ((nwG n1 x1 ms).length) c_us1]) Tagg_38 rfl (Cells.blk (.head _) ⟨rfl, rfl, trivial⟩)) ?_
    refine Run.step rfl (OpStep.call (vs := [.agg #[.int .i64 (nwN n1 x1 ms), .slice A_us1 ((nwG n1 x1 ms).length) c_us1]]) (caps := []) Tcall_31 rfl rfl (fun w hs => (by have h := LinearOf_spec (N := nwN n1 x1 ms) (hs.slOwn (.tail _ (List.Mem.head _))); rw [hlo.1, hlo.2] at h; exact h)) ?_)
    rintro _ _ ⟨ul1, rfl, rfl⟩
    show Run _ _ (putF _ _ _ (.tuple #[.agg #[ul1], .bool true])) [.own ul1 3 1 ((nats x1).length) (ints (nl (nats x1))), .blk b4 38 [.int .i64 (nwN n1 x1 ms), .slice A_us1 ((nwG n1 x1 ms).length) c_us1], .own (.slice A_us1 ((nwG n1 x1 ms).length) c_us1) 71 3 ((nwG n1 x1 ms).length) (ints (flCX (dcw n1 (nwG n1 x1 ms)))), .blk b3 28 [.slice Au n1 cu], .own vb0 3 1 n0 (ints x0), .own vl 3 1 gm (ints ms), .blk b2 38 [.int .i64 (gnN K mk), .slice A_uh11 ((gnG K mk).length) c_uh11], .own (.slice A_uh11 ((gnG K mk).length) c_uh11) 71 3 ((gnG K mk).length) (ints (flCX (gnG K mk))), .blk b1 38 [.int .i64 (gnN K mk), .slice A_ug11 ((gnG K mk).length) c_ug11], .own (.slice A_ug11 ((gnG K mk).length) c_ug11) 71 3 ((gnG K mk).length) (ints (flCX (gnG K mk))), .own vk 3 1 kn (ints mk)]
    refine Run.p (.tuple #[.agg #[ul1], .bool true]) rfl rfl ?_
    refine Run.p (.agg #[ul1]) rfl rfl ?_
    refine Run.p (.bool true) rfl rfl ?_
    refine Run.step rfl (OpStep.alloc (zs := [.slice none 0 0]) Tzero_28 fun b5 => ?_)
    refine Run.formOwn (.tail _ (List.Mem.head _)) (fun A_ul11 c_ul11 hv hcapc_ul11 hmaxc_ul11 => ?_) (fun _ _ _ => ⟨nofun, nofun, nofun⟩)
    subst hv
    refine Run.step rfl (OpStep.storeAll (us := [.slice A_ul11 ((nats x1).length) c_ul11]) Tsize_28 rfl rfl rfl (.here _) rfl ?_)
    refine Run.p (.bool true) rfl rfl ?_
    refine Run.dsr ?_
    refine Run.y (.agg #[.int .i64 (nwN n1 x1 ms), .slice A_us1 ((nwG n1 x1 ms).length) c_us1]) rfl (OpY.loadN (cs := [.int .i64 (nwN n1 x1 ms), .slice A_us1 ((nwG n1 x1 ms).length) c_us1]) Tagg_38 rfl (Cells.blk (.tail _ (.tail _ (List.Mem.head _))) ⟨rfl, rfl, trivial⟩)) ?_
    refine Run.p (vl) rfl rfl ?_
    refine Run.q (v := .tuple #[.bool true, .bool true]) rfl (OpQ.call (vs := [.agg #[.int .i64 (nwN n1 x1 ms), .slice A_us1 ((nwG n1 x1 ms).length) c_us1], vl]) (caps := []) Tcall_44 rfl rfl (fun w hs => (by have h := IsParityNetwork_spec (n := n1) (G := dcw n1 (nwG n1 x1 ms)) ⟨hnw.n1, by have := hnw.n3; omega⟩ hrun.1 (by rw [dcw_len]; have := hnw.len; omega) (by rw [dcw_len]; exact (hs.slOwn (.tail _ (.tail _ (.tail _ (List.Mem.head _)))))) (ms := ms) (mn := ms.length) (by rw [hlms]; exact (hs.slOwn (.tail _ (.tail _ (.tail _ (.tail _ (.tail _ (.tail _ (List.Mem.head _))))))))) hnw.mks hrun.2.2; rw [← nw_good hone] at h; exact h))) ?_
    refine Run.p (.tuple #[.bool true, .bool true]) rfl rfl ?_
    refine Run.p (.bool true) rfl rfl ?_
    refine Run.p (.bool true) rfl rfl ?_
    refine Run.p (.bool true) rfl rfl ?_
    refine Run.p (.bool true) rfl rfl ?_
    refine Run.done ?_
    refine Run.seq ?_
    refine Run.sr ?_
    refine Run.p (.bool true) rfl rfl ?_
    refine Run.p (.bool false) rfl rfl ?_
    refine Run.p (.bool false) rfl rfl ?_
    refine Run.p (.bool true) rfl rfl ?_
    refine Run.p (.bool false) rfl rfl ?_
    refine Run.p (.bool false) rfl rfl ?_
    refine Run.p (.bool false) rfl rfl ?_
    refine Run.p (.bool true) rfl rfl ?_
    refine Run.p (.bool false) rfl rfl ?_
    refine Run.p (.bool false) rfl rfl ?_
    refine Run.p (.bool false) rfl rfl ?_
    refine Run.y (.pointer (some ⟨b5, 0, none⟩)) rfl (OpY.fieldAddr Tfo_28_0 rfl rfl) ?_
    refine Run.y (.slice A_ul11 ((nats x1).length) c_ul11) rfl (OpY.load1 Tone_22 rfl (Cells.blk (.head _) ⟨rfl, trivial⟩)) ?_
    refine Run.y (.pointer (some ⟨b3, 0, none⟩)) rfl (OpY.fieldAddr Tfo_28_0 rfl rfl) ?_
    refine Run.y (.slice Au n1 cu) rfl (OpY.load1 Tone_22 rfl (Cells.blk (.tail _ (.tail _ (.tail _ (.tail _ (List.Mem.head _))))) ⟨rfl, trivial⟩)) ?_
    refine Run.q (v := .bool true) rfl (OpQ.call (vs := [.slice A_ul11 ((nats x1).length) c_ul11, .slice Au n1 cu]) (caps := []) Tcall_34 rfl rfl (fun w hs => (by have h := qInts_spec (xs := nl (nats x1)) (ys := x1) (hs.slOwn (.tail _ (List.Mem.head _))) (hrd _ (hs.holds _ (.tail _ (.tail _ (.tail _ (.tail _ (.tail _ (List.Mem.head _)))))))); rw [decide_eq_true hnw.nl] at h; exact h))) ?_
    refine Run.p (.bool false) rfl rfl ?_
    refine Run.p (.bool false) rfl rfl ?_
    refine Run.done ?_
    refine Run.cond (b := false) rfl (fun h => nomatch h) (fun _ => ?_)
    refine Run.skip ?_
    refine Run.sr ?_
    refine Run.y (.pointer (some ⟨b3, 0, none⟩)) rfl (OpY.fieldAddr Tfo_28_0 rfl rfl) ?_
    refine Run.y (.slice Au n1 cu) rfl (OpY.load1 Tone_22 rfl (Cells.blk (.tail _ (.tail _ (.tail _ (.tail _ (List.Mem.head _))))) ⟨rfl, trivial⟩)) ?_
    refine Run.y (.int .i64 (((n1 : Nat) : Int))) rfl (OpY.len Tsl_22 rfl) ?_
    refine Run.p (vl) rfl rfl ?_
    refine Run.step rfl (OpStep.call (vs := [.int .i64 (((n1 : Nat) : Int)), vl]) (caps := []) Tcall_41 rfl rfl (fun w hs => (by have h := GrayNetwork_spec (n := n1) (ms := ms) (by have h := hs.slOwn (.tail _ (.tail _ (.tail _ (.tail _ (.tail _ (.tail _ (List.Mem.head _))))))); rw [hlms]; exact h); exact h)) ?_)
    rintro _ _ ⟨ug2, rfl, rfl⟩
    show Run _ _ (putF _ _ _ (.tuple #[.agg #[.int .i64 (gnN n1 ms), ug2], .bool (mskOk n1 ms ms.length)])) [.own ug2 71 3 ((gnG n1 ms).length) (ints (flCX (gnG n1 ms))), .blk b5 28 [.slice A_ul11 ((nats x1).length) c_ul11], .own (.slice A_ul11 ((nats x1).length) c_ul11) 3 1 ((nats x1).length) (ints (nl (nats x1))), .blk b4 38 [.int .i64 (nwN n1 x1 ms), .slice A_us1 ((nwG n1 x1 ms).length) c_us1], .own (.slice A_us1 ((nwG n1 x1 ms).length) c_us1) 71 3 ((nwG n1 x1 ms).length) (ints (flCX (dcw n1 (nwG n1 x1 ms)))), .blk b3 28 [.slice Au n1 cu], .own vb0 3 1 n0 (ints x0), .own vl 3 1 gm (ints ms), .blk b2 38 [.int .i64 (gnN K mk), .slice A_uh11 ((gnG K mk).length) c_uh11], .own (.slice A_uh11 ((gnG K mk).length) c_uh11) 71 3 ((gnG K mk).length) (ints (flCX (gnG K mk))), .blk b1 38 [.int .i64 (gnN K mk), .slice A_ug11 ((gnG K mk).length) c_ug11], .own (.slice A_ug11 ((gnG K mk).length) c_ug11) 71 3 ((gnG K mk).length) (ints (flCX (gnG K mk))), .own vk 3 1 kn (ints mk)]
    refine Run.p (.tuple #[.agg #[.int .i64 (gnN n1 ms), ug2], .bool (mskOk n1 ms ms.length)]) rfl rfl ?_
    refine Run.p (.agg #[.int .i64 (gnN n1 ms), ug2]) rfl rfl ?_
    refine Run.p (.bool (mskOk n1 ms ms.length)) rfl rfl ?_
    refine Run.step rfl (OpStep.alloc (zs := [.int .i64 0, .slice none 0 0]) Tzero_38 fun b6 => ?_)
    refine Run.formOwn (.tail _ (List.Mem.head _)) (fun A_ug21 c_ug21 hv hcapc_ug21 hmaxc_ug21 => ?_) (fun _ _ _ => ⟨nofun, nofun, nofun⟩)
    subst hv
    refine Run.step rfl (OpStep.storeAll (us := [.int .i64 (gnN n1 ms), .slice A_ug21 ((gnG n1 ms).length) c_ug21]) Tsize_38 rfl rfl rfl (.here _) rfl ?_)
    refine Run.p (.bool (mskOk n1 ms ms.length)) rfl rfl ?_
    refine Run.dsr ?_
    refine Run.y (.agg #[.int .i64 (gnN n1 ms), .slice A_ug21 ((gnG n1 ms).length) c_ug21]) rfl (OpY.loadN (cs := [.int .i64 (gnN n1 ms), .slice A_ug21 ((gnG n1 ms).length) c_ug21]) Tagg_38 rfl (Cells.blk (.head _) ⟨rfl, rfl, trivial⟩)) ?_
    refine Run.step rfl (OpStep.call (vs := [.agg #[.int .i64 (gnN n1 ms), .slice A_ug21 ((gnG n1 ms).length) c_ug21]]) (caps := []) Tcall_31 rfl rfl (fun w hs => (by have h := LinearOf_spec (N := gnN n1 ms) (hs.slOwn (.tail _ (List.Mem.head _))); rw [hnet.lo.1, hnet.lo.2] at h; exact h)) ?_)
    rintro _ _ ⟨ul2, rfl, rfl⟩
    show Run _ _ (putF _ _ _ (.tuple #[.agg #[ul2], .bool true])) [.own ul2 3 1 ((netX n1 ms).length) (ints (nl (netX n1 ms))), .blk b6 38 [.int .i64 (gnN n1 ms), .slice A_ug21 ((gnG n1 ms).length) c_ug21], .own (.slice A_ug21 ((gnG n1 ms).length) c_ug21) 71 3 ((gnG n1 ms).length) (ints (flCX (gnG n1 ms))), .blk b5 28 [.slice A_ul11 ((nats x1).length) c_ul11], .own (.slice A_ul11 ((nats x1).length) c_ul11) 3 1 ((nats x1).length) (ints (nl (nats x1))), .blk b4 38 [.int .i64 (nwN n1 x1 ms), .slice A_us1 ((nwG n1 x1 ms).length) c_us1], .own (.slice A_us1 ((nwG n1 x1 ms).length) c_us1) 71 3 ((nwG n1 x1 ms).length) (ints (flCX (dcw n1 (nwG n1 x1 ms)))), .blk b3 28 [.slice Au n1 cu], .own vb0 3 1 n0 (ints x0), .own vl 3 1 gm (ints ms), .blk b2 38 [.int .i64 (gnN K mk), .slice A_uh11 ((gnG K mk).length) c_uh11], .own (.slice A_uh11 ((gnG K mk).length) c_uh11) 71 3 ((gnG K mk).length) (ints (flCX (gnG K mk))), .blk b1 38 [.int .i64 (gnN K mk), .slice A_ug11 ((gnG K mk).length) c_ug11], .own (.slice A_ug11 ((gnG K mk).length) c_ug11) 71 3 ((gnG K mk).length) (ints (flCX (gnG K mk))), .own vk 3 1 kn (ints mk)]
    refine Run.p (.tuple #[.agg #[ul2], .bool true]) rfl rfl ?_
    refine Run.p (.agg #[ul2]) rfl rfl ?_
    refine Run.p (.bool true) rfl rfl ?_
    refine Run.step rfl (OpStep.alloc (zs := [.slice none 0 0]) Tzero_28 fun b7 => ?_)
    refine Run.formOwn (.tail _ (List.Mem.head _)) (fun A_ul21 c_ul21 hv hcapc_ul21 hmaxc_ul21 => ?_) (fun _ _ _ => ⟨nofun, nofun, nofun⟩)
    subst hv
    refine Run.step rfl (OpStep.storeAll (us := [.slice A_ul21 ((netX n1 ms).length) c_ul21]) Tsize_28 rfl rfl rfl (.here _) rfl ?_)
    refine Run.p (.bool true) rfl rfl ?_
    refine Run.dsr ?_
    refine Run.y (.agg #[.slice A_ul21 ((netX n1 ms).length) c_ul21]) rfl (OpY.loadN (cs := [.slice A_ul21 ((netX n1 ms).length) c_ul21]) Tagg_28 rfl (Cells.blk (.head _) ⟨rfl, trivial⟩)) ?_
    refine Run.step rfl (OpStep.call (vs := [.agg #[.slice A_ul21 ((netX n1 ms).length) c_ul21]]) (caps := []) Tcall_36 rfl rfl (fun w hs => (by have h := InvertLinear_spec (hs.slOwn (.tail _ (List.Mem.head _))); rw [hnet.okX] at h; exact h)) ?_)
    rintro _ _ ⟨ui, rfl, rfl⟩
    show Run _ _ (putF _ _ _ (.tuple #[.agg #[ui], .bool true])) [.own ui 3 1 ((netB n1 ms).length) (ints (nl (netB n1 ms))), .blk b7 28 [.slice A_ul21 ((netX n1 ms).length) c_ul21], .own (.slice A_ul21 ((netX n1 ms).length) c_ul21) 3 1 ((netX n1 ms).length) (ints (nl (netX n1 ms))), .blk b6 38 [.int .i64 (gnN n1 ms), .slice A_ug21 ((gnG n1 ms).length) c_ug21], .own (.slice A_ug21 ((gnG n1 ms).length) c_ug21) 71 3 ((gnG n1 ms).length) (ints (flCX (gnG n1 ms))), .blk b5 28 [.slice A_ul11 ((nats x1).length) c_ul11], .own (.slice A_ul11 ((nats x1).length) c_ul11) 3 1 ((nats x1).length) (ints (nl (nats x1))), .blk b4 38 [.int .i64 (nwN n1 x1 ms), .slice A_us1 ((nwG n1 x1 ms).length) c_us1], .own (.slice A_us1 ((nwG n1 x1 ms).length) c_us1) 71 3 ((nwG n1 x1 ms).length) (ints (flCX (dcw n1 (nwG n1 x1 ms)))), .blk b3 28 [.slice Au n1 cu], .own vb0 3 1 n0 (ints x0), .own vl 3 1 gm (ints ms), .blk b2 38 [.int .i64 (gnN K mk), .slice A_uh11 ((gnG K mk).length) c_uh11], .own (.slice A_uh11 ((gnG K mk).length) c_uh11) 71 3 ((gnG K mk).length) (ints (flCX (gnG K mk))), .blk b1 38 [.int .i64 (gnN K mk), .slice A_ug11 ((gnG K mk).length) c_ug11], .own (.slice A_ug11 ((gnG K mk).length) c_ug11) 71 3 ((gnG K mk).length) (ints (flCX (gnG K mk))), .own vk 3 1 kn (ints mk)]
    refine Run.p (.tuple #[.agg #[ui], .bool true]) rfl rfl ?_
    refine Run.p (.agg #[ui]) rfl rfl ?_
    refine Run.p (.bool true) rfl rfl ?_
    refine Run.step rfl (OpStep.alloc (zs := [.slice none 0 0]) Tzero_28 fun b8 => ?_)
    refine Run.formOwn (.tail _ (List.Mem.head _)) (fun A_ui1 c_ui1 hv hcapc_ui1 hmaxc_ui1 => ?_) (fun _ _ _ => ⟨nofun, nofun, nofun⟩)
    subst hv
    refine Run.step rfl (OpStep.storeAll (us := [.slice A_ui1 ((netB n1 ms).length) c_ui1]) Tsize_28 rfl rfl rfl (.here _) rfl ?_)
    refine Run.p (.bool true) rfl rfl ?_
    refine Run.dsr ?_
    refine Run.y (.agg #[.slice A_ui1 ((netB n1 ms).length) c_ui1]) rfl (OpY.loadN (cs := [.slice A_ui1 ((netB n1 ms).length) c_ui1]) Tagg_28 rfl (Cells.blk (.head _) ⟨rfl, trivial⟩)) ?_
    refine Run.y (.agg #[.slice Au n1 cu]) rfl (OpY.loadN (cs := [.slice Au n1 cu]) Tagg_28 rfl (Cells.blk (.tail _ (.tail _ (.tail _ (.tail _ (.tail _ (.tail _ (.tail _ (.tail _ (.tail _ (.tail _ (List.Mem.head _))))))))))) ⟨rfl, trivial⟩)) ?_
    refine Run.step rfl (OpStep.call (vs := [.agg #[.slice A_ui1 ((netB n1 ms).length) c_ui1], .agg #[.slice Au n1 cu]]) (caps := []) Tcall_37 rfl rfl (fun w hs => (by have h := ComposeLinear_spec (hs.slOwn (.tail _ (List.Mem.head _))) (hrd _ (hs.holds _ (.tail _ (.tail _ (.tail _ (.tail _ (.tail _ (.tail _ (.tail _ (.tail _ (.tail _ (.tail _ (.tail _ (List.Mem.head _)))))))))))))); rw [hnet.co] at h; exact h)) ?_)
    rintro _ _ ⟨uo, rfl, rfl⟩
    show Run _ _ (putF _ _ _ (.tuple #[.agg #[uo], .bool true])) [.own uo 3 1 ((netR n1 x1 ms).length) (ints (nl (netR n1 x1 ms))), .blk b8 28 [.slice A_ui1 ((netB n1 ms).length) c_ui1], .own (.slice A_ui1 ((netB n1 ms).length) c_ui1) 3 1 ((netB n1 ms).length) (ints (nl (netB n1 ms))), .blk b7 28 [.slice A_ul21 ((netX n1 ms).length) c_ul21], .own (.slice A_ul21 ((netX n1 ms).length) c_ul21) 3 1 ((netX n1 ms).length) (ints (nl (netX n1 ms))), .blk b6 38 [.int .i64 (gnN n1 ms), .slice A_ug21 ((gnG n1 ms).length) c_ug21], .own (.slice A_ug21 ((gnG n1 ms).length) c_ug21) 71 3 ((gnG n1 ms).length) (ints (flCX (gnG n1 ms))), .blk b5 28 [.slice A_ul11 ((nats x1).length) c_ul11], .own (.slice A_ul11 ((nats x1).length) c_ul11) 3 1 ((nats x1).length) (ints (nl (nats x1))), .blk b4 38 [.int .i64 (nwN n1 x1 ms), .slice A_us1 ((nwG n1 x1 ms).length) c_us1], .own (.slice A_us1 ((nwG n1 x1 ms).length) c_us1) 71 3 ((nwG n1 x1 ms).length) (ints (flCX (dcw n1 (nwG n1 x1 ms)))), .blk b3 28 [.slice Au n1 cu], .own vb0 3 1 n0 (ints x0), .own vl 3 1 gm (ints ms), .blk b2 38 [.int .i64 (gnN K mk), .slice A_uh11 ((gnG K mk).length) c_uh11], .own (.slice A_uh11 ((gnG K mk).length) c_uh11) 71 3 ((gnG K mk).length) (ints (flCX (gnG K mk))), .blk b1 38 [.int .i64 (gnN K mk), .slice A_ug11 ((gnG K mk).length) c_ug11], .own (.slice A_ug11 ((gnG K mk).length) c_ug11) 71 3 ((gnG K mk).length) (ints (flCX (gnG K mk))), .own vk 3 1 kn (ints mk)]
    refine Run.p (.tuple #[.agg #[uo], .bool true]) rfl rfl ?_
    refine Run.p (.agg #[uo]) rfl rfl ?_
    refine Run.p (.bool true) rfl rfl ?_
    refine Run.step rfl (OpStep.alloc (zs := [.slice none 0 0]) Tzero_28 fun b9 => ?_)
    refine Run.formOwn (.tail _ (List.Mem.head _)) (fun A_uo1 c_uo1 hv hcapc_uo1 hmaxc_uo1 => ?_) (fun _ _ _ => ⟨nofun, nofun, nofun⟩)
    subst hv
    refine Run.step rfl (OpStep.storeAll (us := [.slice A_uo1 ((netR n1 x1 ms).length) c_uo1]) Tsize_28 rfl rfl rfl (.here _) rfl ?_)
    refine Run.p (.bool true) rfl rfl ?_
    refine Run.dsr ?_
    refine Run.y (.agg #[.slice A_uo1 ((netR n1 x1 ms).length) c_uo1]) rfl (OpY.loadN (cs := [.slice A_uo1 ((netR n1 x1 ms).length) c_uo1]) Tagg_28 rfl (Cells.blk (.head _) ⟨rfl, trivial⟩)) ?_
    refine Run.step rfl (OpStep.call (vs := [.agg #[.slice A_uo1 ((netR n1 x1 ms).length) c_uo1]]) (caps := []) Tcall_28 rfl rfl (fun w hs => (by have h := SynthesizeLinear_spec (hs.slOwn (.tail _ (List.Mem.head _))); rw [hnet.okR] at h; exact h)) ?_)
    rintro _ _ ⟨uy, rfl, rfl⟩
    show Run _ _ (putF _ _ _ (.tuple #[.agg #[.int .i64 (syN (netR n1 x1 ms).length (nl (netR n1 x1 ms))), uy], .bool true])) [.own uy 71 3 ((syW (netR n1 x1 ms).length (nl (netR n1 x1 ms))).length) (ints (flCX (syW (netR n1 x1 ms).length (nl (netR n1 x1 ms))))), .blk b9 28 [.slice A_uo1 ((netR n1 x1 ms).length) c_uo1], .own (.slice A_uo1 ((netR n1 x1 ms).length) c_uo1) 3 1 ((netR n1 x1 ms).length) (ints (nl (netR n1 x1 ms))), .blk b8 28 [.slice A_ui1 ((netB n1 ms).length) c_ui1], .own (.slice A_ui1 ((netB n1 ms).length) c_ui1) 3 1 ((netB n1 ms).length) (ints (nl (netB n1 ms))), .blk b7 28 [.slice A_ul21 ((netX n1 ms).length) c_ul21], .own (.slice A_ul21 ((netX n1 ms).length) c_ul21) 3 1 ((netX n1 ms).length) (ints (nl (netX n1 ms))), .blk b6 38 [.int .i64 (gnN n1 ms), .slice A_ug21 ((gnG n1 ms).length) c_ug21], .own (.slice A_ug21 ((gnG n1 ms).length) c_ug21) 71 3 ((gnG n1 ms).length) (ints (flCX (gnG n1 ms))), .blk b5 28 [.slice A_ul11 ((nats x1).length) c_ul11], .own (.slice A_ul11 ((nats x1).length) c_ul11) 3 1 ((nats x1).length) (ints (nl (nats x1))), .blk b4 38 [.int .i64 (nwN n1 x1 ms), .slice A_us1 ((nwG n1 x1 ms).length) c_us1], .own (.slice A_us1 ((nwG n1 x1 ms).length) c_us1) 71 3 ((nwG n1 x1 ms).length) (ints (flCX (dcw n1 (nwG n1 x1 ms)))), .blk b3 28 [.slice Au n1 cu], .own vb0 3 1 n0 (ints x0), .own vl 3 1 gm (ints ms), .blk b2 38 [.int .i64 (gnN K mk), .slice A_uh11 ((gnG K mk).length) c_uh11], .own (.slice A_uh11 ((gnG K mk).length) c_uh11) 71 3 ((gnG K mk).length) (ints (flCX (gnG K mk))), .blk b1 38 [.int .i64 (gnN K mk), .slice A_ug11 ((gnG K mk).length) c_ug11], .own (.slice A_ug11 ((gnG K mk).length) c_ug11) 71 3 ((gnG K mk).length) (ints (flCX (gnG K mk))), .own vk 3 1 kn (ints mk)]
    refine Run.p (.tuple #[.agg #[.int .i64 (syN (netR n1 x1 ms).length (nl (netR n1 x1 ms))), uy], .bool true]) rfl rfl ?_
    refine Run.p (.agg #[.int .i64 (syN (netR n1 x1 ms).length (nl (netR n1 x1 ms))), uy]) rfl rfl ?_
    refine Run.p (.bool true) rfl rfl ?_
    refine Run.step rfl (OpStep.alloc (zs := [.int .i64 0, .slice none 0 0]) Tzero_38 fun b10 => ?_)
    refine Run.formOwn (.tail _ (List.Mem.head _)) (fun A_uy1 c_uy1 hv hcapc_uy1 hmaxc_uy1 => ?_) (fun _ _ _ => ⟨nofun, nofun, nofun⟩)
    subst hv
    refine Run.step rfl (OpStep.storeAll (us := [.int .i64 (syN (netR n1 x1 ms).length (nl (netR n1 x1 ms))), .slice A_uy1 ((syW (netR n1 x1 ms).length (nl (netR n1 x1 ms))).length) c_uy1]) Tsize_38 rfl rfl rfl (.here _) rfl ?_)
    refine Run.p (.bool true) rfl rfl ?_
    refine Run.dsr ?_
    refine Run.p (.bool true) rfl rfl ?_
    refine Run.p (.bool true) rfl rfl ?_
    refine Run.p (.int .i64 ((((nwG n1 x1 ms).length : Nat) : Int))) rfl rfl ?_
    refine Run.y (.pointer (some ⟨b6, 1, none⟩)) rfl (OpY.fieldAddr Tfo_38_1 rfl rfl) ?_
    refine Run.y (.slice A_ug21 ((gnG n1 ms).length) c_ug21) rfl (OpY.load1 Tone_36 rfl (Cells.blk (.tail _ (.tail _ (.tail _ (.tail _ (.tail _ (.tail _ (.tail _ (.tail _ (List.Mem.head _))))))))) ⟨rfl, trivial⟩)) ?_
    refine Run.y (.int .i64 ((((gnG n1 ms).length : Nat) : Int))) rfl (OpY.len Tsl_36 rfl) ?_
    refine Run.y (.pointer (some ⟨b10, 1, none⟩)) rfl (OpY.fieldAddr Tfo_38_1 rfl rfl) ?_
    refine Run.y (.slice A_uy1 ((syW (netR n1 x1 ms).length (nl (netR n1 x1 ms))).length) c_uy1) rfl (OpY.load1 Tone_36 rfl (Cells.blk (.head _) ⟨rfl, trivial⟩)) ?_
    refine Run.y (.int .i64 ((((syW (netR n1 x1 ms).length (nl (netR n1 x1 ms))).length : Nat) : Int))) rfl (OpY.len Tsl_36 rfl) ?_
    refine Run.y (.int .i64 (((((gnG n1 ms).length : Nat) : Int)) + ((((syW (netR n1 x1 ms).length (nl (netR n1 x1 ms))).length : Nat) : Int)))) rfl (OpY.add rfl rfl rfl (by omega) (by omega)) ?_
    refine Run.p (.bool (decide (((((nwG n1 x1 ms).length : Nat) : Int)) ≤ (((((gnG n1 ms).length : Nat) : Int)) + ((((syW (netR n1 x1 ms).length (nl (netR n1 x1 ms))).length : Nat) : Int)))))) rfl rfl ?_
    refine Run.p (.bool (decide (((((nwG n1 x1 ms).length : Nat) : Int)) ≤ (((((gnG n1 ms).length : Nat) : Int)) + ((((syW (netR n1 x1 ms).length (nl (netR n1 x1 ms))).length : Nat) : Int)))))) rfl rfl ?_
    refine Run.p (.bool (decide (((((nwG n1 x1 ms).length : Nat) : Int)) ≤ (((((gnG n1 ms).length : Nat) : Int)) + ((((syW (netR n1 x1 ms).length (nl (netR n1 x1 ms))).length : Nat) : Int)))))) rfl rfl ?_
    refine Run.done ?_
    refine Run.ret ?_
    refine ⟨.bool (decide (((((nwG n1 x1 ms).length : Nat) : Int)) ≤ (((((gnG n1 ms).length : Nat) : Int)) + ((((syW (netR n1 x1 ms).length (nl (netR n1 x1 ms))).length : Nat) : Int))))), [], Out.one rfl rfl, (Some'.weak (.nil _)), ?_⟩
    show _ = _; rw [hle]
  ·have p94 := h94; try simp only [bs] at p94
   refine Run.skip ?_
   refine Run.sr ?_
   refine Run.y (.agg #[.slice Au n1 cu]) rfl (OpY.loadN (cs := [.slice Au n1 cu]) Tagg_28 rfl (Cells.blk (.head _) ⟨rfl, trivial⟩)) ?_
   refine Run.p (vl) rfl rfl ?_
   refine Run.step rfl (OpStep.call (vs := [.agg #[.slice Au n1 cu], vl]) (caps := []) Tcall_25 rfl rfl (fun w hs => (by have h := ShortestNetwork_spec (ms := ms) (hrd _ (hs.holds _ (.tail _ (List.Mem.head _)))) (hs.slOwn (.tail _ (.tail _ (List.Mem.head _)))); exact h)) ?_)
   rintro _ _ ⟨us, rfl, rfl⟩
   show Run _ _ (putF _ _ _ (.tuple #[.agg #[.int .i64 (nwN n1 x1 ms), us], .bool (nwB n1 x1 ms)])) [.own us 71 3 ((nwG n1 x1 ms).length) (ints (flCX (dcw n1 (nwG n1 x1 ms)))), .blk b3 28 [.slice Au n1 cu], .own vb0 3 1 n0 (ints x0), .own vl 3 1 gm (ints ms), .blk b2 38 [.int .i64 (gnN K mk), .slice A_uh11 ((gnG K mk).length) c_uh11], .own (.slice A_uh11 ((gnG K mk).length) c_uh11) 71 3 ((gnG K mk).length) (ints (flCX (gnG K mk))), .blk b1 38 [.int .i64 (gnN K mk), .slice A_ug11 ((gnG K mk).length) c_ug11], .own (.slice A_ug11 ((gnG K mk).length) c_ug11) 71 3 ((gnG K mk).length) (ints (flCX (gnG K mk))), .own vk 3 1 kn (ints mk)]
   refine Run.p (.tuple #[.agg #[.int .i64 (nwN n1 x1 ms), us], .bool (nwB n1 x1 ms)]) rfl rfl ?_
   refine Run.p (.agg #[.int .i64 (nwN n1 x1 ms), us]) rfl rfl ?_
   refine Run.p (.bool (nwB n1 x1 ms)) rfl rfl ?_
   refine Run.step rfl (OpStep.alloc (zs := [.int .i64 0, .slice none 0 0]) Tzero_38 fun b11 => ?_)
   refine Run.formOwn (.tail _ (List.Mem.head _)) (fun A_us2 c_us2 hv hcapc_us2 hmaxc_us2 => ?_) (fun _ _ _ => ⟨nofun, nofun, nofun⟩)
   subst hv
   refine Run.step rfl (OpStep.storeAll (us := [.int .i64 (nwN n1 x1 ms), .slice A_us2 ((nwG n1 x1 ms).length) c_us2]) Tsize_38 rfl rfl rfl (.here _) rfl ?_)
   refine Run.p (.bool (nwB n1 x1 ms)) rfl rfl ?_
   refine Run.done ?_
   refine Run.seq ?_
   refine Run.sr ?_
   refine Run.p (.bool (nwB n1 x1 ms)) rfl rfl ?_
   refine Run.p (.bool (nwB n1 x1 ms)) rfl rfl ?_
   refine Run.y (.bool false) rfl (OpY.neqBSame Tbool_4 rfl rfl rfl) ?_
   refine Run.p (.bool false) rfl rfl ?_
   refine Run.y (.pointer (some ⟨b11, 1, none⟩)) rfl (OpY.fieldAddr Tfo_38_1 rfl rfl) ?_
   refine Run.y (.slice A_us2 ((nwG n1 x1 ms).length) c_us2) rfl (OpY.load1 Tone_36 rfl (Cells.blk (.head _) ⟨rfl, trivial⟩)) ?_
   refine Run.y (.int .i64 ((((nwG n1 x1 ms).length : Nat) : Int))) rfl (OpY.len Tsl_36 rfl) ?_
   refine Run.p (.int .i64 ((((nwG n1 x1 ms).length : Nat) : Int))) rfl rfl ?_
   refine Run.y (.bool false) rfl (OpY.neqSame rfl rfl rfl) ?_
   refine Run.p (.bool false) rfl rfl ?_
   refine Run.done ?_
   refine Run.cond (b := false) rfl (fun h => nomatch h) (fun _ => ?_)
   refine Run.skip ?_
   refine Run.seq ?_
   refine Run.sr ?_
   refine Run.p (.bool (nwB n1 x1 ms)) rfl rfl ?_
   refine Run.p (.bool (!(nwB n1 x1 ms))) rfl rfl ?_
   refine Run.done ?_
   refine Run.cond (b := !(nwB n1 x1 ms)) rfl (fun h124 => ?_) (fun h124 => ?_)
   ·have p124 := h124; try simp only [bs] at p124
    refine Run.sr ?_
    refine Run.p (.bool true) rfl rfl ?_
    refine Run.done ?_
    refine Run.ret ?_
    refine ⟨.bool true, [], Out.one rfl rfl, (Some'.weak (.nil _)), ?_⟩
    rfl
   ·have p124 := h124; try simp only [bs] at p124
    have hone : nwB n1 x1 ms = true := by simpa using p124
    have hnw := nw_ok h7 hone
    have hrun := nw_run h7 hone
    have hlo := lo_net h7 hone
    have hnet := net_ok h7 hone
    have hgl := gn_len n1 ms
    have hsy := syW_len (n := (netR n1 x1 ms).length) (nl (netR n1 x1 ms))
    have hle : decide ((((nwG n1 x1 ms).length : Nat) : Int) ≤ (((gnG n1 ms).length : Nat) : Int) + (((syW (netR n1 x1 ms).length (nl (netR n1 x1 ms))).length : Nat) : Int)) = true := decide_eq_true (by have := hnet.le; omega)
    refine Run.skip ?_
    refine Run.sr ?_
    refine Run.y (.agg #[.int .i64 (nwN n1 x1 ms), .slice A_us2 ((nwG n1 x1 ms).length) c_us2]) rfl (OpY.loadN (cs := [.int .i64 (nwN n1 x1 ms), .slice A_us2 ((nwG n1 x1 ms).length) c_us2]) Tagg_38 rfl (Cells.blk (.head _) ⟨rfl, rfl, trivial⟩)) ?_
    refine Run.step rfl (OpStep.call (vs := [.agg #[.int .i64 (nwN n1 x1 ms), .slice A_us2 ((nwG n1 x1 ms).length) c_us2]]) (caps := []) Tcall_31 rfl rfl (fun w hs => (by have h := LinearOf_spec (N := nwN n1 x1 ms) (hs.slOwn (.tail _ (List.Mem.head _))); rw [hlo.1, hlo.2] at h; exact h)) ?_)
    rintro _ _ ⟨ul3, rfl, rfl⟩
    show Run _ _ (putF _ _ _ (.tuple #[.agg #[ul3], .bool true])) [.own ul3 3 1 ((nats x1).length) (ints (nl (nats x1))), .blk b11 38 [.int .i64 (nwN n1 x1 ms), .slice A_us2 ((nwG n1 x1 ms).length) c_us2], .own (.slice A_us2 ((nwG n1 x1 ms).length) c_us2) 71 3 ((nwG n1 x1 ms).length) (ints (flCX (dcw n1 (nwG n1 x1 ms)))), .blk b3 28 [.slice Au n1 cu], .own vb0 3 1 n0 (ints x0), .own vl 3 1 gm (ints ms), .blk b2 38 [.int .i64 (gnN K mk), .slice A_uh11 ((gnG K mk).length) c_uh11], .own (.slice A_uh11 ((gnG K mk).length) c_uh11) 71 3 ((gnG K mk).length) (ints (flCX (gnG K mk))), .blk b1 38 [.int .i64 (gnN K mk), .slice A_ug11 ((gnG K mk).length) c_ug11], .own (.slice A_ug11 ((gnG K mk).length) c_ug11) 71 3 ((gnG K mk).length) (ints (flCX (gnG K mk))), .own vk 3 1 kn (ints mk)]
    refine Run.p (.tuple #[.agg #[ul3], .bool true]) rfl rfl ?_
    refine Run.p (.agg #[ul3]) rfl rfl ?_
    refine Run.p (.bool true) rfl rfl ?_
    refine Run.step rfl (OpStep.alloc (zs := [.slice none 0 0]) Tzero_28 fun b12 => ?_)
    refine Run.formOwn (.tail _ (List.Mem.head _)) (fun A_ul31 c_ul31 hv hcapc_ul31 hmaxc_ul31 => ?_) (fun _ _ _ => ⟨nofun, nofun, nofun⟩)
    subst hv
    refine Run.step rfl (OpStep.storeAll (us := [.slice A_ul31 ((nats x1).length) c_ul31]) Tsize_28 rfl rfl rfl (.here _) rfl ?_)
    refine Run.p (.bool true) rfl rfl ?_
    refine Run.dsr ?_
    refine Run.y (.agg #[.int .i64 (nwN n1 x1 ms), .slice A_us2 ((nwG n1 x1 ms).length) c_us2]) rfl (OpY.loadN (cs := [.int .i64 (nwN n1 x1 ms), .slice A_us2 ((nwG n1 x1 ms).length) c_us2]) Tagg_38 rfl (Cells.blk (.tail _ (.tail _ (List.Mem.head _))) ⟨rfl, rfl, trivial⟩)) ?_
    refine Run.p (vl) rfl rfl ?_
    refine Run.q (v := .tuple #[.bool true, .bool true]) rfl (OpQ.call (vs := [.agg #[.int .i64 (nwN n1 x1 ms), .slice A_us2 ((nwG n1 x1 ms).length) c_us2], vl]) (caps := []) Tcall_44 rfl rfl (fun w hs => (by have h := IsParityNetwork_spec (n := n1) (G := dcw n1 (nwG n1 x1 ms)) ⟨hnw.n1, by have := hnw.n3; omega⟩ hrun.1 (by rw [dcw_len]; have := hnw.len; omega) (by rw [dcw_len]; exact (hs.slOwn (.tail _ (.tail _ (.tail _ (List.Mem.head _)))))) (ms := ms) (mn := ms.length) (by rw [hlms]; exact (hs.slOwn (.tail _ (.tail _ (.tail _ (.tail _ (.tail _ (.tail _ (List.Mem.head _))))))))) hnw.mks hrun.2.2; rw [← nw_good hone] at h; exact h))) ?_
    refine Run.p (.tuple #[.bool true, .bool true]) rfl rfl ?_
    refine Run.p (.bool true) rfl rfl ?_
    refine Run.p (.bool true) rfl rfl ?_
    refine Run.p (.bool true) rfl rfl ?_
    refine Run.p (.bool true) rfl rfl ?_
    refine Run.done ?_
    refine Run.seq ?_
    refine Run.sr ?_
    refine Run.p (.bool true) rfl rfl ?_
    refine Run.p (.bool false) rfl rfl ?_
    refine Run.p (.bool false) rfl rfl ?_
    refine Run.p (.bool true) rfl rfl ?_
    refine Run.p (.bool false) rfl rfl ?_
    refine Run.p (.bool false) rfl rfl ?_
    refine Run.p (.bool false) rfl rfl ?_
    refine Run.p (.bool true) rfl rfl ?_
    refine Run.p (.bool false) rfl rfl ?_
    refine Run.p (.bool false) rfl rfl ?_
    refine Run.p (.bool false) rfl rfl ?_
    refine Run.y (.pointer (some ⟨b12, 0, none⟩)) rfl (OpY.fieldAddr Tfo_28_0 rfl rfl) ?_
    refine Run.y (.slice A_ul31 ((nats x1).length) c_ul31) rfl (OpY.load1 Tone_22 rfl (Cells.blk (.head _) ⟨rfl, trivial⟩)) ?_
    refine Run.y (.pointer (some ⟨b3, 0, none⟩)) rfl (OpY.fieldAddr Tfo_28_0 rfl rfl) ?_
    refine Run.y (.slice Au n1 cu) rfl (OpY.load1 Tone_22 rfl (Cells.blk (.tail _ (.tail _ (.tail _ (.tail _ (List.Mem.head _))))) ⟨rfl, trivial⟩)) ?_
    refine Run.q (v := .bool true) rfl (OpQ.call (vs := [.slice A_ul31 ((nats x1).length) c_ul31, .slice Au n1 cu]) (caps := []) Tcall_34 rfl rfl (fun w hs => (by have h := qInts_spec (xs := nl (nats x1)) (ys := x1) (hs.slOwn (.tail _ (List.Mem.head _))) (hrd _ (hs.holds _ (.tail _ (.tail _ (.tail _ (.tail _ (.tail _ (List.Mem.head _)))))))); rw [decide_eq_true hnw.nl] at h; exact h))) ?_
    refine Run.p (.bool false) rfl rfl ?_
    refine Run.p (.bool false) rfl rfl ?_
    refine Run.done ?_
    refine Run.cond (b := false) rfl (fun h => nomatch h) (fun _ => ?_)
    refine Run.skip ?_
    refine Run.sr ?_
    refine Run.y (.pointer (some ⟨b3, 0, none⟩)) rfl (OpY.fieldAddr Tfo_28_0 rfl rfl) ?_
    refine Run.y (.slice Au n1 cu) rfl (OpY.load1 Tone_22 rfl (Cells.blk (.tail _ (.tail _ (.tail _ (.tail _ (List.Mem.head _))))) ⟨rfl, trivial⟩)) ?_
    refine Run.y (.int .i64 (((n1 : Nat) : Int))) rfl (OpY.len Tsl_22 rfl) ?_
    refine Run.p (vl) rfl rfl ?_
    refine Run.step rfl (OpStep.call (vs := [.int .i64 (((n1 : Nat) : Int)), vl]) (caps := []) Tcall_41 rfl rfl (fun w hs => (by have h := GrayNetwork_spec (n := n1) (ms := ms) (by have h := hs.slOwn (.tail _ (.tail _ (.tail _ (.tail _ (.tail _ (.tail _ (List.Mem.head _))))))); rw [hlms]; exact h); exact h)) ?_)
    rintro _ _ ⟨ug3, rfl, rfl⟩
    show Run _ _ (putF _ _ _ (.tuple #[.agg #[.int .i64 (gnN n1 ms), ug3], .bool (mskOk n1 ms ms.length)])) [.own ug3 71 3 ((gnG n1 ms).length) (ints (flCX (gnG n1 ms))), .blk b12 28 [.slice A_ul31 ((nats x1).length) c_ul31], .own (.slice A_ul31 ((nats x1).length) c_ul31) 3 1 ((nats x1).length) (ints (nl (nats x1))), .blk b11 38 [.int .i64 (nwN n1 x1 ms), .slice A_us2 ((nwG n1 x1 ms).length) c_us2], .own (.slice A_us2 ((nwG n1 x1 ms).length) c_us2) 71 3 ((nwG n1 x1 ms).length) (ints (flCX (dcw n1 (nwG n1 x1 ms)))), .blk b3 28 [.slice Au n1 cu], .own vb0 3 1 n0 (ints x0), .own vl 3 1 gm (ints ms), .blk b2 38 [.int .i64 (gnN K mk), .slice A_uh11 ((gnG K mk).length) c_uh11], .own (.slice A_uh11 ((gnG K mk).length) c_uh11) 71 3 ((gnG K mk).length) (ints (flCX (gnG K mk))), .blk b1 38 [.int .i64 (gnN K mk), .slice A_ug11 ((gnG K mk).length) c_ug11], .own (.slice A_ug11 ((gnG K mk).length) c_ug11) 71 3 ((gnG K mk).length) (ints (flCX (gnG K mk))), .own vk 3 1 kn (ints mk)]
    refine Run.p (.tuple #[.agg #[.int .i64 (gnN n1 ms), ug3], .bool (mskOk n1 ms ms.length)]) rfl rfl ?_
    refine Run.p (.agg #[.int .i64 (gnN n1 ms), ug3]) rfl rfl ?_
    refine Run.p (.bool (mskOk n1 ms ms.length)) rfl rfl ?_
    refine Run.step rfl (OpStep.alloc (zs := [.int .i64 0, .slice none 0 0]) Tzero_38 fun b13 => ?_)
    refine Run.formOwn (.tail _ (List.Mem.head _)) (fun A_ug31 c_ug31 hv hcapc_ug31 hmaxc_ug31 => ?_) (fun _ _ _ => ⟨nofun, nofun, nofun⟩)
    subst hv
    refine Run.step rfl (OpStep.storeAll (us := [.int .i64 (gnN n1 ms), .slice A_ug31 ((gnG n1 ms).length) c_ug31]) Tsize_38 rfl rfl rfl (.here _) rfl ?_)
    refine Run.p (.bool (mskOk n1 ms ms.length)) rfl rfl ?_
    refine Run.dsr ?_
    refine Run.y (.agg #[.int .i64 (gnN n1 ms), .slice A_ug31 ((gnG n1 ms).length) c_ug31]) rfl (OpY.loadN (cs := [.int .i64 (gnN n1 ms), .slice A_ug31 ((gnG n1 ms).length) c_ug31]) Tagg_38 rfl (Cells.blk (.head _) ⟨rfl, rfl, trivial⟩)) ?_
    refine Run.step rfl (OpStep.call (vs := [.agg #[.int .i64 (gnN n1 ms), .slice A_ug31 ((gnG n1 ms).length) c_ug31]]) (caps := []) Tcall_31 rfl rfl (fun w hs => (by have h := LinearOf_spec (N := gnN n1 ms) (hs.slOwn (.tail _ (List.Mem.head _))); rw [hnet.lo.1, hnet.lo.2] at h; exact h)) ?_)
    rintro _ _ ⟨ul4, rfl, rfl⟩
    show Run _ _ (putF _ _ _ (.tuple #[.agg #[ul4], .bool true])) [.own ul4 3 1 ((netX n1 ms).length) (ints (nl (netX n1 ms))), .blk b13 38 [.int .i64 (gnN n1 ms), .slice A_ug31 ((gnG n1 ms).length) c_ug31], .own (.slice A_ug31 ((gnG n1 ms).length) c_ug31) 71 3 ((gnG n1 ms).length) (ints (flCX (gnG n1 ms))), .blk b12 28 [.slice A_ul31 ((nats x1).length) c_ul31], .own (.slice A_ul31 ((nats x1).length) c_ul31) 3 1 ((nats x1).length) (ints (nl (nats x1))), .blk b11 38 [.int .i64 (nwN n1 x1 ms), .slice A_us2 ((nwG n1 x1 ms).length) c_us2], .own (.slice A_us2 ((nwG n1 x1 ms).length) c_us2) 71 3 ((nwG n1 x1 ms).length) (ints (flCX (dcw n1 (nwG n1 x1 ms)))), .blk b3 28 [.slice Au n1 cu], .own vb0 3 1 n0 (ints x0), .own vl 3 1 gm (ints ms), .blk b2 38 [.int .i64 (gnN K mk), .slice A_uh11 ((gnG K mk).length) c_uh11], .own (.slice A_uh11 ((gnG K mk).length) c_uh11) 71 3 ((gnG K mk).length) (ints (flCX (gnG K mk))), .blk b1 38 [.int .i64 (gnN K mk), .slice A_ug11 ((gnG K mk).length) c_ug11], .own (.slice A_ug11 ((gnG K mk).length) c_ug11) 71 3 ((gnG K mk).length) (ints (flCX (gnG K mk))), .own vk 3 1 kn (ints mk)]
    refine Run.p (.tuple #[.agg #[ul4], .bool true]) rfl rfl ?_
    refine Run.p (.agg #[ul4]) rfl rfl ?_
    refine Run.p (.bool true) rfl rfl ?_
    refine Run.step rfl (OpStep.alloc (zs := [.slice none 0 0]) Tzero_28 fun b14 => ?_)
    refine Run.formOwn (.tail _ (List.Mem.head _)) (fun A_ul41 c_ul41 hv hcapc_ul41 hmaxc_ul41 => ?_) (fun _ _ _ => ⟨nofun, nofun, nofun⟩)
    subst hv
    refine Run.step rfl (OpStep.storeAll (us := [.slice A_ul41 ((netX n1 ms).length) c_ul41]) Tsize_28 rfl rfl rfl (.here _) rfl ?_)
    refine Run.p (.bool true) rfl rfl ?_
    refine Run.dsr ?_
    refine Run.y (.agg #[.slice A_ul41 ((netX n1 ms).length) c_ul41]) rfl (OpY.loadN (cs := [.slice A_ul41 ((netX n1 ms).length) c_ul41]) Tagg_28 rfl (Cells.blk (.head _) ⟨rfl, trivial⟩)) ?_
    refine Run.step rfl (OpStep.call (vs := [.agg #[.slice A_ul41 ((netX n1 ms).length) c_ul41]]) (caps := []) Tcall_36 rfl rfl (fun w hs => (by have h := InvertLinear_spec (hs.slOwn (.tail _ (List.Mem.head _))); rw [hnet.okX] at h; exact h)) ?_)
    rintro _ _ ⟨ui, rfl, rfl⟩
    show Run _ _ (putF _ _ _ (.tuple #[.agg #[ui], .bool true])) [.own ui 3 1 ((netB n1 ms).length) (ints (nl (netB n1 ms))), .blk b14 28 [.slice A_ul41 ((netX n1 ms).length) c_ul41], .own (.slice A_ul41 ((netX n1 ms).length) c_ul41) 3 1 ((netX n1 ms).length) (ints (nl (netX n1 ms))), .blk b13 38 [.int .i64 (gnN n1 ms), .slice A_ug31 ((gnG n1 ms).length) c_ug31], .own (.slice A_ug31 ((gnG n1 ms).length) c_ug31) 71 3 ((gnG n1 ms).length) (ints (flCX (gnG n1 ms))), .blk b12 28 [.slice A_ul31 ((nats x1).length) c_ul31], .own (.slice A_ul31 ((nats x1).length) c_ul31) 3 1 ((nats x1).length) (ints (nl (nats x1))), .blk b11 38 [.int .i64 (nwN n1 x1 ms), .slice A_us2 ((nwG n1 x1 ms).length) c_us2], .own (.slice A_us2 ((nwG n1 x1 ms).length) c_us2) 71 3 ((nwG n1 x1 ms).length) (ints (flCX (dcw n1 (nwG n1 x1 ms)))), .blk b3 28 [.slice Au n1 cu], .own vb0 3 1 n0 (ints x0), .own vl 3 1 gm (ints ms), .blk b2 38 [.int .i64 (gnN K mk), .slice A_uh11 ((gnG K mk).length) c_uh11], .own (.slice A_uh11 ((gnG K mk).length) c_uh11) 71 3 ((gnG K mk).length) (ints (flCX (gnG K mk))), .blk b1 38 [.int .i64 (gnN K mk), .slice A_ug11 ((gnG K mk).length) c_ug11], .own (.slice A_ug11 ((gnG K mk).length) c_ug11) 71 3 ((gnG K mk).length) (ints (flCX (gnG K mk))), .own vk 3 1 kn (ints mk)]
    refine Run.p (.tuple #[.agg #[ui], .bool true]) rfl rfl ?_
    refine Run.p (.agg #[ui]) rfl rfl ?_
    refine Run.p (.bool true) rfl rfl ?_
    refine Run.step rfl (OpStep.alloc (zs := [.slice none 0 0]) Tzero_28 fun b15 => ?_)
    refine Run.formOwn (.tail _ (List.Mem.head _)) (fun A_ui2 c_ui2 hv hcapc_ui2 hmaxc_ui2 => ?_) (fun _ _ _ => ⟨nofun, nofun, nofun⟩)
    subst hv
    refine Run.step rfl (OpStep.storeAll (us := [.slice A_ui2 ((netB n1 ms).length) c_ui2]) Tsize_28 rfl rfl rfl (.here _) rfl ?_)
    refine Run.p (.bool true) rfl rfl ?_
    refine Run.dsr ?_
    refine Run.y (.agg #[.slice A_ui2 ((netB n1 ms).length) c_ui2]) rfl (OpY.loadN (cs := [.slice A_ui2 ((netB n1 ms).length) c_ui2]) Tagg_28 rfl (Cells.blk (.head _) ⟨rfl, trivial⟩)) ?_
    refine Run.y (.agg #[.slice Au n1 cu]) rfl (OpY.loadN (cs := [.slice Au n1 cu]) Tagg_28 rfl (Cells.blk (.tail _ (.tail _ (.tail _ (.tail _ (.tail _ (.tail _ (.tail _ (.tail _ (.tail _ (.tail _ (List.Mem.head _))))))))))) ⟨rfl, trivial⟩)) ?_
    refine Run.step rfl (OpStep.call (vs := [.agg #[.slice A_ui2 ((netB n1 ms).length) c_ui2], .agg #[.slice Au n1 cu]]) (caps := []) Tcall_37 rfl rfl (fun w hs => (by have h := ComposeLinear_spec (hs.slOwn (.tail _ (List.Mem.head _))) (hrd _ (hs.holds _ (.tail _ (.tail _ (.tail _ (.tail _ (.tail _ (.tail _ (.tail _ (.tail _ (.tail _ (.tail _ (.tail _ (List.Mem.head _)))))))))))))); rw [hnet.co] at h; exact h)) ?_)
    rintro _ _ ⟨uo, rfl, rfl⟩
    show Run _ _ (putF _ _ _ (.tuple #[.agg #[uo], .bool true])) [.own uo 3 1 ((netR n1 x1 ms).length) (ints (nl (netR n1 x1 ms))), .blk b15 28 [.slice A_ui2 ((netB n1 ms).length) c_ui2], .own (.slice A_ui2 ((netB n1 ms).length) c_ui2) 3 1 ((netB n1 ms).length) (ints (nl (netB n1 ms))), .blk b14 28 [.slice A_ul41 ((netX n1 ms).length) c_ul41], .own (.slice A_ul41 ((netX n1 ms).length) c_ul41) 3 1 ((netX n1 ms).length) (ints (nl (netX n1 ms))), .blk b13 38 [.int .i64 (gnN n1 ms), .slice A_ug31 ((gnG n1 ms).length) c_ug31], .own (.slice A_ug31 ((gnG n1 ms).length) c_ug31) 71 3 ((gnG n1 ms).length) (ints (flCX (gnG n1 ms))), .blk b12 28 [.slice A_ul31 ((nats x1).length) c_ul31], .own (.slice A_ul31 ((nats x1).length) c_ul31) 3 1 ((nats x1).length) (ints (nl (nats x1))), .blk b11 38 [.int .i64 (nwN n1 x1 ms), .slice A_us2 ((nwG n1 x1 ms).length) c_us2], .own (.slice A_us2 ((nwG n1 x1 ms).length) c_us2) 71 3 ((nwG n1 x1 ms).length) (ints (flCX (dcw n1 (nwG n1 x1 ms)))), .blk b3 28 [.slice Au n1 cu], .own vb0 3 1 n0 (ints x0), .own vl 3 1 gm (ints ms), .blk b2 38 [.int .i64 (gnN K mk), .slice A_uh11 ((gnG K mk).length) c_uh11], .own (.slice A_uh11 ((gnG K mk).length) c_uh11) 71 3 ((gnG K mk).length) (ints (flCX (gnG K mk))), .blk b1 38 [.int .i64 (gnN K mk), .slice A_ug11 ((gnG K mk).length) c_ug11], .own (.slice A_ug11 ((gnG K mk).length) c_ug11) 71 3 ((gnG K mk).length) (ints (flCX (gnG K mk))), .own vk 3 1 kn (ints mk)]
    refine Run.p (.tuple #[.agg #[uo], .bool true]) rfl rfl ?_
    refine Run.p (.agg #[uo]) rfl rfl ?_
    refine Run.p (.bool true) rfl rfl ?_
    refine Run.step rfl (OpStep.alloc (zs := [.slice none 0 0]) Tzero_28 fun b16 => ?_)
    refine Run.formOwn (.tail _ (List.Mem.head _)) (fun A_uo2 c_uo2 hv hcapc_uo2 hmaxc_uo2 => ?_) (fun _ _ _ => ⟨nofun, nofun, nofun⟩)
    subst hv
    refine Run.step rfl (OpStep.storeAll (us := [.slice A_uo2 ((netR n1 x1 ms).length) c_uo2]) Tsize_28 rfl rfl rfl (.here _) rfl ?_)
    refine Run.p (.bool true) rfl rfl ?_
    refine Run.dsr ?_
    refine Run.y (.agg #[.slice A_uo2 ((netR n1 x1 ms).length) c_uo2]) rfl (OpY.loadN (cs := [.slice A_uo2 ((netR n1 x1 ms).length) c_uo2]) Tagg_28 rfl (Cells.blk (.head _) ⟨rfl, trivial⟩)) ?_
    refine Run.step rfl (OpStep.call (vs := [.agg #[.slice A_uo2 ((netR n1 x1 ms).length) c_uo2]]) (caps := []) Tcall_28 rfl rfl (fun w hs => (by have h := SynthesizeLinear_spec (hs.slOwn (.tail _ (List.Mem.head _))); rw [hnet.okR] at h; exact h)) ?_)
    rintro _ _ ⟨uy, rfl, rfl⟩
    show Run _ _ (putF _ _ _ (.tuple #[.agg #[.int .i64 (syN (netR n1 x1 ms).length (nl (netR n1 x1 ms))), uy], .bool true])) [.own uy 71 3 ((syW (netR n1 x1 ms).length (nl (netR n1 x1 ms))).length) (ints (flCX (syW (netR n1 x1 ms).length (nl (netR n1 x1 ms))))), .blk b16 28 [.slice A_uo2 ((netR n1 x1 ms).length) c_uo2], .own (.slice A_uo2 ((netR n1 x1 ms).length) c_uo2) 3 1 ((netR n1 x1 ms).length) (ints (nl (netR n1 x1 ms))), .blk b15 28 [.slice A_ui2 ((netB n1 ms).length) c_ui2], .own (.slice A_ui2 ((netB n1 ms).length) c_ui2) 3 1 ((netB n1 ms).length) (ints (nl (netB n1 ms))), .blk b14 28 [.slice A_ul41 ((netX n1 ms).length) c_ul41], .own (.slice A_ul41 ((netX n1 ms).length) c_ul41) 3 1 ((netX n1 ms).length) (ints (nl (netX n1 ms))), .blk b13 38 [.int .i64 (gnN n1 ms), .slice A_ug31 ((gnG n1 ms).length) c_ug31], .own (.slice A_ug31 ((gnG n1 ms).length) c_ug31) 71 3 ((gnG n1 ms).length) (ints (flCX (gnG n1 ms))), .blk b12 28 [.slice A_ul31 ((nats x1).length) c_ul31], .own (.slice A_ul31 ((nats x1).length) c_ul31) 3 1 ((nats x1).length) (ints (nl (nats x1))), .blk b11 38 [.int .i64 (nwN n1 x1 ms), .slice A_us2 ((nwG n1 x1 ms).length) c_us2], .own (.slice A_us2 ((nwG n1 x1 ms).length) c_us2) 71 3 ((nwG n1 x1 ms).length) (ints (flCX (dcw n1 (nwG n1 x1 ms)))), .blk b3 28 [.slice Au n1 cu], .own vb0 3 1 n0 (ints x0), .own vl 3 1 gm (ints ms), .blk b2 38 [.int .i64 (gnN K mk), .slice A_uh11 ((gnG K mk).length) c_uh11], .own (.slice A_uh11 ((gnG K mk).length) c_uh11) 71 3 ((gnG K mk).length) (ints (flCX (gnG K mk))), .blk b1 38 [.int .i64 (gnN K mk), .slice A_ug11 ((gnG K mk).length) c_ug11], .own (.slice A_ug11 ((gnG K mk).length) c_ug11) 71 3 ((gnG K mk).length) (ints (flCX (gnG K mk))), .own vk 3 1 kn (ints mk)]
    refine Run.p (.tuple #[.agg #[.int .i64 (syN (netR n1 x1 ms).length (nl (netR n1 x1 ms))), uy], .bool true]) rfl rfl ?_
    refine Run.p (.agg #[.int .i64 (syN (netR n1 x1 ms).length (nl (netR n1 x1 ms))), uy]) rfl rfl ?_
    refine Run.p (.bool true) rfl rfl ?_
    refine Run.step rfl (OpStep.alloc (zs := [.int .i64 0, .slice none 0 0]) Tzero_38 fun b17 => ?_)
    refine Run.formOwn (.tail _ (List.Mem.head _)) (fun A_uy2 c_uy2 hv hcapc_uy2 hmaxc_uy2 => ?_) (fun _ _ _ => ⟨nofun, nofun, nofun⟩)
    subst hv
    refine Run.step rfl (OpStep.storeAll (us := [.int .i64 (syN (netR n1 x1 ms).length (nl (netR n1 x1 ms))), .slice A_uy2 ((syW (netR n1 x1 ms).length (nl (netR n1 x1 ms))).length) c_uy2]) Tsize_38 rfl rfl rfl (.here _) rfl ?_)
    refine Run.p (.bool true) rfl rfl ?_
    refine Run.dsr ?_
    refine Run.p (.bool true) rfl rfl ?_
    refine Run.p (.bool true) rfl rfl ?_
    refine Run.p (.int .i64 ((((nwG n1 x1 ms).length : Nat) : Int))) rfl rfl ?_
    refine Run.y (.pointer (some ⟨b13, 1, none⟩)) rfl (OpY.fieldAddr Tfo_38_1 rfl rfl) ?_
    refine Run.y (.slice A_ug31 ((gnG n1 ms).length) c_ug31) rfl (OpY.load1 Tone_36 rfl (Cells.blk (.tail _ (.tail _ (.tail _ (.tail _ (.tail _ (.tail _ (.tail _ (.tail _ (List.Mem.head _))))))))) ⟨rfl, trivial⟩)) ?_
    refine Run.y (.int .i64 ((((gnG n1 ms).length : Nat) : Int))) rfl (OpY.len Tsl_36 rfl) ?_
    refine Run.y (.pointer (some ⟨b17, 1, none⟩)) rfl (OpY.fieldAddr Tfo_38_1 rfl rfl) ?_
    refine Run.y (.slice A_uy2 ((syW (netR n1 x1 ms).length (nl (netR n1 x1 ms))).length) c_uy2) rfl (OpY.load1 Tone_36 rfl (Cells.blk (.head _) ⟨rfl, trivial⟩)) ?_
    refine Run.y (.int .i64 ((((syW (netR n1 x1 ms).length (nl (netR n1 x1 ms))).length : Nat) : Int))) rfl (OpY.len Tsl_36 rfl) ?_
    refine Run.y (.int .i64 (((((gnG n1 ms).length : Nat) : Int)) + ((((syW (netR n1 x1 ms).length (nl (netR n1 x1 ms))).length : Nat) : Int)))) rfl (OpY.add rfl rfl rfl (by omega) (by omega)) ?_
    refine Run.p (.bool (decide (((((nwG n1 x1 ms).length : Nat) : Int)) ≤ (((((gnG n1 ms).length : Nat) : Int)) + ((((syW (netR n1 x1 ms).length (nl (netR n1 x1 ms))).length : Nat) : Int)))))) rfl rfl ?_
    refine Run.p (.bool (decide (((((nwG n1 x1 ms).length : Nat) : Int)) ≤ (((((gnG n1 ms).length : Nat) : Int)) + ((((syW (netR n1 x1 ms).length (nl (netR n1 x1 ms))).length : Nat) : Int)))))) rfl rfl ?_
    refine Run.p (.bool (decide (((((nwG n1 x1 ms).length : Nat) : Int)) ≤ (((((gnG n1 ms).length : Nat) : Int)) + ((((syW (netR n1 x1 ms).length (nl (netR n1 x1 ms))).length : Nat) : Int)))))) rfl rfl ?_
    refine Run.done ?_
    refine Run.ret ?_
    refine ⟨.bool (decide (((((nwG n1 x1 ms).length : Nat) : Int)) ≤ (((((gnG n1 ms).length : Nat) : Int)) + ((((syW (netR n1 x1 ms).length (nl (netR n1 x1 ms))).length : Nat) : Int))))), [], Out.one rfl rfl, (Some'.weak (.nil _)), ?_⟩
    show _ = _; rw [hle]

end Go.Proofs.Yteehfidjofcfmaa
