/- The walk of the law FnExactOperatorOfSum. -/
import Derived.Test.YtadobifnhcafpaaOse
import Derived.Test.YtadobifnhcafpaaProg
set_option linter.unusedSimpArgs false
set_option linter.unusedVariables false
namespace Go.Proofs.Ytadobifnhcafpaa
open Go Go.RowKit
namespace L43T
theorem Tagg_25 : aggOf Try.prog 25 = some 6 := by kernel_rfl
theorem Tagg_29 : aggOf Try.prog 29 = some 3 := by kernel_rfl
theorem Tagg_35 : aggOf Try.prog 35 = some 6 := by kernel_rfl
theorem Tbool_4 : Try.prog.underlying 4 = some .bool := by kernel_rfl
theorem Tcall_10 : callable Try.prog 10 = true := by kernel_rfl
theorem Tcall_11 : callable Try.prog 11 = true := by kernel_rfl
theorem Tcall_12 : callable Try.prog 12 = true := by kernel_rfl
theorem Tcall_4 : callable Try.prog 4 = true := by kernel_rfl
theorem Tcall_5 : callable Try.prog 5 = true := by kernel_rfl
theorem Tcall_6 : callable Try.prog 6 = true := by kernel_rfl
theorem Tcall_7 : callable Try.prog 7 = true := by kernel_rfl
theorem Tcall_8 : callable Try.prog 8 = true := by kernel_rfl
theorem Tcall_9 : callable Try.prog 9 = true := by kernel_rfl
theorem Tsize_29 : (Try.prog.info? 29).map (·.size) = some 3 := by kernel_rfl
theorem Tsize_35 : (Try.prog.info? 35).map (·.size) = some 6 := by kernel_rfl
theorem Tzero_29 : zeroOf Try.prog 29 = some [.int .i64 0, .int .i64 0, .slice none 0 0] := by kernel_rfl
theorem Tzero_35 : zeroOf Try.prog 35 = some [.int .i64 0, .int .i64 0, .int .i64 0, .int .i64 0, .slice none 0 0, .slice none 0 0] := by kernel_rfl
end L43T
open L43T

theorem osN_le (I V R F : Int) (ts : List Int) (nt : Nat) (os : List Int) (no : Nat) : opN (osB I V R F ts nt os no) (osD I) ≤ 1024 := by
  cases hb : osB I V R F ts nt os no with
  | false => simp [opN]
  | true =>
    unfold osB at hb
    simp only [Bool.and_eq_true] at hb
    exact (dim_cases (psF_of hb.1.1).hI rfl).2.1

set_option maxHeartbeats 1000000 in
set_option maxRecDepth 20000 in
theorem law_spec {sIns : Int} {sVars : Int} {sRoot : Int} {sPhase : Int} {svTerms : Value} {snTerms : Nat} {sxTerms : List Int} {svOut : Value} {snOut : Nat} {sxOut : List Int} {w : World} (swIns : In64 sIns) (swVars : In64 sVars) (swRoot : In64 sRoot) (swPhase : In64 sPhase) (shTerms : Sl w svTerms 2 snTerms (ints sxTerms)) (swTerms : ∀ x ∈ sxTerms, In64 x) (shOut : Sl w svOut 2 snOut (ints sxOut)) (swOut : ∀ x ∈ sxOut, In64 x) : Calls Try.prog 3 #[.agg #[.int .i64 sIns, .int .i64 sVars, .int .i64 sRoot, .int .i64 sPhase, svTerms, svOut]] w (Post No w fun v _ => v = .bool true) := by
  have hopn := osN_le sIns sVars sRoot sPhase sxTerms snTerms sxOut snOut
  refine enter (n := 96) (args := [.agg #[.int .i64 sIns, .int .i64 sVars, .int .i64 sRoot, .int .i64 sPhase, svTerms, svOut]]) Try.func3 rfl rfl (St.empty _ _) ?_
  refine Run.seq ?_
  refine Run.region ?_
  refine Run.step rfl (OpStep.box (us := [.int .i64 sIns, .int .i64 sVars, .int .i64 sRoot, .int .i64 sPhase, svTerms, svOut]) rfl fun b1 => ?_)
  refine Run.q (v := .bool false) rfl (OpQ.y (OpY.pure rfl)) ?_
  refine Run.done ?_
  refine Run.seq ?_
  refine Run.region ?_
  refine Run.q (v := .int .i64 1048576) rfl (OpQ.y (OpY.pure rfl)) ?_
  refine Run.done ?_
  refine Run.seq ?_
  refine Run.region ?_
  refine Run.q (v := .agg #[.int .i64 sIns, .int .i64 sVars, .int .i64 sRoot, .int .i64 sPhase, svTerms, svOut]) rfl (OpQ.y (OpY.loadN (cs := [.int .i64 sIns, .int .i64 sVars, .int .i64 sRoot, .int .i64 sPhase, svTerms, svOut]) Tagg_25 rfl (Cells.blk (.head _) ⟨rfl, rfl, rfl, rfl, rfl, rfl, trivial⟩))) ?_
  refine Run.q (v := .int .i64 1048576) rfl (OpQ.y (OpY.pure rfl)) ?_
  refine Run.q (v := .int .i64 (szN 1048576 [snTerms, snOut])) rfl (OpQ.call (vs := [.agg #[.int .i64 sIns, .int .i64 sVars, .int .i64 sRoot, .int .i64 sPhase, svTerms, svOut], .int .i64 1048576]) (caps := []) Tcall_4 rfl rfl (fun w hs => szPathSum_spec (hs.sl shTerms) (hs.sl shOut) (by omega) (by omega))) ?_
  refine Run.q (v := .int .i64 (szN 1048576 [snTerms, snOut])) rfl (OpQ.y (OpY.pure rfl)) ?_
  refine Run.done ?_
  refine Run.seq ?_
  refine Run.seq ?_
  refine Run.region ?_
  refine Run.q (v := .int .i64 (szN 1048576 [snTerms, snOut])) rfl (OpQ.y (OpY.pure rfl)) ?_
  refine Run.q (v := .bool (decide ((szN 1048576 [snTerms, snOut]) < 0))) rfl (OpQ.y (OpY.pure rfl)) ?_
  refine Run.done ?_
  refine Run.cond (b := decide ((szN 1048576 [snTerms, snOut]) < 0)) rfl (fun h18 => ?_) (fun h18 => ?_)
  · have p18 := h18; try simp only [bs] at p18
    refine Run.seq ?_
    refine Run.region ?_
    refine Run.q (v := .bool true) rfl (OpQ.y (OpY.pure rfl)) ?_
    refine Run.done ?_
    refine Run.ret ?_
    refine ⟨.bool true, [], Out.one rfl rfl, (Some'.weak (.nil _)), ?_⟩
    rfl
  · have p18 := h18; try simp only [bs] at p18
    have hz18 := szN_bound (ns := [snTerms, snOut]) (l := 1048576) p18
    have hz18snTerms := hz18 snTerms (by simp)
    have hz18snOut := hz18 snOut (by simp)
    refine Run.skip ?_
    refine Run.seq ?_
    refine Run.region ?_
    refine Run.q (v := .agg #[.int .i64 sIns, .int .i64 sVars, .int .i64 sRoot, .int .i64 sPhase, svTerms, svOut]) rfl (OpQ.y (OpY.loadN (cs := [.int .i64 sIns, .int .i64 sVars, .int .i64 sRoot, .int .i64 sPhase, svTerms, svOut]) Tagg_25 rfl (Cells.blk (.head _) ⟨rfl, rfl, rfl, rfl, rfl, rfl, trivial⟩))) ?_
    refine Run.step rfl (OpStep.call (vs := [.agg #[.int .i64 sIns, .int .i64 sVars, .int .i64 sRoot, .int .i64 sPhase, svTerms, svOut]]) (caps := []) Tcall_6 rfl rfl (fun w hs => toPathSum_spec (hs.sl shTerms) (hs.sl shOut) (by omega) (by omega)) ?_)
    rintro _ _ ⟨u1, u2, rfl, rfl⟩
    show Run _ _ (putF _ _ _ (.agg #[.int .i64 sIns, .int .i64 sVars, .int .i64 sRoot, .int .i64 sPhase, u1, u2])) [.own u2 54 2 snOut (ints sxOut), .own u1 51 2 snTerms (ints sxTerms), .blk b1 25 [.int .i64 sIns, .int .i64 sVars, .int .i64 sRoot, .int .i64 sPhase, svTerms, svOut]]
    refine Run.step rfl (OpStep.call (vs := [.agg #[.int .i64 sIns, .int .i64 sVars, .int .i64 sRoot, .int .i64 sPhase, u1, u2]]) (caps := []) Tcall_5 rfl rfl (fun w hs => sOperatorOfSum_spec (hs.slOwn (.tail _ (List.Mem.head _))) (hs.slOwn (.head _)) (by omega)) ?_)
    rintro _ _ ⟨u3, rfl, rfl⟩
    show Run _ _ (putF _ _ _ (.tuple #[.agg #[.int .i64 (opD (osB sIns sVars sRoot sPhase sxTerms snTerms sxOut snOut) (osD sIns)), .int .i64 (opD (osB sIns sVars sRoot sPhase sxTerms snTerms sxOut snOut) (osD sIns)), u3], .bool (osB sIns sVars sRoot sPhase sxTerms snTerms sxOut snOut)])) [.own u3 61 5 (opN (osB sIns sVars sRoot sPhase sxTerms snTerms sxOut snOut) (osD sIns)) (ints (osL sIns sVars sRoot sPhase sxTerms snTerms sxOut snOut)), .own u2 54 2 snOut (ints sxOut), .own u1 51 2 snTerms (ints sxTerms), .blk b1 25 [.int .i64 sIns, .int .i64 sVars, .int .i64 sRoot, .int .i64 sPhase, svTerms, svOut]]
    refine Run.q (v := .tuple #[.agg #[.int .i64 (opD (osB sIns sVars sRoot sPhase sxTerms snTerms sxOut snOut) (osD sIns)), .int .i64 (opD (osB sIns sVars sRoot sPhase sxTerms snTerms sxOut snOut) (osD sIns)), u3], .bool (osB sIns sVars sRoot sPhase sxTerms snTerms sxOut snOut)]) rfl (OpQ.y (OpY.pure rfl)) ?_
    refine Run.q (v := .agg #[.int .i64 (opD (osB sIns sVars sRoot sPhase sxTerms snTerms sxOut snOut) (osD sIns)), .int .i64 (opD (osB sIns sVars sRoot sPhase sxTerms snTerms sxOut snOut) (osD sIns)), u3]) rfl (OpQ.y (OpY.pure rfl)) ?_
    refine Run.q (v := .bool (osB sIns sVars sRoot sPhase sxTerms snTerms sxOut snOut)) rfl (OpQ.y (OpY.pure rfl)) ?_
    refine Run.step rfl (OpStep.alloc (zs := [.int .i64 0, .int .i64 0, .slice none 0 0]) Tzero_29 fun b2 => ?_)
    refine Run.formOwn (.tail _ (List.Mem.head _)) (fun A_u31 c_u31 hv hcapc_u31 hmaxc_u31 => ?_) (fun _ _ _ => ⟨nofun, nofun, nofun⟩)
    subst hv
    refine Run.step rfl (OpStep.storeAll (us := [.int .i64 (opD (osB sIns sVars sRoot sPhase sxTerms snTerms sxOut snOut) (osD sIns)), .int .i64 (opD (osB sIns sVars sRoot sPhase sxTerms snTerms sxOut snOut) (osD sIns)), .slice A_u31 (opN (osB sIns sVars sRoot sPhase sxTerms snTerms sxOut snOut) (osD sIns)) c_u31]) Tsize_29 rfl rfl rfl (.here _) rfl ?_)
    refine Run.q (v := .bool (osB sIns sVars sRoot sPhase sxTerms snTerms sxOut snOut)) rfl (OpQ.y (OpY.pure rfl)) ?_
    refine Run.done ?_
    refine Run.seq ?_
    refine Run.region ?_
    refine Run.q (v := .agg #[.int .i64 sIns, .int .i64 sVars, .int .i64 sRoot, .int .i64 sPhase, svTerms, svOut]) rfl (OpQ.y (OpY.loadN (cs := [.int .i64 sIns, .int .i64 sVars, .int .i64 sRoot, .int .i64 sPhase, svTerms, svOut]) Tagg_25 rfl (Cells.blk (.tail _ (.tail _ (.tail _ (.tail _ (List.Mem.head _))))) ⟨rfl, rfl, rfl, rfl, rfl, rfl, trivial⟩))) ?_
    refine Run.step rfl (OpStep.call (vs := [.agg #[.int .i64 sIns, .int .i64 sVars, .int .i64 sRoot, .int .i64 sPhase, svTerms, svOut]]) (caps := []) Tcall_6 rfl rfl (fun w hs => toPathSum_spec (hs.sl shTerms) (hs.sl shOut) (by omega) (by omega)) ?_)
    rintro _ _ ⟨u4, u5, rfl, rfl⟩
    show Run _ _ (putF _ _ _ (.agg #[.int .i64 sIns, .int .i64 sVars, .int .i64 sRoot, .int .i64 sPhase, u4, u5])) [.own u5 54 2 snOut (ints sxOut), .own u4 51 2 snTerms (ints sxTerms), .blk b2 29 [.int .i64 (opD (osB sIns sVars sRoot sPhase sxTerms snTerms sxOut snOut) (osD sIns)), .int .i64 (opD (osB sIns sVars sRoot sPhase sxTerms snTerms sxOut snOut) (osD sIns)), .slice A_u31 (opN (osB sIns sVars sRoot sPhase sxTerms snTerms sxOut snOut) (osD sIns)) c_u31], .own (.slice A_u31 (opN (osB sIns sVars sRoot sPhase sxTerms snTerms sxOut snOut) (osD sIns)) c_u31) 61 5 (opN (osB sIns sVars sRoot sPhase sxTerms snTerms sxOut snOut) (osD sIns)) (ints (osL sIns sVars sRoot sPhase sxTerms snTerms sxOut snOut)), .own u2 54 2 snOut (ints sxOut), .own u1 51 2 snTerms (ints sxTerms), .blk b1 25 [.int .i64 sIns, .int .i64 sVars, .int .i64 sRoot, .int .i64 sPhase, svTerms, svOut]]
    refine Run.step rfl (OpStep.alloc (zs := [.int .i64 0, .int .i64 0, .int .i64 0, .int .i64 0, .slice none 0 0, .slice none 0 0]) Tzero_35 fun b3 => ?_)
    refine Run.formOwn (.tail _ (.tail _ (List.Mem.head _))) (fun A_u41 c_u41 hv hcapc_u41 hmaxc_u41 => ?_) (fun _ _ _ => ⟨nofun, nofun, nofun⟩)
    subst hv
    refine Run.formOwn (.tail _ (List.Mem.head _)) (fun A_u51 c_u51 hv hcapc_u51 hmaxc_u51 => ?_) (fun _ _ _ => ⟨nofun, nofun, nofun⟩)
    subst hv
    refine Run.step rfl (OpStep.storeAll (us := [.int .i64 sIns, .int .i64 sVars, .int .i64 sRoot, .int .i64 sPhase, .slice A_u41 snTerms c_u41, .slice A_u51 snOut c_u51]) Tsize_35 rfl rfl rfl (.here _) rfl ?_)
    refine Run.done ?_
    refine Run.seq ?_
    refine Run.region ?_
    refine Run.q (v := .agg #[.int .i64 sIns, .int .i64 sVars, .int .i64 sRoot, .int .i64 sPhase, .slice A_u41 snTerms c_u41, .slice A_u51 snOut c_u51]) rfl (OpQ.y (OpY.loadN (cs := [.int .i64 sIns, .int .i64 sVars, .int .i64 sRoot, .int .i64 sPhase, .slice A_u41 snTerms c_u41, .slice A_u51 snOut c_u51]) Tagg_35 rfl (Cells.blk (.head _) ⟨rfl, rfl, rfl, rfl, rfl, rfl, trivial⟩))) ?_
    refine Run.step rfl (OpStep.call (vs := [.agg #[.int .i64 sIns, .int .i64 sVars, .int .i64 sRoot, .int .i64 sPhase, .slice A_u41 snTerms c_u41, .slice A_u51 snOut c_u51]]) (caps := []) Tcall_7 rfl rfl (fun w hs => OperatorOfSum_spec (hs.slOwn (.tail _ (.tail _ (List.Mem.head _)))) (hs.slOwn (.tail _ (List.Mem.head _))) (by omega)) ?_)
    rintro _ _ ⟨u6, rfl, rfl⟩
    show Run _ _ (putF _ _ _ (.tuple #[.agg #[.int .i64 (opD (osB sIns sVars sRoot sPhase sxTerms snTerms sxOut snOut) (osD sIns)), .int .i64 (opD (osB sIns sVars sRoot sPhase sxTerms snTerms sxOut snOut) (osD sIns)), u6], .bool (osB sIns sVars sRoot sPhase sxTerms snTerms sxOut snOut)])) [.own u6 61 5 (opN (osB sIns sVars sRoot sPhase sxTerms snTerms sxOut snOut) (osD sIns)) (ints (osL sIns sVars sRoot sPhase sxTerms snTerms sxOut snOut)), .blk b3 35 [.int .i64 sIns, .int .i64 sVars, .int .i64 sRoot, .int .i64 sPhase, .slice A_u41 snTerms c_u41, .slice A_u51 snOut c_u51], .own (.slice A_u51 snOut c_u51) 54 2 snOut (ints sxOut), .own (.slice A_u41 snTerms c_u41) 51 2 snTerms (ints sxTerms), .blk b2 29 [.int .i64 (opD (osB sIns sVars sRoot sPhase sxTerms snTerms sxOut snOut) (osD sIns)), .int .i64 (opD (osB sIns sVars sRoot sPhase sxTerms snTerms sxOut snOut) (osD sIns)), .slice A_u31 (opN (osB sIns sVars sRoot sPhase sxTerms snTerms sxOut snOut) (osD sIns)) c_u31], .own (.slice A_u31 (opN (osB sIns sVars sRoot sPhase sxTerms snTerms sxOut snOut) (osD sIns)) c_u31) 61 5 (opN (osB sIns sVars sRoot sPhase sxTerms snTerms sxOut snOut) (osD sIns)) (ints (osL sIns sVars sRoot sPhase sxTerms snTerms sxOut snOut)), .own u2 54 2 snOut (ints sxOut), .own u1 51 2 snTerms (ints sxTerms), .blk b1 25 [.int .i64 sIns, .int .i64 sVars, .int .i64 sRoot, .int .i64 sPhase, svTerms, svOut]]
    refine Run.q (v := .tuple #[.agg #[.int .i64 (opD (osB sIns sVars sRoot sPhase sxTerms snTerms sxOut snOut) (osD sIns)), .int .i64 (opD (osB sIns sVars sRoot sPhase sxTerms snTerms sxOut snOut) (osD sIns)), u6], .bool (osB sIns sVars sRoot sPhase sxTerms snTerms sxOut snOut)]) rfl (OpQ.y (OpY.pure rfl)) ?_
    refine Run.q (v := .agg #[.int .i64 (opD (osB sIns sVars sRoot sPhase sxTerms snTerms sxOut snOut) (osD sIns)), .int .i64 (opD (osB sIns sVars sRoot sPhase sxTerms snTerms sxOut snOut) (osD sIns)), u6]) rfl (OpQ.y (OpY.pure rfl)) ?_
    refine Run.q (v := .bool (osB sIns sVars sRoot sPhase sxTerms snTerms sxOut snOut)) rfl (OpQ.y (OpY.pure rfl)) ?_
    refine Run.step rfl (OpStep.alloc (zs := [.int .i64 0, .int .i64 0, .slice none 0 0]) Tzero_29 fun b4 => ?_)
    refine Run.formOwn (.tail _ (List.Mem.head _)) (fun A_u61 c_u61 hv hcapc_u61 hmaxc_u61 => ?_) (fun _ _ _ => ⟨nofun, nofun, nofun⟩)
    subst hv
    refine Run.step rfl (OpStep.storeAll (us := [.int .i64 (opD (osB sIns sVars sRoot sPhase sxTerms snTerms sxOut snOut) (osD sIns)), .int .i64 (opD (osB sIns sVars sRoot sPhase sxTerms snTerms sxOut snOut) (osD sIns)), .slice A_u61 (opN (osB sIns sVars sRoot sPhase sxTerms snTerms sxOut snOut) (osD sIns)) c_u61]) Tsize_29 rfl rfl rfl (.here _) rfl ?_)
    refine Run.q (v := .bool (osB sIns sVars sRoot sPhase sxTerms snTerms sxOut snOut)) rfl (OpQ.y (OpY.pure rfl)) ?_
    refine Run.done ?_
    refine Run.seq ?_
    refine Run.seq ?_
    refine Run.region ?_
    refine Run.q (v := .agg #[.int .i64 (opD (osB sIns sVars sRoot sPhase sxTerms snTerms sxOut snOut) (osD sIns)), .int .i64 (opD (osB sIns sVars sRoot sPhase sxTerms snTerms sxOut snOut) (osD sIns)), .slice A_u61 (opN (osB sIns sVars sRoot sPhase sxTerms snTerms sxOut snOut) (osD sIns)) c_u61]) rfl (OpQ.y (OpY.loadN (cs := [.int .i64 (opD (osB sIns sVars sRoot sPhase sxTerms snTerms sxOut snOut) (osD sIns)), .int .i64 (opD (osB sIns sVars sRoot sPhase sxTerms snTerms sxOut snOut) (osD sIns)), .slice A_u61 (opN (osB sIns sVars sRoot sPhase sxTerms snTerms sxOut snOut) (osD sIns)) c_u61]) Tagg_29 rfl (Cells.blk (.head _) ⟨rfl, rfl, rfl, trivial⟩))) ?_
    refine Run.q (v := .agg #[.int .i64 (opD (osB sIns sVars sRoot sPhase sxTerms snTerms sxOut snOut) (osD sIns)), .int .i64 (opD (osB sIns sVars sRoot sPhase sxTerms snTerms sxOut snOut) (osD sIns)), .slice A_u31 (opN (osB sIns sVars sRoot sPhase sxTerms snTerms sxOut snOut) (osD sIns)) c_u31]) rfl (OpQ.y (OpY.loadN (cs := [.int .i64 (opD (osB sIns sVars sRoot sPhase sxTerms snTerms sxOut snOut) (osD sIns)), .int .i64 (opD (osB sIns sVars sRoot sPhase sxTerms snTerms sxOut snOut) (osD sIns)), .slice A_u31 (opN (osB sIns sVars sRoot sPhase sxTerms snTerms sxOut snOut) (osD sIns)) c_u31]) Tagg_29 rfl (Cells.blk (.tail _ (.tail _ (.tail _ (.tail _ (.tail _ (List.Mem.head _)))))) ⟨rfl, rfl, rfl, trivial⟩))) ?_
    refine Run.q (v := .bool true) rfl (OpQ.call (vs := [.agg #[.int .i64 (opD (osB sIns sVars sRoot sPhase sxTerms snTerms sxOut snOut) (osD sIns)), .int .i64 (opD (osB sIns sVars sRoot sPhase sxTerms snTerms sxOut snOut) (osD sIns)), .slice A_u61 (opN (osB sIns sVars sRoot sPhase sxTerms snTerms sxOut snOut) (osD sIns)) c_u61], .agg #[.int .i64 (opD (osB sIns sVars sRoot sPhase sxTerms snTerms sxOut snOut) (osD sIns)), .int .i64 (opD (osB sIns sVars sRoot sPhase sxTerms snTerms sxOut snOut) (osD sIns)), .slice A_u31 (opN (osB sIns sVars sRoot sPhase sxTerms snTerms sxOut snOut) (osD sIns)) c_u31]]) (caps := []) Tcall_8 rfl rfl (fun w hs => eqMatrix_true (hs.slOwn (.tail _ (List.Mem.head _))) (hs.slOwn (.tail _ (.tail _ (.tail _ (.tail _ (.tail _ (.tail _ (List.Mem.head _)))))))))) ?_
    refine Run.q (v := .bool false) rfl (OpQ.y (OpY.pure rfl)) ?_
    refine Run.q (v := .bool false) rfl (OpQ.y (OpY.pure rfl)) ?_
    refine Run.q (v := .bool (osB sIns sVars sRoot sPhase sxTerms snTerms sxOut snOut)) rfl (OpQ.y (OpY.pure rfl)) ?_
    refine Run.q (v := .bool (osB sIns sVars sRoot sPhase sxTerms snTerms sxOut snOut)) rfl (OpQ.y (OpY.pure rfl)) ?_
    refine Run.q (v := .bool false) rfl (OpQ.y (OpY.neqBSame Tbool_4 rfl rfl rfl)) ?_
    refine Run.q (v := .bool false) rfl (OpQ.y (OpY.pure rfl)) ?_
    refine Run.done ?_
    refine Run.cond (b := false) rfl (fun h => nomatch h) (fun _ => ?_)
    refine Run.skip ?_
    refine Run.seq ?_
    refine Run.seq ?_
    refine Run.held (by kernel_rfl) ?_
    refine DW.take (i := 0) (v := .agg #[.int .i64 sIns, .int .i64 sVars, .int .i64 sRoot, .int .i64 sPhase, .slice A_u41 snTerms c_u41, .slice A_u51 snOut c_u51]) rfl (by kernel_rfl) (by kernel_rfl) (by kernel_rfl) (fun _ _ _ h => h) (Weak.refl _) rfl (OpY.loadN (cs := [.int .i64 sIns, .int .i64 sVars, .int .i64 sRoot, .int .i64 sPhase, .slice A_u41 snTerms c_u41, .slice A_u51 snOut c_u51]) Tagg_35 rfl (Cells.blk (.tail _ (.tail _ (List.Mem.head _))) ⟨rfl, rfl, rfl, rfl, rfl, rfl, trivial⟩)) ?_
    refine DW.take (i := 1) (v := .agg #[.int .i64 sIns, .int .i64 sVars, .int .i64 sRoot, .int .i64 sPhase, svTerms, svOut]) rfl (by kernel_rfl) (by kernel_rfl) (by kernel_rfl) (fun _ _ _ h => h) (Weak.refl _) rfl (OpY.loadN (cs := [.int .i64 sIns, .int .i64 sVars, .int .i64 sRoot, .int .i64 sPhase, svTerms, svOut]) Tagg_25 rfl (Cells.blk (.tail _ (.tail _ (.tail _ (.tail _ (.tail _ (.tail _ (.tail _ (.tail _ (.tail _ (List.Mem.head _)))))))))) ⟨rfl, rfl, rfl, rfl, rfl, rfl, trivial⟩)) ?_
    refine DW.step (i := 2) (by kernel_rfl) rfl rfl (OpStep.call (vs := [.agg #[.int .i64 sIns, .int .i64 sVars, .int .i64 sRoot, .int .i64 sPhase, svTerms, svOut]]) (caps := []) Tcall_6 rfl rfl (fun w hs => toPathSum_spec (hs.sl shTerms) (hs.sl shOut) (by omega) (by omega)) ?_)
    rintro _ _ ⟨u7, u8, rfl, rfl⟩
    refine ⟨(Some'.weak (.skip (.skip (.take (.take (.take (.take (.take (.take (.take (.take (.take (.take (.nil _)))))))))))))), ?_⟩
    refine DW.step (i := 3) (by kernel_rfl) rfl rfl (OpStep.q (v := .bool true) (OpQ.call (vs := [.agg #[.int .i64 sIns, .int .i64 sVars, .int .i64 sRoot, .int .i64 sPhase, .slice A_u41 snTerms c_u41, .slice A_u51 snOut c_u51], .agg #[.int .i64 sIns, .int .i64 sVars, .int .i64 sRoot, .int .i64 sPhase, u7, u8]]) (caps := []) Tcall_9 rfl rfl (fun w hs => eqPathSum_true (hs.slOwn (.tail _ (.tail _ (.tail _ (.tail _ (.tail _ (.tail _ (List.Mem.head _)))))))) (hs.slOwn (.tail _ (.tail _ (.tail _ (.tail _ (.tail _ (List.Mem.head _))))))) (hs.slOwn (.tail _ (List.Mem.head _))) (hs.slOwn (.head _)))) ?_)
    refine ⟨(Some'.weak (.skip (.skip (.take (.take (.take (.take (.take (.take (.take (.take (.take (.take (.nil _)))))))))))))), ?_⟩
    refine DW.take (i := 4) (v := .bool false) rfl (by kernel_rfl) (by kernel_rfl) (by kernel_rfl) (fun _ _ _ h => h) (Some'.weak (.skip (.skip (.take (.take (.take (.take (.take (.take (.take (.take (.take (.take (.nil _)))))))))))))) rfl (OpY.pure rfl) ?_
    refine DW.done (by kernel_rfl) ?_
    refine Run.cond (b := false) rfl (fun h => nomatch h) (fun _ => ?_)
    refine Run.skip ?_
    refine Run.seq ?_
    refine Run.region ?_
    refine Run.q (v := .int .i64 1) rfl (OpQ.y (OpY.pure rfl)) ?_
    refine Run.done ?_
    refine Run.seq ?_
    refine Run.region ?_
    refine Run.q (v := .agg #[.int .i64 sIns, .int .i64 sVars, .int .i64 sRoot, .int .i64 sPhase, .slice A_u41 snTerms c_u41, .slice A_u51 snOut c_u51]) rfl (OpQ.y (OpY.loadN (cs := [.int .i64 sIns, .int .i64 sVars, .int .i64 sRoot, .int .i64 sPhase, .slice A_u41 snTerms c_u41, .slice A_u51 snOut c_u51]) Tagg_35 rfl (Cells.blk (.tail _ (.tail _ (.tail _ (.tail _ (List.Mem.head _))))) ⟨rfl, rfl, rfl, rfl, rfl, rfl, trivial⟩))) ?_
    refine Run.q (v := .int .i64 1) rfl (OpQ.y (OpY.pure rfl)) ?_
    refine Run.step rfl (OpStep.callM (H1 := [.own (.slice A_u41 snTerms c_u41) 51 2 snTerms (ints sxTerms), .own (.slice A_u51 snOut c_u51) 54 2 snOut (ints sxOut)]) (H2 := [.own u8 54 2 snOut (ints sxOut), .own u7 51 2 snTerms (ints sxTerms), .blk b4 29 [.int .i64 (opD (osB sIns sVars sRoot sPhase sxTerms snTerms sxOut snOut) (osD sIns)), .int .i64 (opD (osB sIns sVars sRoot sPhase sxTerms snTerms sxOut snOut) (osD sIns)), .slice A_u61 (opN (osB sIns sVars sRoot sPhase sxTerms snTerms sxOut snOut) (osD sIns)) c_u61], .own (.slice A_u61 (opN (osB sIns sVars sRoot sPhase sxTerms snTerms sxOut snOut) (osD sIns)) c_u61) 61 5 (opN (osB sIns sVars sRoot sPhase sxTerms snTerms sxOut snOut) (osD sIns)) (ints (osL sIns sVars sRoot sPhase sxTerms snTerms sxOut snOut)), .blk b3 35 [.int .i64 sIns, .int .i64 sVars, .int .i64 sRoot, .int .i64 sPhase, .slice A_u41 snTerms c_u41, .slice A_u51 snOut c_u51], .blk b2 29 [.int .i64 (opD (osB sIns sVars sRoot sPhase sxTerms snTerms sxOut snOut) (osD sIns)), .int .i64 (opD (osB sIns sVars sRoot sPhase sxTerms snTerms sxOut snOut) (osD sIns)), .slice A_u31 (opN (osB sIns sVars sRoot sPhase sxTerms snTerms sxOut snOut) (osD sIns)) c_u31], .own (.slice A_u31 (opN (osB sIns sVars sRoot sPhase sxTerms snTerms sxOut snOut) (osD sIns)) c_u31) 61 5 (opN (osB sIns sVars sRoot sPhase sxTerms snTerms sxOut snOut) (osD sIns)) (ints (osL sIns sVars sRoot sPhase sxTerms snTerms sxOut snOut)), .own u2 54 2 snOut (ints sxOut), .own u1 51 2 snTerms (ints sxTerms), .blk b1 25 [.int .i64 sIns, .int .i64 sVars, .int .i64 sRoot, .int .i64 sPhase, svTerms, svOut]]) (vs := [.agg #[.int .i64 sIns, .int .i64 sVars, .int .i64 sRoot, .int .i64 sPhase, .slice A_u41 snTerms c_u41, .slice A_u51 snOut c_u51], .int .i64 1]) (caps := []) Tcall_10 rfl rfl ((Weak.front [.own u8 54 2 snOut (ints sxOut), .own u7 51 2 snTerms (ints sxTerms), .blk b4 29 [.int .i64 (opD (osB sIns sVars sRoot sPhase sxTerms snTerms sxOut snOut) (osD sIns)), .int .i64 (opD (osB sIns sVars sRoot sPhase sxTerms snTerms sxOut snOut) (osD sIns)), .slice A_u61 (opN (osB sIns sVars sRoot sPhase sxTerms snTerms sxOut snOut) (osD sIns)) c_u61], .own (.slice A_u61 (opN (osB sIns sVars sRoot sPhase sxTerms snTerms sxOut snOut) (osD sIns)) c_u61) 61 5 (opN (osB sIns sVars sRoot sPhase sxTerms snTerms sxOut snOut) (osD sIns)) (ints (osL sIns sVars sRoot sPhase sxTerms snTerms sxOut snOut)), .blk b3 35 [.int .i64 sIns, .int .i64 sVars, .int .i64 sRoot, .int .i64 sPhase, .slice A_u41 snTerms c_u41, .slice A_u51 snOut c_u51]] (.own (.slice A_u51 snOut c_u51) 54 2 snOut (ints sxOut)) [.own (.slice A_u41 snTerms c_u41) 51 2 snTerms (ints sxTerms), .blk b2 29 [.int .i64 (opD (osB sIns sVars sRoot sPhase sxTerms snTerms sxOut snOut) (osD sIns)), .int .i64 (opD (osB sIns sVars sRoot sPhase sxTerms snTerms sxOut snOut) (osD sIns)), .slice A_u31 (opN (osB sIns sVars sRoot sPhase sxTerms snTerms sxOut snOut) (osD sIns)) c_u31], .own (.slice A_u31 (opN (osB sIns sVars sRoot sPhase sxTerms snTerms sxOut snOut) (osD sIns)) c_u31) 61 5 (opN (osB sIns sVars sRoot sPhase sxTerms snTerms sxOut snOut) (osD sIns)) (ints (osL sIns sVars sRoot sPhase sxTerms snTerms sxOut snOut)), .own u2 54 2 snOut (ints sxOut), .own u1 51 2 snTerms (ints sxTerms), .blk b1 25 [.int .i64 sIns, .int .i64 sVars, .int .i64 sRoot, .int .i64 sPhase, svTerms, svOut]]).trans (Weak.front [.own (.slice A_u51 snOut c_u51) 54 2 snOut (ints sxOut), .own u8 54 2 snOut (ints sxOut), .own u7 51 2 snTerms (ints sxTerms), .blk b4 29 [.int .i64 (opD (osB sIns sVars sRoot sPhase sxTerms snTerms sxOut snOut) (osD sIns)), .int .i64 (opD (osB sIns sVars sRoot sPhase sxTerms snTerms sxOut snOut) (osD sIns)), .slice A_u61 (opN (osB sIns sVars sRoot sPhase sxTerms snTerms sxOut snOut) (osD sIns)) c_u61], .own (.slice A_u61 (opN (osB sIns sVars sRoot sPhase sxTerms snTerms sxOut snOut) (osD sIns)) c_u61) 61 5 (opN (osB sIns sVars sRoot sPhase sxTerms snTerms sxOut snOut) (osD sIns)) (ints (osL sIns sVars sRoot sPhase sxTerms snTerms sxOut snOut)), .blk b3 35 [.int .i64 sIns, .int .i64 sVars, .int .i64 sRoot, .int .i64 sPhase, .slice A_u41 snTerms c_u41, .slice A_u51 snOut c_u51]] (.own (.slice A_u41 snTerms c_u41) 51 2 snTerms (ints sxTerms)) [.blk b2 29 [.int .i64 (opD (osB sIns sVars sRoot sPhase sxTerms snTerms sxOut snOut) (osD sIns)), .int .i64 (opD (osB sIns sVars sRoot sPhase sxTerms snTerms sxOut snOut) (osD sIns)), .slice A_u31 (opN (osB sIns sVars sRoot sPhase sxTerms snTerms sxOut snOut) (osD sIns)) c_u31], .own (.slice A_u31 (opN (osB sIns sVars sRoot sPhase sxTerms snTerms sxOut snOut) (osD sIns)) c_u31) 61 5 (opN (osB sIns sVars sRoot sPhase sxTerms snTerms sxOut snOut) (osD sIns)) (ints (osL sIns sVars sRoot sPhase sxTerms snTerms sxOut snOut)), .own u2 54 2 snOut (ints sxOut), .own u1 51 2 snTerms (ints sxTerms), .blk b1 25 [.int .i64 sIns, .int .i64 sVars, .int .i64 sRoot, .int .i64 sPhase, svTerms, svOut]])) (fun w hs => markPathSum_spec (hs.sub (List.sublist_append_left _ _)).self (by omega) (by omega)) ?_)
    rintro _ _ ⟨rfl, rfl⟩
    show Run _ _ (putF _ _ _ (.int .i64 (1 + ((snTerms : Nat) : Int) * 2 + ((snOut : Nat) : Int) * 2))) [.own (.slice A_u51 snOut c_u51) 54 2 snOut (ints (mks (1 + ((snTerms : Nat) : Int) * 2) (snOut * 2))), .own (.slice A_u41 snTerms c_u41) 51 2 snTerms (ints (mks 1 (snTerms * 2))), .own u8 54 2 snOut (ints sxOut), .own u7 51 2 snTerms (ints sxTerms), .blk b4 29 [.int .i64 (opD (osB sIns sVars sRoot sPhase sxTerms snTerms sxOut snOut) (osD sIns)), .int .i64 (opD (osB sIns sVars sRoot sPhase sxTerms snTerms sxOut snOut) (osD sIns)), .slice A_u61 (opN (osB sIns sVars sRoot sPhase sxTerms snTerms sxOut snOut) (osD sIns)) c_u61], .own (.slice A_u61 (opN (osB sIns sVars sRoot sPhase sxTerms snTerms sxOut snOut) (osD sIns)) c_u61) 61 5 (opN (osB sIns sVars sRoot sPhase sxTerms snTerms sxOut snOut) (osD sIns)) (ints (osL sIns sVars sRoot sPhase sxTerms snTerms sxOut snOut)), .blk b3 35 [.int .i64 sIns, .int .i64 sVars, .int .i64 sRoot, .int .i64 sPhase, .slice A_u41 snTerms c_u41, .slice A_u51 snOut c_u51], .blk b2 29 [.int .i64 (opD (osB sIns sVars sRoot sPhase sxTerms snTerms sxOut snOut) (osD sIns)), .int .i64 (opD (osB sIns sVars sRoot sPhase sxTerms snTerms sxOut snOut) (osD sIns)), .slice A_u31 (opN (osB sIns sVars sRoot sPhase sxTerms snTerms sxOut snOut) (osD sIns)) c_u31], .own (.slice A_u31 (opN (osB sIns sVars sRoot sPhase sxTerms snTerms sxOut snOut) (osD sIns)) c_u31) 61 5 (opN (osB sIns sVars sRoot sPhase sxTerms snTerms sxOut snOut) (osD sIns)) (ints (osL sIns sVars sRoot sPhase sxTerms snTerms sxOut snOut)), .own u2 54 2 snOut (ints sxOut), .own u1 51 2 snTerms (ints sxTerms), .blk b1 25 [.int .i64 sIns, .int .i64 sVars, .int .i64 sRoot, .int .i64 sPhase, svTerms, svOut]]
    refine Run.q (v := .int .i64 (1 + ((snTerms : Nat) : Int) * 2 + ((snOut : Nat) : Int) * 2)) rfl (OpQ.y (OpY.pure rfl)) ?_
    refine Run.done ?_
    refine Run.seq ?_
    refine Run.seq ?_
    refine Run.region ?_
    refine Run.q (v := .int .i64 (1 + ((snTerms : Nat) : Int) * 2 + ((snOut : Nat) : Int) * 2)) rfl (OpQ.y (OpY.pure rfl)) ?_
    refine Run.q (v := .bool (decide ((1 + ((snTerms : Nat) : Int) * 2 + ((snOut : Nat) : Int) * 2) < 0))) rfl (OpQ.y (OpY.pure rfl)) ?_
    rcases Bool.eq_false_or_eq_true (decide ((1 + ((snTerms : Nat) : Int) * 2 + ((snOut : Nat) : Int) * 2) < 0)) with h51 | h51
    · exact absurd h51 (by simp <;> omega) --DONE
    · refine Run.q (v := .bool false) rfl (OpQ.y (OpY.moveB rfl h51)) ?_
      have p51 := h51; try simp only [bs] at p51
      refine Run.q (v := .agg #[.int .i64 (opD (osB sIns sVars sRoot sPhase sxTerms snTerms sxOut snOut) (osD sIns)), .int .i64 (opD (osB sIns sVars sRoot sPhase sxTerms snTerms sxOut snOut) (osD sIns)), .slice A_u61 (opN (osB sIns sVars sRoot sPhase sxTerms snTerms sxOut snOut) (osD sIns)) c_u61]) rfl (OpQ.y (OpY.loadN (cs := [.int .i64 (opD (osB sIns sVars sRoot sPhase sxTerms snTerms sxOut snOut) (osD sIns)), .int .i64 (opD (osB sIns sVars sRoot sPhase sxTerms snTerms sxOut snOut) (osD sIns)), .slice A_u61 (opN (osB sIns sVars sRoot sPhase sxTerms snTerms sxOut snOut) (osD sIns)) c_u61]) Tagg_29 rfl (Cells.blk (.tail _ (.tail _ (.tail _ (.tail _ (List.Mem.head _))))) ⟨rfl, rfl, rfl, trivial⟩))) ?_
      refine Run.q (v := .agg #[.int .i64 (opD (osB sIns sVars sRoot sPhase sxTerms snTerms sxOut snOut) (osD sIns)), .int .i64 (opD (osB sIns sVars sRoot sPhase sxTerms snTerms sxOut snOut) (osD sIns)), .slice A_u31 (opN (osB sIns sVars sRoot sPhase sxTerms snTerms sxOut snOut) (osD sIns)) c_u31]) rfl (OpQ.y (OpY.loadN (cs := [.int .i64 (opD (osB sIns sVars sRoot sPhase sxTerms snTerms sxOut snOut) (osD sIns)), .int .i64 (opD (osB sIns sVars sRoot sPhase sxTerms snTerms sxOut snOut) (osD sIns)), .slice A_u31 (opN (osB sIns sVars sRoot sPhase sxTerms snTerms sxOut snOut) (osD sIns)) c_u31]) Tagg_29 rfl (Cells.blk (.tail _ (.tail _ (.tail _ (.tail _ (.tail _ (.tail _ (.tail _ (List.Mem.head _)))))))) ⟨rfl, rfl, rfl, trivial⟩))) ?_
      refine Run.q (v := .bool true) rfl (OpQ.call (vs := [.agg #[.int .i64 (opD (osB sIns sVars sRoot sPhase sxTerms snTerms sxOut snOut) (osD sIns)), .int .i64 (opD (osB sIns sVars sRoot sPhase sxTerms snTerms sxOut snOut) (osD sIns)), .slice A_u61 (opN (osB sIns sVars sRoot sPhase sxTerms snTerms sxOut snOut) (osD sIns)) c_u61], .agg #[.int .i64 (opD (osB sIns sVars sRoot sPhase sxTerms snTerms sxOut snOut) (osD sIns)), .int .i64 (opD (osB sIns sVars sRoot sPhase sxTerms snTerms sxOut snOut) (osD sIns)), .slice A_u31 (opN (osB sIns sVars sRoot sPhase sxTerms snTerms sxOut snOut) (osD sIns)) c_u31]]) (caps := []) Tcall_8 rfl rfl (fun w hs => eqMatrix_true (hs.slOwn (.tail _ (.tail _ (.tail _ (.tail _ (.tail _ (List.Mem.head _))))))) (hs.slOwn (.tail _ (.tail _ (.tail _ (.tail _ (.tail _ (.tail _ (.tail _ (.tail _ (List.Mem.head _)))))))))))) ?_
      refine Run.q (v := .bool false) rfl (OpQ.y (OpY.pure rfl)) ?_
      refine Run.q (v := .bool false) rfl (OpQ.y (OpY.pure rfl)) ?_
      refine Run.q (v := .bool false) rfl (OpQ.y (OpY.pure rfl)) ?_
      refine Run.q (v := .bool (osB sIns sVars sRoot sPhase sxTerms snTerms sxOut snOut)) rfl (OpQ.y (OpY.pure rfl)) ?_
      refine Run.q (v := .bool (osB sIns sVars sRoot sPhase sxTerms snTerms sxOut snOut)) rfl (OpQ.y (OpY.pure rfl)) ?_
      refine Run.q (v := .bool false) rfl (OpQ.y (OpY.neqBSame Tbool_4 rfl rfl rfl)) ?_
      refine Run.q (v := .bool false) rfl (OpQ.y (OpY.pure rfl)) ?_
      refine Run.done ?_
      refine Run.cond (b := false) rfl (fun h => nomatch h) (fun _ => ?_)
      refine Run.skip ?_
      refine Run.seq ?_
      refine Run.region ?_
      refine Run.q (v := .int .i64 1) rfl (OpQ.y (OpY.pure rfl)) ?_
      refine Run.done ?_
      refine Run.seq ?_
      refine Run.region ?_
      refine Run.q (v := .agg #[.int .i64 (opD (osB sIns sVars sRoot sPhase sxTerms snTerms sxOut snOut) (osD sIns)), .int .i64 (opD (osB sIns sVars sRoot sPhase sxTerms snTerms sxOut snOut) (osD sIns)), .slice A_u61 (opN (osB sIns sVars sRoot sPhase sxTerms snTerms sxOut snOut) (osD sIns)) c_u61]) rfl (OpQ.y (OpY.loadN (cs := [.int .i64 (opD (osB sIns sVars sRoot sPhase sxTerms snTerms sxOut snOut) (osD sIns)), .int .i64 (opD (osB sIns sVars sRoot sPhase sxTerms snTerms sxOut snOut) (osD sIns)), .slice A_u61 (opN (osB sIns sVars sRoot sPhase sxTerms snTerms sxOut snOut) (osD sIns)) c_u61]) Tagg_29 rfl (Cells.blk (.tail _ (.tail _ (.tail _ (.tail _ (List.Mem.head _))))) ⟨rfl, rfl, rfl, trivial⟩))) ?_
      refine Run.q (v := .int .i64 1) rfl (OpQ.y (OpY.pure rfl)) ?_
      refine Run.step rfl (OpStep.callM (H1 := [.own (.slice A_u61 (opN (osB sIns sVars sRoot sPhase sxTerms snTerms sxOut snOut) (osD sIns)) c_u61) 61 5 (opN (osB sIns sVars sRoot sPhase sxTerms snTerms sxOut snOut) (osD sIns)) (ints (osL sIns sVars sRoot sPhase sxTerms snTerms sxOut snOut))]) (H2 := [.own (.slice A_u51 snOut c_u51) 54 2 snOut (ints (mks (1 + ((snTerms : Nat) : Int) * 2) (snOut * 2))), .own (.slice A_u41 snTerms c_u41) 51 2 snTerms (ints (mks 1 (snTerms * 2))), .own u8 54 2 snOut (ints sxOut), .own u7 51 2 snTerms (ints sxTerms), .blk b4 29 [.int .i64 (opD (osB sIns sVars sRoot sPhase sxTerms snTerms sxOut snOut) (osD sIns)), .int .i64 (opD (osB sIns sVars sRoot sPhase sxTerms snTerms sxOut snOut) (osD sIns)), .slice A_u61 (opN (osB sIns sVars sRoot sPhase sxTerms snTerms sxOut snOut) (osD sIns)) c_u61], .blk b3 35 [.int .i64 sIns, .int .i64 sVars, .int .i64 sRoot, .int .i64 sPhase, .slice A_u41 snTerms c_u41, .slice A_u51 snOut c_u51], .blk b2 29 [.int .i64 (opD (osB sIns sVars sRoot sPhase sxTerms snTerms sxOut snOut) (osD sIns)), .int .i64 (opD (osB sIns sVars sRoot sPhase sxTerms snTerms sxOut snOut) (osD sIns)), .slice A_u31 (opN (osB sIns sVars sRoot sPhase sxTerms snTerms sxOut snOut) (osD sIns)) c_u31], .own (.slice A_u31 (opN (osB sIns sVars sRoot sPhase sxTerms snTerms sxOut snOut) (osD sIns)) c_u31) 61 5 (opN (osB sIns sVars sRoot sPhase sxTerms snTerms sxOut snOut) (osD sIns)) (ints (osL sIns sVars sRoot sPhase sxTerms snTerms sxOut snOut)), .own u2 54 2 snOut (ints sxOut), .own u1 51 2 snTerms (ints sxTerms), .blk b1 25 [.int .i64 sIns, .int .i64 sVars, .int .i64 sRoot, .int .i64 sPhase, svTerms, svOut]]) (vs := [.agg #[.int .i64 (opD (osB sIns sVars sRoot sPhase sxTerms snTerms sxOut snOut) (osD sIns)), .int .i64 (opD (osB sIns sVars sRoot sPhase sxTerms snTerms sxOut snOut) (osD sIns)), .slice A_u61 (opN (osB sIns sVars sRoot sPhase sxTerms snTerms sxOut snOut) (osD sIns)) c_u61], .int .i64 1]) (caps := []) Tcall_11 rfl rfl (Weak.front [.own (.slice A_u51 snOut c_u51) 54 2 snOut (ints (mks (1 + ((snTerms : Nat) : Int) * 2) (snOut * 2))), .own (.slice A_u41 snTerms c_u41) 51 2 snTerms (ints (mks 1 (snTerms * 2))), .own u8 54 2 snOut (ints sxOut), .own u7 51 2 snTerms (ints sxTerms), .blk b4 29 [.int .i64 (opD (osB sIns sVars sRoot sPhase sxTerms snTerms sxOut snOut) (osD sIns)), .int .i64 (opD (osB sIns sVars sRoot sPhase sxTerms snTerms sxOut snOut) (osD sIns)), .slice A_u61 (opN (osB sIns sVars sRoot sPhase sxTerms snTerms sxOut snOut) (osD sIns)) c_u61]] (.own (.slice A_u61 (opN (osB sIns sVars sRoot sPhase sxTerms snTerms sxOut snOut) (osD sIns)) c_u61) 61 5 (opN (osB sIns sVars sRoot sPhase sxTerms snTerms sxOut snOut) (osD sIns)) (ints (osL sIns sVars sRoot sPhase sxTerms snTerms sxOut snOut))) [.blk b3 35 [.int .i64 sIns, .int .i64 sVars, .int .i64 sRoot, .int .i64 sPhase, .slice A_u41 snTerms c_u41, .slice A_u51 snOut c_u51], .blk b2 29 [.int .i64 (opD (osB sIns sVars sRoot sPhase sxTerms snTerms sxOut snOut) (osD sIns)), .int .i64 (opD (osB sIns sVars sRoot sPhase sxTerms snTerms sxOut snOut) (osD sIns)), .slice A_u31 (opN (osB sIns sVars sRoot sPhase sxTerms snTerms sxOut snOut) (osD sIns)) c_u31], .own (.slice A_u31 (opN (osB sIns sVars sRoot sPhase sxTerms snTerms sxOut snOut) (osD sIns)) c_u31) 61 5 (opN (osB sIns sVars sRoot sPhase sxTerms snTerms sxOut snOut) (osD sIns)) (ints (osL sIns sVars sRoot sPhase sxTerms snTerms sxOut snOut)), .own u2 54 2 snOut (ints sxOut), .own u1 51 2 snTerms (ints sxTerms), .blk b1 25 [.int .i64 sIns, .int .i64 sVars, .int .i64 sRoot, .int .i64 sPhase, svTerms, svOut]]) (fun w hs => markMatrix_spec (hs.sub (List.sublist_append_left _ _)).self (by omega) (by omega)) ?_)
      rintro _ _ ⟨rfl, rfl⟩
      show Run _ _ (putF _ _ _ (.int .i64 (1 + ((opN (osB sIns sVars sRoot sPhase sxTerms snTerms sxOut snOut) (osD sIns) : Nat) : Int) * 5))) [.own (.slice A_u61 (opN (osB sIns sVars sRoot sPhase sxTerms snTerms sxOut snOut) (osD sIns)) c_u61) 61 5 (opN (osB sIns sVars sRoot sPhase sxTerms snTerms sxOut snOut) (osD sIns)) (ints (mks 1 ((opN (osB sIns sVars sRoot sPhase sxTerms snTerms sxOut snOut) (osD sIns)) * 5))), .own (.slice A_u51 snOut c_u51) 54 2 snOut (ints (mks (1 + ((snTerms : Nat) : Int) * 2) (snOut * 2))), .own (.slice A_u41 snTerms c_u41) 51 2 snTerms (ints (mks 1 (snTerms * 2))), .own u8 54 2 snOut (ints sxOut), .own u7 51 2 snTerms (ints sxTerms), .blk b4 29 [.int .i64 (opD (osB sIns sVars sRoot sPhase sxTerms snTerms sxOut snOut) (osD sIns)), .int .i64 (opD (osB sIns sVars sRoot sPhase sxTerms snTerms sxOut snOut) (osD sIns)), .slice A_u61 (opN (osB sIns sVars sRoot sPhase sxTerms snTerms sxOut snOut) (osD sIns)) c_u61], .blk b3 35 [.int .i64 sIns, .int .i64 sVars, .int .i64 sRoot, .int .i64 sPhase, .slice A_u41 snTerms c_u41, .slice A_u51 snOut c_u51], .blk b2 29 [.int .i64 (opD (osB sIns sVars sRoot sPhase sxTerms snTerms sxOut snOut) (osD sIns)), .int .i64 (opD (osB sIns sVars sRoot sPhase sxTerms snTerms sxOut snOut) (osD sIns)), .slice A_u31 (opN (osB sIns sVars sRoot sPhase sxTerms snTerms sxOut snOut) (osD sIns)) c_u31], .own (.slice A_u31 (opN (osB sIns sVars sRoot sPhase sxTerms snTerms sxOut snOut) (osD sIns)) c_u31) 61 5 (opN (osB sIns sVars sRoot sPhase sxTerms snTerms sxOut snOut) (osD sIns)) (ints (osL sIns sVars sRoot sPhase sxTerms snTerms sxOut snOut)), .own u2 54 2 snOut (ints sxOut), .own u1 51 2 snTerms (ints sxTerms), .blk b1 25 [.int .i64 sIns, .int .i64 sVars, .int .i64 sRoot, .int .i64 sPhase, svTerms, svOut]]
      refine Run.q (v := .int .i64 (1 + ((opN (osB sIns sVars sRoot sPhase sxTerms snTerms sxOut snOut) (osD sIns) : Nat) : Int) * 5)) rfl (OpQ.y (OpY.pure rfl)) ?_
      refine Run.done ?_
      refine Run.seq ?_
      refine Run.region ?_
      refine Run.q (v := .int .i64 1) rfl (OpQ.y (OpY.pure rfl)) ?_
      refine Run.done ?_
      refine Run.seq ?_
      refine Run.region ?_
      refine Run.q (v := .agg #[.int .i64 (opD (osB sIns sVars sRoot sPhase sxTerms snTerms sxOut snOut) (osD sIns)), .int .i64 (opD (osB sIns sVars sRoot sPhase sxTerms snTerms sxOut snOut) (osD sIns)), .slice A_u61 (opN (osB sIns sVars sRoot sPhase sxTerms snTerms sxOut snOut) (osD sIns)) c_u61]) rfl (OpQ.y (OpY.loadN (cs := [.int .i64 (opD (osB sIns sVars sRoot sPhase sxTerms snTerms sxOut snOut) (osD sIns)), .int .i64 (opD (osB sIns sVars sRoot sPhase sxTerms snTerms sxOut snOut) (osD sIns)), .slice A_u61 (opN (osB sIns sVars sRoot sPhase sxTerms snTerms sxOut snOut) (osD sIns)) c_u61]) Tagg_29 rfl (Cells.blk (.tail _ (.tail _ (.tail _ (.tail _ (.tail _ (List.Mem.head _)))))) ⟨rfl, rfl, rfl, trivial⟩))) ?_
      refine Run.q (v := .int .i64 1) rfl (OpQ.y (OpY.pure rfl)) ?_
      refine Run.q (v := .int .i64 (1 + ((opN (osB sIns sVars sRoot sPhase sxTerms snTerms sxOut snOut) (osD sIns) : Nat) : Int) * 5)) rfl (OpQ.call (vs := [.agg #[.int .i64 (opD (osB sIns sVars sRoot sPhase sxTerms snTerms sxOut snOut) (osD sIns)), .int .i64 (opD (osB sIns sVars sRoot sPhase sxTerms snTerms sxOut snOut) (osD sIns)), .slice A_u61 (opN (osB sIns sVars sRoot sPhase sxTerms snTerms sxOut snOut) (osD sIns)) c_u61], .int .i64 1]) (caps := []) Tcall_12 rfl rfl (fun w hs => heldMatrix_true (hs.slOwn (.head _)) (by omega) (by omega) rfl)) ?_
      refine Run.q (v := .int .i64 (1 + ((opN (osB sIns sVars sRoot sPhase sxTerms snTerms sxOut snOut) (osD sIns) : Nat) : Int) * 5)) rfl (OpQ.y (OpY.pure rfl)) ?_
      refine Run.done ?_
      refine Run.seq ?_
      refine Run.seq ?_
      refine Run.region ?_
      refine Run.q (v := .int .i64 (1 + ((opN (osB sIns sVars sRoot sPhase sxTerms snTerms sxOut snOut) (osD sIns) : Nat) : Int) * 5)) rfl (OpQ.y (OpY.pure rfl)) ?_
      refine Run.q (v := .bool (decide ((1 + ((opN (osB sIns sVars sRoot sPhase sxTerms snTerms sxOut snOut) (osD sIns) : Nat) : Int) * 5) < 0))) rfl (OpQ.y (OpY.pure rfl)) ?_
      refine Run.done ?_
      refine Run.cond (b := decide ((1 + ((opN (osB sIns sVars sRoot sPhase sxTerms snTerms sxOut snOut) (osD sIns) : Nat) : Int) * 5) < 0)) rfl (fun h69 => ?_) (fun h69 => ?_)
      · have p69 := h69; try simp only [bs] at p69
        exact absurd h69 (by simp <;> omega) --DONE
      · have p69 := h69; try simp only [bs] at p69
        refine Run.skip ?_
        refine Run.seq ?_
        refine Run.seq ?_
        refine Run.region ?_
        refine Run.q (v := .int .i64 (1 + ((opN (osB sIns sVars sRoot sPhase sxTerms snTerms sxOut snOut) (osD sIns) : Nat) : Int) * 5)) rfl (OpQ.y (OpY.pure rfl)) ?_
        refine Run.q (v := .int .i64 (1 + ((opN (osB sIns sVars sRoot sPhase sxTerms snTerms sxOut snOut) (osD sIns) : Nat) : Int) * 5)) rfl (OpQ.y (OpY.pure rfl)) ?_
        refine Run.q (v := .bool false) rfl (OpQ.y (OpY.neqSame rfl rfl rfl)) ?_
        refine Run.done ?_
        refine Run.cond (b := false) rfl (fun h => nomatch h) (fun _ => ?_)
        refine Run.skip ?_
        refine Run.seq ?_
        refine Run.region ?_
        refine Run.q (v := .agg #[.int .i64 sIns, .int .i64 sVars, .int .i64 sRoot, .int .i64 sPhase, svTerms, svOut]) rfl (OpQ.y (OpY.loadN (cs := [.int .i64 sIns, .int .i64 sVars, .int .i64 sRoot, .int .i64 sPhase, svTerms, svOut]) Tagg_25 rfl (Cells.blk (.tail _ (.tail _ (.tail _ (.tail _ (.tail _ (.tail _ (.tail _ (.tail _ (.tail _ (.tail _ (.tail _ (List.Mem.head _)))))))))))) ⟨rfl, rfl, rfl, rfl, rfl, rfl, trivial⟩))) ?_
        refine Run.step rfl (OpStep.call (vs := [.agg #[.int .i64 sIns, .int .i64 sVars, .int .i64 sRoot, .int .i64 sPhase, svTerms, svOut]]) (caps := []) Tcall_6 rfl rfl (fun w hs => toPathSum_spec (hs.sl shTerms) (hs.sl shOut) (by omega) (by omega)) ?_)
        rintro _ _ ⟨u9, u10, rfl, rfl⟩
        show Run _ _ (putF _ _ _ (.agg #[.int .i64 sIns, .int .i64 sVars, .int .i64 sRoot, .int .i64 sPhase, u9, u10])) [.own u10 54 2 snOut (ints sxOut), .own u9 51 2 snTerms (ints sxTerms), .own (.slice A_u61 (opN (osB sIns sVars sRoot sPhase sxTerms snTerms sxOut snOut) (osD sIns)) c_u61) 61 5 (opN (osB sIns sVars sRoot sPhase sxTerms snTerms sxOut snOut) (osD sIns)) (ints (mks 1 ((opN (osB sIns sVars sRoot sPhase sxTerms snTerms sxOut snOut) (osD sIns)) * 5))), .own (.slice A_u51 snOut c_u51) 54 2 snOut (ints (mks (1 + ((snTerms : Nat) : Int) * 2) (snOut * 2))), .own (.slice A_u41 snTerms c_u41) 51 2 snTerms (ints (mks 1 (snTerms * 2))), .own u8 54 2 snOut (ints sxOut), .own u7 51 2 snTerms (ints sxTerms), .blk b4 29 [.int .i64 (opD (osB sIns sVars sRoot sPhase sxTerms snTerms sxOut snOut) (osD sIns)), .int .i64 (opD (osB sIns sVars sRoot sPhase sxTerms snTerms sxOut snOut) (osD sIns)), .slice A_u61 (opN (osB sIns sVars sRoot sPhase sxTerms snTerms sxOut snOut) (osD sIns)) c_u61], .blk b3 35 [.int .i64 sIns, .int .i64 sVars, .int .i64 sRoot, .int .i64 sPhase, .slice A_u41 snTerms c_u41, .slice A_u51 snOut c_u51], .blk b2 29 [.int .i64 (opD (osB sIns sVars sRoot sPhase sxTerms snTerms sxOut snOut) (osD sIns)), .int .i64 (opD (osB sIns sVars sRoot sPhase sxTerms snTerms sxOut snOut) (osD sIns)), .slice A_u31 (opN (osB sIns sVars sRoot sPhase sxTerms snTerms sxOut snOut) (osD sIns)) c_u31], .own (.slice A_u31 (opN (osB sIns sVars sRoot sPhase sxTerms snTerms sxOut snOut) (osD sIns)) c_u31) 61 5 (opN (osB sIns sVars sRoot sPhase sxTerms snTerms sxOut snOut) (osD sIns)) (ints (osL sIns sVars sRoot sPhase sxTerms snTerms sxOut snOut)), .own u2 54 2 snOut (ints sxOut), .own u1 51 2 snTerms (ints sxTerms), .blk b1 25 [.int .i64 sIns, .int .i64 sVars, .int .i64 sRoot, .int .i64 sPhase, svTerms, svOut]]
        refine Run.step rfl (OpStep.call (vs := [.agg #[.int .i64 sIns, .int .i64 sVars, .int .i64 sRoot, .int .i64 sPhase, u9, u10]]) (caps := []) Tcall_7 rfl rfl (fun w hs => OperatorOfSum_spec (hs.slOwn (.tail _ (List.Mem.head _))) (hs.slOwn (.head _)) (by omega)) ?_)
        rintro _ _ ⟨u11, rfl, rfl⟩
        show Run _ _ (putF _ _ _ (.tuple #[.agg #[.int .i64 (opD (osB sIns sVars sRoot sPhase sxTerms snTerms sxOut snOut) (osD sIns)), .int .i64 (opD (osB sIns sVars sRoot sPhase sxTerms snTerms sxOut snOut) (osD sIns)), u11], .bool (osB sIns sVars sRoot sPhase sxTerms snTerms sxOut snOut)])) [.own u11 61 5 (opN (osB sIns sVars sRoot sPhase sxTerms snTerms sxOut snOut) (osD sIns)) (ints (osL sIns sVars sRoot sPhase sxTerms snTerms sxOut snOut)), .own u10 54 2 snOut (ints sxOut), .own u9 51 2 snTerms (ints sxTerms), .own (.slice A_u61 (opN (osB sIns sVars sRoot sPhase sxTerms snTerms sxOut snOut) (osD sIns)) c_u61) 61 5 (opN (osB sIns sVars sRoot sPhase sxTerms snTerms sxOut snOut) (osD sIns)) (ints (mks 1 ((opN (osB sIns sVars sRoot sPhase sxTerms snTerms sxOut snOut) (osD sIns)) * 5))), .own (.slice A_u51 snOut c_u51) 54 2 snOut (ints (mks (1 + ((snTerms : Nat) : Int) * 2) (snOut * 2))), .own (.slice A_u41 snTerms c_u41) 51 2 snTerms (ints (mks 1 (snTerms * 2))), .own u8 54 2 snOut (ints sxOut), .own u7 51 2 snTerms (ints sxTerms), .blk b4 29 [.int .i64 (opD (osB sIns sVars sRoot sPhase sxTerms snTerms sxOut snOut) (osD sIns)), .int .i64 (opD (osB sIns sVars sRoot sPhase sxTerms snTerms sxOut snOut) (osD sIns)), .slice A_u61 (opN (osB sIns sVars sRoot sPhase sxTerms snTerms sxOut snOut) (osD sIns)) c_u61], .blk b3 35 [.int .i64 sIns, .int .i64 sVars, .int .i64 sRoot, .int .i64 sPhase, .slice A_u41 snTerms c_u41, .slice A_u51 snOut c_u51], .blk b2 29 [.int .i64 (opD (osB sIns sVars sRoot sPhase sxTerms snTerms sxOut snOut) (osD sIns)), .int .i64 (opD (osB sIns sVars sRoot sPhase sxTerms snTerms sxOut snOut) (osD sIns)), .slice A_u31 (opN (osB sIns sVars sRoot sPhase sxTerms snTerms sxOut snOut) (osD sIns)) c_u31], .own (.slice A_u31 (opN (osB sIns sVars sRoot sPhase sxTerms snTerms sxOut snOut) (osD sIns)) c_u31) 61 5 (opN (osB sIns sVars sRoot sPhase sxTerms snTerms sxOut snOut) (osD sIns)) (ints (osL sIns sVars sRoot sPhase sxTerms snTerms sxOut snOut)), .own u2 54 2 snOut (ints sxOut), .own u1 51 2 snTerms (ints sxTerms), .blk b1 25 [.int .i64 sIns, .int .i64 sVars, .int .i64 sRoot, .int .i64 sPhase, svTerms, svOut]]
        refine Run.q (v := .tuple #[.agg #[.int .i64 (opD (osB sIns sVars sRoot sPhase sxTerms snTerms sxOut snOut) (osD sIns)), .int .i64 (opD (osB sIns sVars sRoot sPhase sxTerms snTerms sxOut snOut) (osD sIns)), u11], .bool (osB sIns sVars sRoot sPhase sxTerms snTerms sxOut snOut)]) rfl (OpQ.y (OpY.pure rfl)) ?_
        refine Run.q (v := .agg #[.int .i64 (opD (osB sIns sVars sRoot sPhase sxTerms snTerms sxOut snOut) (osD sIns)), .int .i64 (opD (osB sIns sVars sRoot sPhase sxTerms snTerms sxOut snOut) (osD sIns)), u11]) rfl (OpQ.y (OpY.pure rfl)) ?_
        refine Run.q (v := .bool (osB sIns sVars sRoot sPhase sxTerms snTerms sxOut snOut)) rfl (OpQ.y (OpY.pure rfl)) ?_
        refine Run.step rfl (OpStep.alloc (zs := [.int .i64 0, .int .i64 0, .slice none 0 0]) Tzero_29 fun b5 => ?_)
        refine Run.formOwn (.tail _ (List.Mem.head _)) (fun A_u111 c_u111 hv hcapc_u111 hmaxc_u111 => ?_) (fun _ _ _ => ⟨nofun, nofun, nofun⟩)
        subst hv
        refine Run.step rfl (OpStep.storeAll (us := [.int .i64 (opD (osB sIns sVars sRoot sPhase sxTerms snTerms sxOut snOut) (osD sIns)), .int .i64 (opD (osB sIns sVars sRoot sPhase sxTerms snTerms sxOut snOut) (osD sIns)), .slice A_u111 (opN (osB sIns sVars sRoot sPhase sxTerms snTerms sxOut snOut) (osD sIns)) c_u111]) Tsize_29 rfl rfl rfl (.here _) rfl ?_)
        refine Run.q (v := .bool (osB sIns sVars sRoot sPhase sxTerms snTerms sxOut snOut)) rfl (OpQ.y (OpY.pure rfl)) ?_
        refine Run.done ?_
        refine Run.seq ?_
        refine Run.seq ?_
        refine Run.region ?_
        refine Run.q (v := .agg #[.int .i64 (opD (osB sIns sVars sRoot sPhase sxTerms snTerms sxOut snOut) (osD sIns)), .int .i64 (opD (osB sIns sVars sRoot sPhase sxTerms snTerms sxOut snOut) (osD sIns)), .slice A_u111 (opN (osB sIns sVars sRoot sPhase sxTerms snTerms sxOut snOut) (osD sIns)) c_u111]) rfl (OpQ.y (OpY.loadN (cs := [.int .i64 (opD (osB sIns sVars sRoot sPhase sxTerms snTerms sxOut snOut) (osD sIns)), .int .i64 (opD (osB sIns sVars sRoot sPhase sxTerms snTerms sxOut snOut) (osD sIns)), .slice A_u111 (opN (osB sIns sVars sRoot sPhase sxTerms snTerms sxOut snOut) (osD sIns)) c_u111]) Tagg_29 rfl (Cells.blk (.head _) ⟨rfl, rfl, rfl, trivial⟩))) ?_
        refine Run.q (v := .agg #[.int .i64 (opD (osB sIns sVars sRoot sPhase sxTerms snTerms sxOut snOut) (osD sIns)), .int .i64 (opD (osB sIns sVars sRoot sPhase sxTerms snTerms sxOut snOut) (osD sIns)), .slice A_u31 (opN (osB sIns sVars sRoot sPhase sxTerms snTerms sxOut snOut) (osD sIns)) c_u31]) rfl (OpQ.y (OpY.loadN (cs := [.int .i64 (opD (osB sIns sVars sRoot sPhase sxTerms snTerms sxOut snOut) (osD sIns)), .int .i64 (opD (osB sIns sVars sRoot sPhase sxTerms snTerms sxOut snOut) (osD sIns)), .slice A_u31 (opN (osB sIns sVars sRoot sPhase sxTerms snTerms sxOut snOut) (osD sIns)) c_u31]) Tagg_29 rfl (Cells.blk (.tail _ (.tail _ (.tail _ (.tail _ (.tail _ (.tail _ (.tail _ (.tail _ (.tail _ (.tail _ (.tail _ (List.Mem.head _)))))))))))) ⟨rfl, rfl, rfl, trivial⟩))) ?_
        refine Run.q (v := .bool true) rfl (OpQ.call (vs := [.agg #[.int .i64 (opD (osB sIns sVars sRoot sPhase sxTerms snTerms sxOut snOut) (osD sIns)), .int .i64 (opD (osB sIns sVars sRoot sPhase sxTerms snTerms sxOut snOut) (osD sIns)), .slice A_u111 (opN (osB sIns sVars sRoot sPhase sxTerms snTerms sxOut snOut) (osD sIns)) c_u111], .agg #[.int .i64 (opD (osB sIns sVars sRoot sPhase sxTerms snTerms sxOut snOut) (osD sIns)), .int .i64 (opD (osB sIns sVars sRoot sPhase sxTerms snTerms sxOut snOut) (osD sIns)), .slice A_u31 (opN (osB sIns sVars sRoot sPhase sxTerms snTerms sxOut snOut) (osD sIns)) c_u31]]) (caps := []) Tcall_8 rfl rfl (fun w hs => eqMatrix_true (hs.slOwn (.tail _ (List.Mem.head _))) (hs.slOwn (.tail _ (.tail _ (.tail _ (.tail _ (.tail _ (.tail _ (.tail _ (.tail _ (.tail _ (.tail _ (.tail _ (.tail _ (List.Mem.head _)))))))))))))))) ?_
        refine Run.q (v := .bool false) rfl (OpQ.y (OpY.pure rfl)) ?_
        refine Run.q (v := .bool false) rfl (OpQ.y (OpY.pure rfl)) ?_
        refine Run.q (v := .bool (osB sIns sVars sRoot sPhase sxTerms snTerms sxOut snOut)) rfl (OpQ.y (OpY.pure rfl)) ?_
        refine Run.q (v := .bool (osB sIns sVars sRoot sPhase sxTerms snTerms sxOut snOut)) rfl (OpQ.y (OpY.pure rfl)) ?_
        refine Run.q (v := .bool false) rfl (OpQ.y (OpY.neqBSame Tbool_4 rfl rfl rfl)) ?_
        refine Run.q (v := .bool false) rfl (OpQ.y (OpY.pure rfl)) ?_
        refine Run.done ?_
        refine Run.cond (b := false) rfl (fun h => nomatch h) (fun _ => ?_)
        refine Run.skip ?_
        refine Run.seq ?_
        refine Run.region ?_
        refine Run.q (v := .int .i64 1) rfl (OpQ.y (OpY.pure rfl)) ?_
        refine Run.done ?_
        refine Run.seq ?_
        refine Run.region ?_
        refine Run.q (v := .agg #[.int .i64 (opD (osB sIns sVars sRoot sPhase sxTerms snTerms sxOut snOut) (osD sIns)), .int .i64 (opD (osB sIns sVars sRoot sPhase sxTerms snTerms sxOut snOut) (osD sIns)), .slice A_u61 (opN (osB sIns sVars sRoot sPhase sxTerms snTerms sxOut snOut) (osD sIns)) c_u61]) rfl (OpQ.y (OpY.loadN (cs := [.int .i64 (opD (osB sIns sVars sRoot sPhase sxTerms snTerms sxOut snOut) (osD sIns)), .int .i64 (opD (osB sIns sVars sRoot sPhase sxTerms snTerms sxOut snOut) (osD sIns)), .slice A_u61 (opN (osB sIns sVars sRoot sPhase sxTerms snTerms sxOut snOut) (osD sIns)) c_u61]) Tagg_29 rfl (Cells.blk (.tail _ (.tail _ (.tail _ (.tail _ (.tail _ (.tail _ (.tail _ (.tail _ (.tail _ (List.Mem.head _)))))))))) ⟨rfl, rfl, rfl, trivial⟩))) ?_
        refine Run.q (v := .int .i64 1) rfl (OpQ.y (OpY.pure rfl)) ?_
        refine Run.q (v := .int .i64 (1 + ((opN (osB sIns sVars sRoot sPhase sxTerms snTerms sxOut snOut) (osD sIns) : Nat) : Int) * 5)) rfl (OpQ.call (vs := [.agg #[.int .i64 (opD (osB sIns sVars sRoot sPhase sxTerms snTerms sxOut snOut) (osD sIns)), .int .i64 (opD (osB sIns sVars sRoot sPhase sxTerms snTerms sxOut snOut) (osD sIns)), .slice A_u61 (opN (osB sIns sVars sRoot sPhase sxTerms snTerms sxOut snOut) (osD sIns)) c_u61], .int .i64 1]) (caps := []) Tcall_12 rfl rfl (fun w hs => heldMatrix_true (hs.slOwn (.tail _ (.tail _ (.tail _ (.tail _ (List.Mem.head _)))))) (by omega) (by omega) rfl)) ?_
        refine Run.q (v := .int .i64 (1 + ((opN (osB sIns sVars sRoot sPhase sxTerms snTerms sxOut snOut) (osD sIns) : Nat) : Int) * 5)) rfl (OpQ.y (OpY.pure rfl)) ?_
        refine Run.done ?_
        refine Run.seq ?_
        refine Run.seq ?_
        refine Run.region ?_
        refine Run.q (v := .int .i64 (1 + ((opN (osB sIns sVars sRoot sPhase sxTerms snTerms sxOut snOut) (osD sIns) : Nat) : Int) * 5)) rfl (OpQ.y (OpY.pure rfl)) ?_
        refine Run.q (v := .bool (decide ((1 + ((opN (osB sIns sVars sRoot sPhase sxTerms snTerms sxOut snOut) (osD sIns) : Nat) : Int) * 5) < 0))) rfl (OpQ.y (OpY.pure rfl)) ?_
        refine Run.done ?_
        refine Run.cond (b := decide ((1 + ((opN (osB sIns sVars sRoot sPhase sxTerms snTerms sxOut snOut) (osD sIns) : Nat) : Int) * 5) < 0)) rfl (fun h92 => ?_) (fun h92 => ?_)
        · have p92 := h92; try simp only [bs] at p92
          exact absurd h92 (by simp <;> omega) --DONE
        · have p92 := h92; try simp only [bs] at p92
          refine Run.skip ?_
          refine Run.seq ?_
          refine Run.seq ?_
          refine Run.region ?_
          refine Run.q (v := .int .i64 (1 + ((opN (osB sIns sVars sRoot sPhase sxTerms snTerms sxOut snOut) (osD sIns) : Nat) : Int) * 5)) rfl (OpQ.y (OpY.pure rfl)) ?_
          refine Run.q (v := .int .i64 (1 + ((opN (osB sIns sVars sRoot sPhase sxTerms snTerms sxOut snOut) (osD sIns) : Nat) : Int) * 5)) rfl (OpQ.y (OpY.pure rfl)) ?_
          refine Run.q (v := .bool false) rfl (OpQ.y (OpY.neqSame rfl rfl rfl)) ?_
          refine Run.done ?_
          refine Run.cond (b := false) rfl (fun h => nomatch h) (fun _ => ?_)
          refine Run.skip ?_
          refine Run.seq ?_
          refine Run.region ?_
          refine Run.q (v := .bool true) rfl (OpQ.y (OpY.pure rfl)) ?_
          refine Run.done ?_
          refine Run.ret ?_
          refine ⟨.bool true, [], Out.one rfl rfl, (Some'.weak (.nil _)), ?_⟩
          rfl

end Go.Proofs.Ytadobifnhcafpaa
