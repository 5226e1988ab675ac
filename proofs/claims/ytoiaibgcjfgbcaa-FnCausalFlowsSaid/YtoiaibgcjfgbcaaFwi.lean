/- Walks: chains and sets of a flow. -/
import Derived.Test.YtoiaibgcjfgbcaaFwh
import Derived.Test.YtoiaibgcjfgbcaaGsr
import Derived.Test.YtoiaibgcjfgbcaaProg
set_option linter.unusedSimpArgs false
set_option linter.unusedVariables false
namespace Go.Proofs.Ytoiaibgcjfgbcaa
open Go Go.RowKit
namespace FwiT
theorem Tagg_26 : aggOf Try.prog 26 = some 4 := by kernel_rfl
theorem Tagg_29 : aggOf Try.prog 29 = some 2 := by kernel_rfl
theorem Tagg_38 : aggOf Try.prog 38 = some 2 := by kernel_rfl
theorem Tcall_24 : callable Try.prog 24 = true := by kernel_rfl
theorem Tcall_28 : callable Try.prog 28 = true := by kernel_rfl
theorem Tcall_30 : callable Try.prog 30 = true := by kernel_rfl
theorem Tcall_35 : callable Try.prog 35 = true := by kernel_rfl
theorem Tfo_26_0 : fieldOff Try.prog 26 0 = some 0 := by kernel_rfl
theorem Tfo_29_0 : fieldOff Try.prog 29 0 = some 0 := by kernel_rfl
theorem Tfo_29_1 : fieldOff Try.prog 29 1 = some 1 := by kernel_rfl
theorem Tfo_38_0 : fieldOff Try.prog 38 0 = some 0 := by kernel_rfl
theorem Tone_24 : oneOf Try.prog 24 = true := by kernel_rfl
theorem Tone_3 : oneOf Try.prog 3 = true := by kernel_rfl
theorem Tsize_3 : (Try.prog.info? 3).map (·.size) = some 1 := by kernel_rfl
theorem Tsize_38 : (Try.prog.info? 38).map (·.size) = some 2 := by kernel_rfl
theorem Tsl_24 : sliceOf Try.prog 24 = some (3, 1, 8, [.int .i64 0]) := by kernel_rfl
theorem Tsl_43 : sliceOf Try.prog 43 = some (24, 1, 24, [.slice none 0 0]) := by kernel_rfl
theorem Tzero_38 : zeroOf Try.prog 38 = some [.slice none 0 0, .slice none 0 0] := by kernel_rfl
end FwiT
open FwiT

theorem fl_rng {es : List Int} {m n : Nat} {is : List Int} {ni : Nat} {os : List Int} {no : Nat} {nx ly : List Int} {nl : Nat} (h : flB es m n is ni os no nx n ly nl = true) : ∀ v, v < n → ix nx v = -1 ∨ (0 ≤ ix nx v ∧ ix nx v < n) := by
  intro v hv
  simp only [flB, Bool.and_eq_true, allI_iff] at h
  have h2 := h.2 v hv
  unfold flAt at h2
  split at h2
  · exact .inl (of_decide_eq_true h2)
  · simp only [Bool.and_eq_true, within_iff] at h2
    right; omega
/-- The sets of a flow. -/
def setsL (nx : List Int) (n : Nat) : List Int := mapN (fun v => if 0 ≤ ix nx v then ((2 ^ (ix nx v).toNat : Nat) : Int) else 0) n
def setsK (nx : List Int) (k n : Nat) : List Int := mapN (fun v => if v < k ∧ 0 ≤ ix nx v then ((2 ^ (ix nx v).toNat : Nat) : Int) else 0) n
@[simp] theorem setsK_length (nx : List Int) (k n : Nat) : (setsK nx k n).length = n := by simp [setsK]
@[simp] theorem setsL_length (nx : List Int) (n : Nat) : (setsL nx n).length = n := by simp [setsL]
theorem setsK_zero (nx : List Int) (n : Nat) : setsK nx 0 n = List.replicate n 0 := by
  have e : (fun v : Nat => if v < 0 ∧ 0 ≤ ix nx v then ((2 ^ (ix nx v).toNat : Nat) : Int) else 0) = fun _ => 0 := by funext v; simp
  rw [setsK, e, mapN]; exact List.map_const' .. |>.trans (by simp)
theorem setsK_all (nx : List Int) (n : Nat) : setsK nx n n = setsL nx n := mapN_ext fun v hv => by simp [hv]
theorem setsK_set {nx : List Int} {k n u : Nat} (hk : k < n) (hu : ix nx k = (u : Int)) : (setsK nx k n).set k ((2 ^ u : Nat) : Int) = setsK nx (k + 1) n := by
  refine eq_mapN (by simp) fun v hv => ?_
  rw [ix_lset (by simpa using hk)]
  by_cases e : v = k
  · subst e; rw [if_pos rfl, if_pos ⟨by omega, by omega⟩, hu, Int.toNat_natCast]
  · rw [if_neg e, setsK, ix_mapN hv]
    have : (v < k + 1) ↔ (v < k) := by omega
    simp only [this]
theorem setsK_keep {nx : List Int} {k n : Nat} (h : ix nx k < 0) : setsK nx (k + 1) n = setsK nx k n := mapN_ext fun v hv => by
  by_cases e : v = k
  · subst e; rw [if_neg (by omega), if_neg (by omega)]
  · have : (v < k + 1) ↔ (v < k) := by omega
    simp only [this]
theorem chL_neg {nx : List Int} {u : Int} (h : u < 0) : ∀ f, chL nx f u = []
  | 0 => rfl
  | f + 1 => by rw [chL, if_pos h]


theorem chN_le (nx : List Int) (n : Nat) : ∀ k, (chN nx n k).length ≤ k
  | 0 => by simp [chN]
  | k + 1 => by
    have := chN_le nx n k
    rw [chN, List.length_append]
    split <;> simp only [List.length_nil, List.length_cons] <;> omega

set_option maxHeartbeats 2000000 in
set_option maxRecDepth 20000 in
theorem SetsOf_spec {ve vi vo vx vy : Value} {n m ni no : Nat} {es is os nx ly : List Int} {w : World} (hg : ogB n es m is ni os no = true) (hfl : flB es m n is ni os no nx n ly n = true) (he : Sl w ve 2 m (ints es)) (hi : Sl w vi 1 ni (ints is)) (ho : Sl w vo 1 no (ints os)) (hx : Sl w vx 1 n (ints nx)) (hy : Sl w vy 1 n (ints ly)) : Calls Try.prog 12 #[.agg #[.int .i64 (n : Int), ve, vi, vo], .agg #[vx, vy]] w (Post No w fun v H => ∃ u1 u2, v = .tuple #[.agg #[u1, u2], .bool true] ∧ H = [.own u1 3 1 n (ints (setsL nx n)), .own u2 3 1 n (ints ly)]) := by
 obtain ⟨hn1, hn10, hes, hri, hro⟩ := og_ok hg
 have hp10 := pow10 hn10
 obtain ⟨Ax, cx_, rfl, _, _⟩ := hx.form0
 have hrg := fl_rng hfl
 have hnxl := hx.len
 refine enter (n := 44) (args := [.agg #[.int .i64 (((n : Nat) : Int)), ve, vi, vo], .agg #[.slice Ax n cx_, vy]]) Try.func12 rfl rfl (St.empty _ _) ?_
 refine Run.sr ?_
 refine Run.step rfl (OpStep.box (us := [.int .i64 (((n : Nat) : Int)), ve, vi, vo]) rfl fun b1 => ?_)
 refine Run.step rfl (OpStep.box (us := [.slice Ax n cx_, vy]) rfl fun b2 => ?_)
 refine Run.step rfl (OpStep.alloc (zs := [.slice none 0 0, .slice none 0 0]) Tzero_38 fun b3 => ?_)
 refine Run.p (.bool false) rfl rfl ?_
 refine Run.done ?_
 refine Run.seq ?_
 refine Run.sr ?_
 refine Run.y (.agg #[.int .i64 (((n : Nat) : Int)), ve, vi, vo]) rfl (OpY.loadN (cs := [.int .i64 (((n : Nat) : Int)), ve, vi, vo]) Tagg_26 rfl (Cells.blk (.tail _ (.tail _ (List.Mem.head _))) ⟨rfl, rfl, rfl, rfl, trivial⟩)) ?_
 refine Run.q (v := .bool true) rfl (OpQ.call (vs := [.agg #[.int .i64 (((n : Nat) : Int)), ve, vi, vo]]) (caps := []) Tcall_24 rfl rfl (fun w hs => (by have h := IsValidOpenGraph_spec (n := n) (by omega) (hs.sl he) (hs.sl hi) (hs.sl ho); rw [hg] at h; exact h))) ?_
 refine Run.p (.bool false) rfl rfl ?_
 refine Run.p (.bool false) rfl rfl ?_
 refine Run.y (.agg #[.int .i64 (((n : Nat) : Int)), ve, vi, vo]) rfl (OpY.loadN (cs := [.int .i64 (((n : Nat) : Int)), ve, vi, vo]) Tagg_26 rfl (Cells.blk (.tail _ (.tail _ (List.Mem.head _))) ⟨rfl, rfl, rfl, rfl, trivial⟩)) ?_
 refine Run.y (.agg #[.slice Ax n cx_, vy]) rfl (OpY.loadN (cs := [.slice Ax n cx_, vy]) Tagg_29 rfl (Cells.blk (.tail _ (List.Mem.head _)) ⟨rfl, rfl, trivial⟩)) ?_
 refine Run.q (v := .bool true) rfl (OpQ.call (vs := [.agg #[.int .i64 (((n : Nat) : Int)), ve, vi, vo], .agg #[.slice Ax n cx_, vy]]) (caps := []) Tcall_35 rfl rfl (fun w hs => (by have h := isFlow_spec (n := n) hn1 hn10 hes hri (hs.sl he) (hs.sl hi) (hs.sl ho) (hs.sl hx) (hs.sl hy); rw [hfl] at h; exact h))) ?_
 refine Run.p (.bool false) rfl rfl ?_
 refine Run.p (.bool false) rfl rfl ?_
 refine Run.done ?_
 refine Run.cond (b := false) rfl (fun h => nomatch h) (fun _ => ?_)
 refine Run.skip ?_
 refine Run.seq ?_
 refine Run.cut (ι := Nat × Value × Value) [6, 19, 20, 21, 22, 23, 24, 25] (fun ⟨b6, v1, v2⟩ => [(6, .pointer (some ⟨b6, 0, none⟩))]) (fun ⟨b6, v1, v2⟩ => [.blk b6 38 [v1, v2], .own v1 3 1 n (ints (List.replicate n 0)), .own v2 3 1 n (ints ly), .blk b3 38 [.slice none 0 0, .slice none 0 0], .blk b2 29 [.slice Ax n cx_, vy], .blk b1 26 [.int .i64 (((n : Nat) : Int)), ve, vi, vo]]) (fun ⟨b6, v1, v2⟩ => True) ?_ ?_
 ·refine Run.held (by kernel_rfl) ?_
  refine DW.take (i := 0) (v := .pointer (some ⟨b1, 0, none⟩)) rfl (by kernel_rfl) (by kernel_rfl) (by kernel_rfl) (fun _ _ _ h => h) (Weak.refl _) rfl (OpY.fieldAddr Tfo_26_0 rfl rfl) ?_
  refine DW.take (i := 1) (v := .int .i64 (((n : Nat) : Int))) rfl (by kernel_rfl) (by kernel_rfl) (by kernel_rfl) (fun _ _ _ h => h) (Weak.refl _) rfl (OpY.load1 Tone_3 rfl (Cells.blk (.tail _ (.tail _ (List.Mem.head _))) ⟨rfl, trivial⟩)) ?_
  refine DW.take (i := 3) (v := .pointer (some ⟨b2, 1, none⟩)) rfl (by kernel_rfl) (by kernel_rfl) (by kernel_rfl) (fun _ _ _ h => h) (Weak.refl _) rfl (OpY.fieldAddr Tfo_29_1 rfl rfl) ?_
  refine DW.take (i := 4) (v := vy) rfl (by kernel_rfl) (by kernel_rfl) (by kernel_rfl) (fun _ _ _ h => h) (Weak.refl _) rfl (OpY.load1 Tone_24 rfl (Cells.blk (.tail _ (List.Mem.head _)) ⟨rfl, trivial⟩)) ?_
  refine DW.three (i := 2) (j := 5) (l := 7) (by kernel_rfl) rfl rfl rfl rfl rfl rfl ?_ ?_ ?_
  ·refine OpStep.makeSlice (n := n) Tsl_24 rfl (by decide) (by first | rfl | omega) (by first | rfl | omega) (by omega) (by simp only [maxLen]; omega) fun b4 => ?_
   refine ⟨(Some'.weak (.skip (.take (.take (.take (.nil _)))))), ?_⟩
   refine DW.two (i := 5) (j := 7) (by kernel_rfl) rfl rfl rfl rfl ?_ ?_
   ·refine OpStep.call (vs := [vy]) (caps := []) Tcall_28 rfl rfl (fun w hs => CloneInt_spec (by omega) (by omega) (hs.sl hy)) ?_
    rintro uw _ rfl
    refine ⟨(Some'.weak (.skip (.skip (.take (.take (.take (.nil _))))))), ?_⟩
    refine DW.formOwn (.head _) (fun A_uw1 c_uw1 hv hcapc_uw1 hmaxc_uw1 => ?_)
    subst hv
    refine DW.take (i := 6) (v := .agg #[.slice (some ⟨b4, 0, none⟩) n n, .slice A_uw1 n c_uw1]) rfl (by kernel_rfl) (by kernel_rfl) (by kernel_rfl) (fun _ _ _ h => h) (Some'.weak (.skip (.skip (.take (.take (.take (.nil _))))))) rfl (OpY.build (cs := [.slice (some ⟨b4, 0, none⟩) n n, .slice A_uw1 n c_uw1]) (by kernel_rfl)) ?_
    refine DW.step (i := 7) (by kernel_rfl) rfl rfl (OpStep.alloc (zs := [.slice none 0 0, .slice none 0 0]) Tzero_38 fun b5 => ?_)
    refine ⟨(Some'.weak (.skip (.skip (.skip (.take (.take (.take (.nil _)))))))), ?_⟩
    refine DW.step (i := 8) (by kernel_rfl) rfl rfl (OpStep.storeAll (us := [.slice (some ⟨b4, 0, none⟩) n n, .slice A_uw1 n c_uw1]) Tsize_38 rfl rfl rfl (.here _) rfl ?_)
    refine ⟨(Some'.weak (.skip (.skip (.skip (.take (.take (.take (.nil _)))))))), ?_⟩
    refine DW.done (by kernel_rfl) ?_
    refine Run.goal ⟨(by repeat (first | exact Same.refl _ _ | refine Same.put rfl ?_ | refine Same.over rfl rfl ?_)), (b5, .slice (some ⟨b4, 0, none⟩) n n, .slice A_uw1 n c_uw1), ?_, ?_, ?_⟩
    ·trivial
    ·exact ⟨(by first | rfl | (congr 1; omega) | simp [*]), trivial⟩
    ·exact ((Weak.selF [0, 1, 0, 0, 0, 0]).trans (Some'.weak (.takeEq (by first | rfl | (rw [rep0]) | simp) (.takeEq (by first | rfl | (rw [rep0]) | simp) (.takeEq (by first | rfl | (rw [rep0]) | simp) (.take (.take (.take (.nil _)))))))))
   ·refine OpStep.alloc (zs := [.slice none 0 0, .slice none 0 0]) Tzero_38 fun b6 => ?_
    refine ⟨(Some'.weak (.skip (.skip (.take (.take (.take (.nil _))))))), ?_⟩
    refine DW.step (i := 5) (by kernel_rfl) rfl rfl (OpStep.call (vs := [vy]) (caps := []) Tcall_28 rfl rfl (fun w hs => CloneInt_spec (by omega) (by omega) (hs.sl hy)) ?_)
    rintro uw _ rfl
    refine ⟨(Some'.weak (.skip (.skip (.skip (.take (.take (.take (.nil _)))))))), ?_⟩
    refine DW.formOwn (.head _) (fun A_uw2 c_uw2 hv hcapc_uw2 hmaxc_uw2 => ?_)
    subst hv
    refine DW.take (i := 6) (v := .agg #[.slice (some ⟨b4, 0, none⟩) n n, .slice A_uw2 n c_uw2]) rfl (by kernel_rfl) (by kernel_rfl) (by kernel_rfl) (fun _ _ _ h => h) (Some'.weak (.skip (.skip (.skip (.take (.take (.take (.nil _)))))))) rfl (OpY.build (cs := [.slice (some ⟨b4, 0, none⟩) n n, .slice A_uw2 n c_uw2]) (by kernel_rfl)) ?_
    refine DW.step (i := 8) (by kernel_rfl) rfl rfl (OpStep.storeAll (us := [.slice (some ⟨b4, 0, none⟩) n n, .slice A_uw2 n c_uw2]) Tsize_38 rfl rfl rfl (.there _ (.here _)) rfl ?_)
    refine ⟨(Some'.weak (.skip (.skip (.skip (.take (.take (.take (.nil _)))))))), ?_⟩
    refine DW.done (by kernel_rfl) ?_
    refine Run.goal ⟨(by repeat (first | exact Same.refl _ _ | refine Same.put rfl ?_ | refine Same.over rfl rfl ?_)), (b6, .slice (some ⟨b4, 0, none⟩) n n, .slice A_uw2 n c_uw2), ?_, ?_, ?_⟩
    ·trivial
    ·exact ⟨(by first | rfl | (congr 1; omega) | simp [*]), trivial⟩
    ·exact ((Weak.selF [1, 1, 0, 0, 0, 0]).trans (Some'.weak (.takeEq (by first | rfl | (rw [rep0]) | simp) (.takeEq (by first | rfl | (rw [rep0]) | simp) (.takeEq (by first | rfl | (rw [rep0]) | simp) (.take (.take (.take (.nil _)))))))))
  ·refine OpStep.call (vs := [vy]) (caps := []) Tcall_28 rfl rfl (fun w hs => CloneInt_spec (by omega) (by omega) (hs.sl hy)) ?_
   rintro uw _ rfl
   refine ⟨(Some'.weak (.skip (.take (.take (.take (.nil _)))))), ?_⟩
   refine DW.two (i := 2) (j := 7) (by kernel_rfl) rfl rfl rfl rfl ?_ ?_
   ·refine OpStep.makeSlice (n := n) Tsl_24 rfl (by decide) (by first | rfl | omega) (by first | rfl | omega) (by omega) (by simp only [maxLen]; omega) fun b7 => ?_
    refine ⟨(Some'.weak (.skip (.skip (.take (.take (.take (.nil _))))))), ?_⟩
    refine DW.formOwn (.tail _ (List.Mem.head _)) (fun A_uw3 c_uw3 hv hcapc_uw3 hmaxc_uw3 => ?_)
    subst hv
    refine DW.take (i := 6) (v := .agg #[.slice (some ⟨b7, 0, none⟩) n n, .slice A_uw3 n c_uw3]) rfl (by kernel_rfl) (by kernel_rfl) (by kernel_rfl) (fun _ _ _ h => h) (Some'.weak (.skip (.skip (.take (.take (.take (.nil _))))))) rfl (OpY.build (cs := [.slice (some ⟨b7, 0, none⟩) n n, .slice A_uw3 n c_uw3]) (by kernel_rfl)) ?_
    refine DW.step (i := 7) (by kernel_rfl) rfl rfl (OpStep.alloc (zs := [.slice none 0 0, .slice none 0 0]) Tzero_38 fun b8 => ?_)
    refine ⟨(Some'.weak (.skip (.skip (.skip (.take (.take (.take (.nil _)))))))), ?_⟩
    refine DW.step (i := 8) (by kernel_rfl) rfl rfl (OpStep.storeAll (us := [.slice (some ⟨b7, 0, none⟩) n n, .slice A_uw3 n c_uw3]) Tsize_38 rfl rfl rfl (.here _) rfl ?_)
    refine ⟨(Some'.weak (.skip (.skip (.skip (.take (.take (.take (.nil _)))))))), ?_⟩
    refine DW.done (by kernel_rfl) ?_
    refine Run.goal ⟨(by repeat (first | exact Same.refl _ _ | refine Same.put rfl ?_ | refine Same.over rfl rfl ?_)), (b8, .slice (some ⟨b7, 0, none⟩) n n, .slice A_uw3 n c_uw3), ?_, ?_, ?_⟩
    ·trivial
    ·exact ⟨(by first | rfl | (congr 1; omega) | simp [*]), trivial⟩
    ·exact ((Weak.refl _).trans (Some'.weak (.takeEq (by first | rfl | (rw [rep0]) | simp) (.takeEq (by first | rfl | (rw [rep0]) | simp) (.takeEq (by first | rfl | (rw [rep0]) | simp) (.take (.take (.take (.nil _)))))))))
   ·refine OpStep.alloc (zs := [.slice none 0 0, .slice none 0 0]) Tzero_38 fun b9 => ?_
    refine ⟨(Some'.weak (.skip (.skip (.take (.take (.take (.nil _))))))), ?_⟩
    refine DW.step (i := 2) (by kernel_rfl) rfl rfl (OpStep.makeSlice (n := n) Tsl_24 rfl (by decide) (by first | rfl | omega) (by first | rfl | omega) (by omega) (by simp only [maxLen]; omega) fun b10 => ?_)
    refine ⟨(Some'.weak (.skip (.skip (.skip (.take (.take (.take (.nil _)))))))), ?_⟩
    refine DW.formOwn (.tail _ (.tail _ (List.Mem.head _))) (fun A_uw4 c_uw4 hv hcapc_uw4 hmaxc_uw4 => ?_)
    subst hv
    refine DW.take (i := 6) (v := .agg #[.slice (some ⟨b10, 0, none⟩) n n, .slice A_uw4 n c_uw4]) rfl (by kernel_rfl) (by kernel_rfl) (by kernel_rfl) (fun _ _ _ h => h) (Some'.weak (.skip (.skip (.skip (.take (.take (.take (.nil _)))))))) rfl (OpY.build (cs := [.slice (some ⟨b10, 0, none⟩) n n, .slice A_uw4 n c_uw4]) (by kernel_rfl)) ?_
    refine DW.step (i := 8) (by kernel_rfl) rfl rfl (OpStep.storeAll (us := [.slice (some ⟨b10, 0, none⟩) n n, .slice A_uw4 n c_uw4]) Tsize_38 rfl rfl rfl (.there _ (.here _)) rfl ?_)
    refine ⟨(Some'.weak (.skip (.skip (.skip (.take (.take (.take (.nil _)))))))), ?_⟩
    refine DW.done (by kernel_rfl) ?_
    refine Run.goal ⟨(by repeat (first | exact Same.refl _ _ | refine Same.put rfl ?_ | refine Same.over rfl rfl ?_)), (b9, .slice (some ⟨b10, 0, none⟩) n n, .slice A_uw4 n c_uw4), ?_, ?_, ?_⟩
    ·trivial
    ·exact ⟨(by first | rfl | (congr 1; omega) | simp [*]), trivial⟩
    ·exact ((Weak.selF [1, 0, 0, 0, 0, 0]).trans (Some'.weak (.takeEq (by first | rfl | (rw [rep0]) | simp) (.takeEq (by first | rfl | (rw [rep0]) | simp) (.takeEq (by first | rfl | (rw [rep0]) | simp) (.take (.take (.take (.nil _)))))))))
  ·refine OpStep.alloc (zs := [.slice none 0 0, .slice none 0 0]) Tzero_38 fun b11 => ?_
   refine ⟨(Some'.weak (.skip (.take (.take (.take (.nil _)))))), ?_⟩
   refine DW.two (i := 2) (j := 5) (by kernel_rfl) rfl rfl rfl rfl ?_ ?_
   ·refine OpStep.makeSlice (n := n) Tsl_24 rfl (by decide) (by first | rfl | omega) (by first | rfl | omega) (by omega) (by simp only [maxLen]; omega) fun b12 => ?_
    refine ⟨(Some'.weak (.skip (.skip (.take (.take (.take (.nil _))))))), ?_⟩
    refine DW.step (i := 5) (by kernel_rfl) rfl rfl (OpStep.call (vs := [vy]) (caps := []) Tcall_28 rfl rfl (fun w hs => CloneInt_spec (by omega) (by omega) (hs.sl hy)) ?_)
    rintro uw _ rfl
    refine ⟨(Some'.weak (.skip (.skip (.skip (.take (.take (.take (.nil _)))))))), ?_⟩
    refine DW.formOwn (.head _) (fun A_uw5 c_uw5 hv hcapc_uw5 hmaxc_uw5 => ?_)
    subst hv
    refine DW.take (i := 6) (v := .agg #[.slice (some ⟨b12, 0, none⟩) n n, .slice A_uw5 n c_uw5]) rfl (by kernel_rfl) (by kernel_rfl) (by kernel_rfl) (fun _ _ _ h => h) (Some'.weak (.skip (.skip (.skip (.take (.take (.take (.nil _)))))))) rfl (OpY.build (cs := [.slice (some ⟨b12, 0, none⟩) n n, .slice A_uw5 n c_uw5]) (by kernel_rfl)) ?_
    refine DW.step (i := 8) (by kernel_rfl) rfl rfl (OpStep.storeAll (us := [.slice (some ⟨b12, 0, none⟩) n n, .slice A_uw5 n c_uw5]) Tsize_38 rfl rfl rfl (.there _ (.there _ (.here _))) rfl ?_)
    refine ⟨(Some'.weak (.skip (.skip (.skip (.take (.take (.take (.nil _)))))))), ?_⟩
    refine DW.done (by kernel_rfl) ?_
    refine Run.goal ⟨(by repeat (first | exact Same.refl _ _ | refine Same.put rfl ?_ | refine Same.over rfl rfl ?_)), (b11, .slice (some ⟨b12, 0, none⟩) n n, .slice A_uw5 n c_uw5), ?_, ?_, ?_⟩
    ·trivial
    ·exact ⟨(by first | rfl | (congr 1; omega) | simp [*]), trivial⟩
    ·exact ((Weak.selF [2, 1, 0, 0, 0, 0]).trans (Some'.weak (.takeEq (by first | rfl | (rw [rep0]) | simp) (.takeEq (by first | rfl | (rw [rep0]) | simp) (.takeEq (by first | rfl | (rw [rep0]) | simp) (.take (.take (.take (.nil _)))))))))
   ·refine OpStep.call (vs := [vy]) (caps := []) Tcall_28 rfl rfl (fun w hs => CloneInt_spec (by omega) (by omega) (hs.sl hy)) ?_
    rintro uw _ rfl
    refine ⟨(Some'.weak (.skip (.skip (.take (.take (.take (.nil _))))))), ?_⟩
    refine DW.step (i := 2) (by kernel_rfl) rfl rfl (OpStep.makeSlice (n := n) Tsl_24 rfl (by decide) (by first | rfl | omega) (by first | rfl | omega) (by omega) (by simp only [maxLen]; omega) fun b13 => ?_)
    refine ⟨(Some'.weak (.skip (.skip (.skip (.take (.take (.take (.nil _)))))))), ?_⟩
    refine DW.formOwn (.tail _ (List.Mem.head _)) (fun A_uw6 c_uw6 hv hcapc_uw6 hmaxc_uw6 => ?_)
    subst hv
    refine DW.take (i := 6) (v := .agg #[.slice (some ⟨b13, 0, none⟩) n n, .slice A_uw6 n c_uw6]) rfl (by kernel_rfl) (by kernel_rfl) (by kernel_rfl) (fun _ _ _ h => h) (Some'.weak (.skip (.skip (.skip (.take (.take (.take (.nil _)))))))) rfl (OpY.build (cs := [.slice (some ⟨b13, 0, none⟩) n n, .slice A_uw6 n c_uw6]) (by kernel_rfl)) ?_
    refine DW.step (i := 8) (by kernel_rfl) rfl rfl (OpStep.storeAll (us := [.slice (some ⟨b13, 0, none⟩) n n, .slice A_uw6 n c_uw6]) Tsize_38 rfl rfl rfl (.there _ (.there _ (.here _))) rfl ?_)
    refine ⟨(Some'.weak (.skip (.skip (.skip (.take (.take (.take (.nil _)))))))), ?_⟩
    refine DW.done (by kernel_rfl) ?_
    refine Run.goal ⟨(by repeat (first | exact Same.refl _ _ | refine Same.put rfl ?_ | refine Same.over rfl rfl ?_)), (b11, .slice (some ⟨b13, 0, none⟩) n n, .slice A_uw6 n c_uw6), ?_, ?_, ?_⟩
    ·trivial
    ·exact ⟨(by first | rfl | (congr 1; omega) | simp [*]), trivial⟩
    ·exact ((Weak.selF [2, 0, 0, 0, 0, 0]).trans (Some'.weak (.takeEq (by first | rfl | (rw [rep0]) | simp) (.takeEq (by first | rfl | (rw [rep0]) | simp) (.takeEq (by first | rfl | (rw [rep0]) | simp) (.take (.take (.take (.nil _)))))))))
 ·rintro ⟨b6, v1, v2⟩ fr hcut
  show Run _ _ (over _ _ [(6, .pointer (some ⟨b6, 0, none⟩))] fr) [.blk b6 38 [v1, v2], .own v1 3 1 n (ints (List.replicate n 0)), .own v2 3 1 n (ints ly), .blk b3 38 [.slice none 0 0, .slice none 0 0], .blk b2 29 [.slice Ax n cx_, vy], .blk b1 26 [.int .i64 (((n : Nat) : Int)), ve, vi, vo]]
  refine Run.seq ?_
  refine Run.sr ?_
  refine Run.y (.pointer (some ⟨b2, 0, none⟩)) rfl (OpY.fieldAddr Tfo_29_0 rfl rfl) ?_
  refine Run.y (.slice Ax n cx_) rfl (OpY.load1 Tone_24 rfl (Cells.blk (.tail _ (.tail _ (.tail _ (.tail _ (List.Mem.head _))))) ⟨rfl, trivial⟩)) ?_
  refine Run.y (.int .i64 (((n : Nat) : Int))) rfl (OpY.len Tsl_24 rfl) ?_
  refine Run.p (.int .i64 0) rfl rfl ?_
  refine Run.done ?_
  refine Run.formOwn (.tail _ (List.Mem.head _)) (fun A_v11 c_v11 hv hcapc_v11 hmaxc_v11 => ?_) (fun _ _ _ => ⟨nofun, nofun, nofun⟩)
  subst hv
  refine Run.formOwn (.tail _ (.tail _ (List.Mem.head _))) (fun A_v21 c_v21 hv hcapc_v21 hmaxc_v21 => ?_) (fun _ _ _ => ⟨nofun, nofun, nofun⟩)
  subst hv
  refine Run.block ?_
  refine Run.loop (ι := Nat) [7, 8, 29, 30, 31, 32, 33, 34, 35, 36, 37, 38, 39, 40, 41, 42] (fun k => [(29, .int .i64 (((k : Nat) : Int)))]) (fun k => [.blk b6 38 [.slice A_v11 n c_v11, .slice A_v21 n c_v21], .blk b3 38 [.slice none 0 0, .slice none 0 0], .blk b2 29 [.slice Ax n cx_, vy], .blk b1 26 [.int .i64 (((n : Nat) : Int)), ve, vi, vo], .own (.slice A_v11 n c_v11) 3 1 n (ints (setsK nx k n)), .own (.slice A_v21 n c_v21) 3 1 n (ints ly)]) (fun k => k ≤ n ∧ (True)) (fun k => n - k) 0 ?_ ?_ ?_ ?_
  ·exact ⟨Nat.zero_le _, by first | trivial | (intro i hi; omega)⟩
  ·exact ⟨rfl, trivial⟩
  ·exact ((Weak.selF [0, 2, 2, 2, 0, 0]).trans (Some'.weak (.take (.take (.take (.take (.takeEq (by first | rfl | (rw [setsK_zero]) | (rw [setsK_keep (by omega)]) | (rw [hq1, setsK_set hltk hu])) (.take (.nil _)))))))))
  ·rintro k fr hinv
   show Run _ _ (over _ _ [(29, .int .i64 (((k : Nat) : Int)))] fr) [.blk b6 38 [.slice A_v11 n c_v11, .slice A_v21 n c_v21], .blk b3 38 [.slice none 0 0, .slice none 0 0], .blk b2 29 [.slice Ax n cx_, vy], .blk b1 26 [.int .i64 (((n : Nat) : Int)), ve, vi, vo], .own (.slice A_v11 n c_v11) 3 1 n (ints (setsK nx k n)), .own (.slice A_v21 n c_v21) 3 1 n (ints ly)]
   try dsimp only at hinv
   refine Run.sr ?_
   refine Run.p (.bool (decide ((((k : Nat) : Int)) < (((n : Nat) : Int))))) rfl rfl ?_
   refine Run.done ?_
   refine Run.seq ?_
   refine Run.cond (b := decide ((((k : Nat) : Int)) < (((n : Nat) : Int)))) rfl (fun h30 => ?_) (fun h30 => ?_)
   ·have p30 := h30; try simp only [bs] at p30
    have hltk : k < n := by omega
    obtain ⟨bq, oq, rfl⟩ := hx.opn (by omega)
    have hrk := hrg k hltk
    refine Run.skip ?_
    refine Run.seq ?_
    refine Run.block ?_
    refine Run.sr ?_
    refine Run.p (.int .i64 (((k : Nat) : Int))) rfl rfl ?_
    refine Run.y (.pointer (some ⟨bq, oq + k, none⟩)) rfl (OpY.index (kk := k) Tsl_24 rfl rfl (by omega) (by omega) (by first | rfl | omega)) ?_
    refine Run.y (.int .i64 (ix nx (k))) rfl (OpY.load1 Tone_3 rfl (Cells.arg (k := k) hx rfl (by omega) (pre1 (by omega)))) ?_
    refine Run.p (.int .i64 (((k : Nat) : Int))) rfl rfl ?_
    refine Run.p (.int .i64 (ix nx (k))) rfl rfl ?_
    refine Run.dsr ?_
    refine Run.p (.int .i64 (ix nx (k))) rfl rfl ?_
    refine Run.p (.bool (decide ((ix nx (k)) ≥ 0))) rfl rfl ?_
    refine Run.done ?_
    refine Run.cond (b := decide ((ix nx (k)) ≥ 0)) rfl (fun h35 => ?_) (fun h35 => ?_)
    ·have p35 := h35; try simp only [bs] at p35
     obtain ⟨u, hu⟩ : ∃ u : Nat, ix nx k = (u : Int) := ⟨(ix nx k).toNat, by omega⟩
     obtain ⟨q1, hq1, hq11, hq12⟩ := pow_q (k := u) hn10 (by omega)
     refine Run.openOwn (.tail _ (.tail _ (.tail _ (.tail _ (List.Mem.head _))))) (by omega) (fun g1 cg1 hvg1 hcapg1 _ => ?_) (fun _ _ _ => ⟨nofun, nofun, nofun⟩)
     injection hvg1 with hAg1 _ hcg1; subst hAg1; subst hcg1
     refine Run.lastly [6] (by kernel_rfl) ?_
     refine DL.takeP (i := 0) (v := .pointer (some ⟨b6, 0, none⟩)) rfl (by kernel_rfl) (by kernel_rfl) (by kernel_rfl) (fun _ _ _ h => h) rfl (fun _ => OpY.fieldAddr Tfo_38_0 rfl rfl) ?_
     refine DL.take (i := 1) (v := .slice (some ⟨g1, 0, none⟩) n c_v11) rfl (by kernel_rfl) (by kernel_rfl) (by kernel_rfl) (by kernel_rfl) (fun _ _ _ h => h) (Some'.weak (.take (.take (.take (.take (.take (.take (.nil _)))))))) rfl (OpY.load1 Tone_24 rfl (Cells.blk (.head _) ⟨rfl, trivial⟩)) ?_
     refine DL.takeP (i := 2) (v := .int .i64 (((k : Nat) : Int))) rfl (by kernel_rfl) (by kernel_rfl) (by kernel_rfl) (fun _ _ _ h => h) rfl (fun _ => OpY.pure rfl) ?_
     refine DL.takeP (i := 3) (v := .int .i64 (ix nx (k))) rfl (by kernel_rfl) (by kernel_rfl) (by kernel_rfl) (fun _ _ _ h => h) rfl (fun _ => OpY.pure rfl) ?_
     refine DL.takeP (i := 4) (v := .int .i64 (((q1 : Nat) : Int))) rfl (by kernel_rfl) (by kernel_rfl) (by kernel_rfl) (fun _ _ _ h => h) rfl (fun _ => OpY.shlOne rfl rfl hu (by omega) hq1) ?_
     refine DL.takeP (i := 5) (v := .pointer (some ⟨g1, k, none⟩)) rfl (by kernel_rfl) (by kernel_rfl) (by kernel_rfl) (fun _ _ _ h => h) rfl (fun _ => OpY.index (kk := k) Tsl_24 rfl rfl (by omega) (by omega) (by first | rfl | omega)) ?_
     refine DL.step (i := 6) (by kernel_rfl) (by kernel_rfl) rfl rfl (OpStep.storeOwnInt (o := k) (a := ((q1 : Nat) : Int)) Tsize_3 rfl rfl (.there _ (.there _ (.there _ (.there _ (.here _))))) (by first | omega | (simp; omega)) ?_)
     refine DL.done (by kernel_rfl) ?_
     refine Run.blockEnd ?_
     refine Run.region ?_
     refine Run.y (.int .i64 ((((k : Nat) : Int)) + 1)) rfl (OpY.add rfl rfl rfl (by omega) (by omega)) ?_
     refine Run.p (.int .i64 ((((k : Nat) : Int)) + 1)) rfl rfl ?_
     refine Run.done ?_
     refine Run.goal ⟨(by repeat (first | exact Same.refl _ _ | refine Same.put rfl ?_ | refine Same.over rfl rfl ?_)), k + 1, ?_, ?_, ?_, ?_⟩
     ·refine ⟨by omega, ?_⟩
      trivial
     ·omega
     ·exact ⟨(by first | rfl | (congr 1; omega) | simp), trivial⟩
     ·exact ((Weak.refl _).trans (Some'.weak (.takeEq (by first | rfl | (rw [setsK_zero]) | (rw [setsK_keep (by omega)]) | (rw [hq1, setsK_set hltk hu])) (.take (.takeEq (by first | rfl | (rw [setsK_zero]) | (rw [setsK_keep (by omega)]) | (rw [hq1, setsK_set hltk hu])) (.take (.takeEq (by first | rfl | (rw [setsK_zero]) | (rw [setsK_keep (by omega)]) | (rw [hq1, setsK_set hltk hu])) (.takeEq (by first | rfl | (rw [setsK_zero]) | (rw [setsK_keep (by omega)]) | (rw [hq1, setsK_set hltk hu])) (.nil _)))))))))
    ·have p35 := h35; try simp only [bs] at p35
     refine Run.skip ?_
     refine Run.blockEnd ?_
     refine Run.region ?_
     refine Run.y (.int .i64 ((((k : Nat) : Int)) + 1)) rfl (OpY.add rfl rfl rfl (by omega) (by omega)) ?_
     refine Run.p (.int .i64 ((((k : Nat) : Int)) + 1)) rfl rfl ?_
     refine Run.done ?_
     refine Run.goal ⟨(by repeat (first | exact Same.refl _ _ | refine Same.put rfl ?_ | refine Same.over rfl rfl ?_)), k + 1, ?_, ?_, ?_, ?_⟩
     ·refine ⟨by omega, ?_⟩
      trivial
     ·omega
     ·exact ⟨(by first | rfl | (congr 1; omega) | simp), trivial⟩
     ·exact ((Weak.refl _).trans (Some'.weak (.take (.take (.takeEq (by first | rfl | (rw [setsK_zero]) | (rw [setsK_keep (by omega)]) | (rw [hq1, setsK_set hltk hu])) (.take (.takeEq (by first | rfl | (rw [setsK_zero]) | (rw [setsK_keep (by omega)]) | (rw [hq1, setsK_set hltk hu])) (.takeEq (by first | rfl | (rw [setsK_zero]) | (rw [setsK_keep (by omega)]) | (rw [hq1, setsK_set hltk hu])) (.nil _)))))))))
   ·have p30 := h30; try simp only [bs] at p30
    have hknk : k = n := by omega
    refine Run.exit rfl ?_
    refine Run.sr ?_
    refine Run.y (.agg #[.slice A_v11 n c_v11, .slice A_v21 n c_v21]) rfl (OpY.loadN (cs := [.slice A_v11 n c_v11, .slice A_v21 n c_v21]) Tagg_38 rfl (Cells.blk (.head _) ⟨rfl, rfl, trivial⟩)) ?_
    refine Run.step rfl (OpStep.storeAll (us := [.slice A_v11 n c_v11, .slice A_v21 n c_v21]) Tsize_38 rfl rfl rfl (.there _ (.here _)) rfl ?_)
    refine Run.p (.bool true) rfl rfl ?_
    refine Run.done ?_
    refine Run.ret ?_
    refine ⟨.tuple #[.agg #[.slice A_v11 n c_v11, .slice A_v21 n c_v21], .bool true], [.own (.slice A_v11 n c_v11) 3 1 n (ints (setsK nx k n)), .own (.slice A_v21 n c_v21) 3 1 n (ints ly)], Out.cell2 (cs := [.slice A_v11 n c_v11, .slice A_v21 n c_v21]) rfl Tagg_38 rfl (Cells.blk (.tail _ (List.Mem.head _)) ⟨rfl, rfl, trivial⟩) rfl, (Some'.weak (.skip (.skip (.skip (.skip (.take (.take (.nil _)))))))), ?_⟩
    exact ⟨_, _, rfl, by rw [hknk, setsK_all]⟩

set_option maxHeartbeats 2000000 in
set_option maxRecDepth 20000 in
theorem ChainsOf_spec {ve vi vo vx vy : Value} {n m ni no : Nat} {es is os nx ly : List Int} {w : World} (hg : ogB n es m is ni os no = true) (hfl : flB es m n is ni os no nx n ly n = true) (he : Sl w ve 2 m (ints es)) (hi : Sl w vi 1 ni (ints is)) (ho : Sl w vo 1 no (ints os)) (hx : Sl w vx 1 n (ints nx)) (hy : Sl w vy 1 n (ints ly)) (hN : NxI nx ly n) : Calls Try.prog 15 #[.agg #[.int .i64 (n : Int), ve, vi, vo], .agg #[vx, vy]] w (Post No w fun v H => ∃ (vq : Value) (ps : List (Value × List Int)), ps.map (·.2) = chN nx n n ∧ v = .tuple #[vq, .bool true] ∧ H = [.own vq 24 1 (ps.length) (oc ps), .grp 3 1 (gl ps)]) := by
 obtain ⟨hn1, hn10, hes, hri, hro⟩ := og_ok hg
 have hp10 := pow10 hn10
 obtain ⟨Ax, cx_, rfl, _, _⟩ := hx.form0
 have hrg := fl_rng hfl
 have hnxl := hx.len
 refine enter (n := 48) (args := [.agg #[.int .i64 (((n : Nat) : Int)), ve, vi, vo], .agg #[.slice Ax n cx_, vy]]) Try.func15 rfl rfl (St.empty _ _) ?_
 refine Run.sr ?_
 refine Run.step rfl (OpStep.box (us := [.int .i64 (((n : Nat) : Int)), ve, vi, vo]) rfl fun b1 => ?_)
 refine Run.step rfl (OpStep.box (us := [.slice Ax n cx_, vy]) rfl fun b2 => ?_)
 refine Run.p (.slice none 0 0) rfl rfl ?_
 refine Run.p (.bool false) rfl rfl ?_
 refine Run.done ?_
 refine Run.seq ?_
 refine Run.sr ?_
 refine Run.y (.agg #[.int .i64 (((n : Nat) : Int)), ve, vi, vo]) rfl (OpY.loadN (cs := [.int .i64 (((n : Nat) : Int)), ve, vi, vo]) Tagg_26 rfl (Cells.blk (.tail _ (List.Mem.head _)) ⟨rfl, rfl, rfl, rfl, trivial⟩)) ?_
 refine Run.q (v := .bool true) rfl (OpQ.call (vs := [.agg #[.int .i64 (((n : Nat) : Int)), ve, vi, vo]]) (caps := []) Tcall_24 rfl rfl (fun w hs => (by have h := IsValidOpenGraph_spec (n := n) (by omega) (hs.sl he) (hs.sl hi) (hs.sl ho); rw [hg] at h; exact h))) ?_
 refine Run.p (.bool false) rfl rfl ?_
 refine Run.p (.bool false) rfl rfl ?_
 refine Run.y (.agg #[.int .i64 (((n : Nat) : Int)), ve, vi, vo]) rfl (OpY.loadN (cs := [.int .i64 (((n : Nat) : Int)), ve, vi, vo]) Tagg_26 rfl (Cells.blk (.tail _ (List.Mem.head _)) ⟨rfl, rfl, rfl, rfl, trivial⟩)) ?_
 refine Run.y (.agg #[.slice Ax n cx_, vy]) rfl (OpY.loadN (cs := [.slice Ax n cx_, vy]) Tagg_29 rfl (Cells.blk (.head _) ⟨rfl, rfl, trivial⟩)) ?_
 refine Run.q (v := .bool true) rfl (OpQ.call (vs := [.agg #[.int .i64 (((n : Nat) : Int)), ve, vi, vo], .agg #[.slice Ax n cx_, vy]]) (caps := []) Tcall_35 rfl rfl (fun w hs => (by have h := isFlow_spec (n := n) hn1 hn10 hes hri (hs.sl he) (hs.sl hi) (hs.sl ho) (hs.sl hx) (hs.sl hy); rw [hfl] at h; exact h))) ?_
 refine Run.p (.bool false) rfl rfl ?_
 refine Run.p (.bool false) rfl rfl ?_
 refine Run.done ?_
 refine Run.cond (b := false) rfl (fun h => nomatch h) (fun _ => ?_)
 refine Run.skip ?_
 refine Run.sr ?_
 refine Run.step rfl (OpStep.buildSlice (us := []) Tsl_43 (by decide) (by decide) rfl rfl fun b3 => ?_)
 refine Run.p (.slice (some ⟨b3, 0, none⟩) 0 0) rfl rfl ?_
 refine Run.done ?_
 refine Run.seq ?_
 refine Run.sr ?_
 refine Run.y (.pointer (some ⟨b1, 0, none⟩)) rfl (OpY.fieldAddr Tfo_26_0 rfl rfl) ?_
 refine Run.y (.int .i64 (((n : Nat) : Int))) rfl (OpY.load1 Tone_3 rfl (Cells.blk (.tail _ (.tail _ (List.Mem.head _))) ⟨rfl, trivial⟩)) ?_
 refine Run.p (.int .i64 0) rfl rfl ?_
 refine Run.done ?_
 refine Run.weak (H' := [.grp 3 1 (gl ([])), .own (.slice (some ⟨b3, 0, none⟩) 0 0) 24 1 0 ([]), .blk b2 29 [.slice Ax n cx_, vy], .blk b1 26 [.int .i64 (((n : Nat) : Int)), ve, vi, vo]]) (Weak.grpNil _ _) ?_ ⟨_, _, rfl, fun _ => nofun, fun _ => nofun⟩
 refine Run.block ?_
 refine Run.loop (ι := Nat × Value × List (Value × List Int)) [6, 7, 8, 9, 22, 23, 24, 25, 26, 27, 28, 29, 30, 31, 32, 33, 34, 35, 36, 37, 38, 39, 40, 41, 42, 43, 44, 45, 46] (fun ⟨k, vq, ps⟩ => [(6, vq), (22, .int .i64 (((k : Nat) : Int)))]) (fun ⟨k, vq, ps⟩ => [.own vq 24 1 (ps.length) (oc ps), .grp 3 1 (gl ps), .blk b2 29 [.slice Ax n cx_, vy], .blk b1 26 [.int .i64 (((n : Nat) : Int)), ve, vi, vo]]) (fun ⟨k, vq, ps⟩ => k ≤ n ∧ ps.map (·.2) = chN nx n k) (fun ⟨k, vq, ps⟩ => n - k) (0, .slice (some ⟨b3, 0, none⟩) 0 0, []) ?_ ?_ ?_ ?_
 ·exact ⟨Nat.zero_le _, rfl⟩
 ·exact ⟨rfl, rfl, trivial⟩
 ·exact ((Weak.selF [1, 0, 0, 0]).trans (Some'.weak (.takeEq (by first | rfl | simp [oc, gl]) (.takeEq (by first | rfl | simp [oc, gl]) (.take (.take (.nil _)))))))
 ·rintro ⟨k, vq, ps⟩ fr hinv
  show Run _ _ (over _ _ [(6, vq), (22, .int .i64 (((k : Nat) : Int)))] fr) [.own vq 24 1 (ps.length) (oc ps), .grp 3 1 (gl ps), .blk b2 29 [.slice Ax n cx_, vy], .blk b1 26 [.int .i64 (((n : Nat) : Int)), ve, vi, vo]]
  try dsimp only at hinv
  refine Run.sr ?_
  refine Run.p (.bool (decide ((((k : Nat) : Int)) < (((n : Nat) : Int))))) rfl rfl ?_
  refine Run.done ?_
  refine Run.seq ?_
  refine Run.cond (b := decide ((((k : Nat) : Int)) < (((n : Nat) : Int)))) rfl (fun h23 => ?_) (fun h23 => ?_)
  ·have p23 := h23; try simp only [bs] at p23
   obtain ⟨hk0, hps⟩ := hinv
   have hkn : k < n := by omega
   have hpl : ps.length ≤ k := by have h1 := congrArg List.length hps; rw [List.length_map] at h1; rw [h1]; exact chN_le nx n k
   refine Run.skip ?_
   refine Run.seq ?_
   refine Run.block ?_
   refine Run.sr ?_
   refine Run.p (.int .i64 (((k : Nat) : Int))) rfl rfl ?_
   refine Run.p (.int .i64 (((k : Nat) : Int))) rfl rfl ?_
   refine Run.done ?_
   refine Run.seq ?_
   refine Run.sr ?_
   refine Run.y (.pointer (some ⟨b2, 0, none⟩)) rfl (OpY.fieldAddr Tfo_29_0 rfl rfl) ?_
   refine Run.y (.slice Ax n cx_) rfl (OpY.load1 Tone_24 rfl (Cells.blk (.tail _ (.tail _ (List.Mem.head _))) ⟨rfl, trivial⟩)) ?_
   refine Run.p (.int .i64 (((k : Nat) : Int))) rfl rfl ?_
   refine Run.q (v := .bool (hasI nx (k : Int) n)) rfl (OpQ.call (vs := [.slice Ax n cx_, .int .i64 (((k : Nat) : Int))]) (caps := []) Tcall_30 rfl rfl (fun w hs => (by have h := ContainsInt_spec (x := ((k : Nat) : Int)) (hs.sl hx); exact h))) ?_
   refine Run.done ?_
   refine Run.cond (b := hasI nx (k : Int) n) rfl (fun h28 => ?_) (fun h28 => ?_)
   ·have p28 := h28; try simp only [bs] at p28
    have hC : chN nx n (k + 1) = chN nx n k := by rw [chN, if_pos (by simpa using p28), List.append_nil]
    refine Run.exit rfl ?_
    refine Run.region ?_
    refine Run.y (.int .i64 ((((k : Nat) : Int)) + 1)) rfl (OpY.add rfl rfl rfl (by omega) (by omega)) ?_
    refine Run.p (.int .i64 ((((k : Nat) : Int)) + 1)) rfl rfl ?_
    refine Run.done ?_
    refine Run.goal ⟨(by repeat (first | exact Same.refl _ _ | refine Same.put rfl ?_ | refine Same.over rfl rfl ?_)), (k + 1, vq, ps), ?_, ?_, ?_, ?_⟩
    ·exact ⟨hkn, by first | (rw [hC]; exact hps) | (rw [hC, List.map_append, hps, ← hcl]; rfl)⟩
    ·show n - (k + 1) < n - k; omega
    ·exact ⟨(by first | rfl | (congr 1; omega) | simp), (by first | rfl | (congr 1; omega) | simp), trivial⟩
    ·exact ((Weak.refl _).trans (Some'.weak (.takeEq (by first | rfl | simp [oc, gl]) (.takeEq (by first | rfl | simp [oc, gl]) (.take (.take (.nil _)))))))
   ·have p28 := h28; try simp only [bs] at p28
    have hC : chN nx n (k + 1) = chN nx n k ++ [chL nx 102 (k : Int)] := by rw [chN, if_neg (by simpa using p28)]
    refine Run.skip ?_
    refine Run.sr ?_
    refine Run.step rfl (OpStep.buildSlice (us := []) Tsl_24 (by decide) (by decide) rfl rfl fun b4 => ?_)
    refine Run.p (.slice (some ⟨b4, 0, none⟩) 0 0) rfl rfl ?_
    refine Run.done ?_
    refine Run.seq ?_
    refine Run.sr ?_
    refine Run.p (.int .i64 (((k : Nat) : Int))) rfl rfl ?_
    refine Run.p (.int .i64 (((k : Nat) : Int))) rfl rfl ?_
    refine Run.done ?_
    refine Run.block ?_
    refine Run.loop (ι := List Int × Int × Nat × Value) [8, 9, 31, 32, 33, 34, 35, 36, 37, 38, 39, 40, 41] (fun ⟨c, u, f, vc⟩ => [(8, vc), (9, .int .i64 u)]) (fun ⟨c, u, f, vc⟩ => [.own vc 3 1 (c.length) (ints c), .own vq 24 1 (ps.length) (oc ps), .grp 3 1 (gl ps), .blk b2 29 [.slice Ax n cx_, vy], .blk b1 26 [.int .i64 (((n : Nat) : Int)), ve, vi, vo]]) (fun ⟨c, u, f, vc⟩ => c ++ chL nx f u = chL nx 102 (k : Int) ∧ (u < 0 ∨ (u < n ∧ ix ly u.toNat < f)) ∧ c.length + f = 102) (fun ⟨c, u, f, vc⟩ => f) ([], ((k : Nat) : Int), 102, .slice (some ⟨b4, 0, none⟩) 0 0) ?_ ?_ ?_ ?_
    ·exact ⟨rfl, .inr ⟨by omega, by have := hN.lay k hkn; rw [Int.toNat_natCast]; omega⟩, rfl⟩
    ·exact ⟨rfl, rfl, trivial⟩
    ·exact ((Weak.refl _).trans (Some'.weak (.takeEq (by first | rfl | simp) (.take (.take (.take (.take (.nil _))))))))
    ·rintro ⟨c, u, f, vc⟩ fr hinv
     show Run _ _ (over _ _ [(8, vc), (9, .int .i64 u)] fr) [.own vc 3 1 (c.length) (ints c), .own vq 24 1 (ps.length) (oc ps), .grp 3 1 (gl ps), .blk b2 29 [.slice Ax n cx_, vy], .blk b1 26 [.int .i64 (((n : Nat) : Int)), ve, vi, vo]]
     try dsimp only at hinv
     refine Run.seq ?_
     refine Run.sr ?_
     refine Run.p (.int .i64 u) rfl rfl ?_
     refine Run.p (.bool (decide (u ≥ 0))) rfl rfl ?_
     refine Run.done ?_
     refine Run.cond (b := decide (u ≥ 0)) rfl (fun h32 => ?_) (fun h32 => ?_)
     ·have p32 := h32; try simp only [bs] at p32
      obtain ⟨hc1, hc2, hc3⟩ := hinv
      obtain ⟨uu, huu⟩ : ∃ a : Nat, u = (a : Int) := ⟨u.toNat, by omega⟩
      have hut : u.toNat = uu := by rw [huu, Int.toNat_natCast]
      rw [hut] at hc2
      have hun : uu < n := by omega
      have hly := hN.lay uu hun
      obtain ⟨f2, rfl⟩ : ∃ f2, f = f2 + 1 := ⟨f - 1, by omega⟩
      have hcn : c ++ [u] ++ chL nx f2 (ix nx uu) = chL nx 102 (k : Int) := by
       rw [← hc1]
       conv => rhs; rw [chL, if_neg (by omega), hut]
       simp
      have hnx := hrg uu hun
      have hlw : ix nx uu < 0 ∨ (ix nx uu < n ∧ ix ly (ix nx uu).toNat < f2) := by
       rcases hnx with h | ⟨h, h2⟩
       ·exact .inl (by omega)
       ·right
        have h3 := hN.low uu hun (ix nx uu).toNat (by omega)
        omega
      obtain ⟨bq, oq, rfl⟩ := hx.opn (by omega)
      refine Run.skip ?_
      refine Run.seq ?_
      refine Run.block ?_
      refine Run.region ?_
      refine Run.p (vc) rfl rfl ?_
      refine Run.p (.int .i64 u) rfl rfl ?_
      refine Run.step rfl (OpStep.buildSlice (us := [.int .i64 u]) Tsl_24 (by decide) (by decide) ⟨rfl, [.int .i64 u], _, rfl, rfl, rfl, rfl⟩ rfl fun b5 => ?_)
      refine Run.step rfl (OpStep.append (H1 := [.own (.slice (some ⟨b5, 0, none⟩) 1 1) 3 1 1 ([.int .i64 u])]) (H2 := [.own vq 24 1 (ps.length) (oc ps), .grp 3 1 (gl ps), .blk b2 29 [.slice (some ⟨bq, oq, none⟩) n cx_, vy], .blk b1 26 [.int .i64 (((n : Nat) : Int)), ve, vi, vo]]) (v := vc) (u := .slice (some ⟨b5, 0, none⟩) 1 1) (n := c.length) (m := 1) (xs := ints c) (ys := [.int .i64 u]) Tsl_24 (by decide) rfl rfl rfl rfl (fun w hs => hs.slOwn (.head _)) (by simp [Value.oneCell']) (by omega) (by simp only [maxLen]; omega) fun av1 hnav1 => ?_)
      refine Run.weak (H' := [.own (.slice (some ⟨b5, 0, none⟩) 1 1) 3 1 1 ([.int .i64 u]), .own av1 3 1 ((c ++ [u]).length) (ints (c ++ [u])), .own vq 24 1 (ps.length) (oc ps), .grp 3 1 (gl ps), .blk b2 29 [.slice (some ⟨bq, oq, none⟩) n cx_, vy], .blk b1 26 [.int .i64 (((n : Nat) : Int)), ve, vi, vo]]) (Some'.weak (.take (.takeEq (by simp [ints]) (.take (.take (.take (.take (.nil _)))))))) ?_ ⟨_, _, rfl, fun _ => nofun, fun _ => nofun⟩
      refine Run.p (av1) rfl rfl ?_
      refine Run.done ?_
      refine Run.blockEnd ?_
      refine Run.region ?_
      refine Run.y (.pointer (some ⟨b2, 0, none⟩)) rfl (OpY.fieldAddr Tfo_29_0 rfl rfl) ?_
      refine Run.y (.slice (some ⟨bq, oq, none⟩) n cx_) rfl (OpY.load1 Tone_24 rfl (Cells.blk (.tail _ (.tail _ (.tail _ (.tail _ (List.Mem.head _))))) ⟨rfl, trivial⟩)) ?_
      refine Run.p (.int .i64 u) rfl rfl ?_
      refine Run.y (.pointer (some ⟨bq, oq + uu, none⟩)) rfl (OpY.index (kk := uu) Tsl_24 rfl rfl (by omega) (by omega) (by first | rfl | omega)) ?_
      refine Run.y (.int .i64 (ix nx (uu))) rfl (OpY.load1 Tone_3 rfl (Cells.arg (k := uu) hx rfl (by omega) (pre1 (by omega)))) ?_
      refine Run.p (.int .i64 (ix nx (uu))) rfl rfl ?_
      refine Run.done ?_
      refine Run.goal ⟨(by repeat (first | exact Same.refl _ _ | refine Same.put rfl ?_ | refine Same.over rfl rfl ?_)), (c ++ [u], ix nx uu, f2, av1), ?_, ?_, ?_, ?_⟩
      ·exact ⟨hcn, hlw, by rw [List.length_append]; simp only [List.length_cons, List.length_nil]; omega⟩
      ·show f2 < f2 + 1; omega
      ·exact ⟨(by first | rfl | (congr 1; omega) | simp), (by first | rfl | (congr 1; omega) | simp), trivial⟩
      ·exact ((Weak.selF [1, 1, 1, 1, 1]).trans (Some'.weak (.takeEq (by first | rfl | simp) (.takeEq (by first | rfl | simp) (.takeEq (by first | rfl | simp) (.takeEq (by first | rfl | simp) (.take (.nil _))))))))
     ·have p32 := h32; try simp only [bs] at p32
      obtain ⟨hc1, hc2, hc3⟩ := hinv
      have hcl : c = chL nx 102 (k : Int) := by rw [← hc1, chL_neg (by omega), List.append_nil]
      refine Run.exit rfl ?_
      refine Run.region ?_
      refine Run.p (vq) rfl rfl ?_
      refine Run.p (vc) rfl rfl ?_
      refine Run.formOwn (.head _) (fun A_vc1 c_vc1 hv hcapc_vc1 hmaxc_vc1 => ?_) (fun _ _ _ => ⟨nofun, nofun, nofun⟩)
      subst hv
      refine Run.step rfl (OpStep.buildSlice (us := [.slice A_vc1 (c.length) c_vc1]) Tsl_43 (by decide) (by decide) ⟨rfl, [.slice A_vc1 (c.length) c_vc1], _, rfl, rfl, rfl, rfl⟩ rfl fun b6 => ?_)
      refine Run.step rfl (OpStep.append (H1 := [.own (.slice (some ⟨b6, 0, none⟩) 1 1) 24 1 1 ([.slice A_vc1 (c.length) c_vc1]), .own (.slice A_vc1 (c.length) c_vc1) 3 1 (c.length) (ints c)]) (H2 := [.grp 3 1 (gl ps), .blk b2 29 [.slice Ax n cx_, vy], .blk b1 26 [.int .i64 (((n : Nat) : Int)), ve, vi, vo]]) (v := vq) (u := .slice (some ⟨b6, 0, none⟩) 1 1) (n := ps.length) (m := 1) (xs := oc ps) (ys := [.slice A_vc1 (c.length) c_vc1]) Tsl_43 (by decide) rfl rfl rfl rfl (fun w hs => hs.slOwn (.head _)) (by simp [Value.oneCell']) (by omega) (by simp only [maxLen]; omega) fun av2 hnav2 => ?_)
      refine Run.weak (H' := [.own (.slice (some ⟨b6, 0, none⟩) 1 1) 24 1 1 ([.slice A_vc1 (c.length) c_vc1]), .own (.slice A_vc1 (c.length) c_vc1) 3 1 (c.length) (ints c), .own av2 24 1 ((ps ++ [((.slice A_vc1 (c.length) c_vc1 : Value), c)]).length) (oc (ps ++ [((.slice A_vc1 (c.length) c_vc1 : Value), c)])), .grp 3 1 (gl ps), .blk b2 29 [.slice Ax n cx_, vy], .blk b1 26 [.int .i64 (((n : Nat) : Int)), ve, vi, vo]]) (Some'.weak (.take (.take (.takeEq (by simp [oc]) (.take (.take (.take (.nil _)))))))) ?_ ⟨_, _, rfl, fun _ => nofun, fun _ => nofun⟩
      refine Run.weak (H' := [.grp 3 1 (gl (ps ++ [((.slice A_vc1 (c.length) c_vc1 : Value), c)])), .own (.slice (some ⟨b6, 0, none⟩) 1 1) 24 1 1 ([.slice A_vc1 (c.length) c_vc1]), .own av2 24 1 ((ps ++ [((.slice A_vc1 (c.length) c_vc1 : Value), c)]).length) (oc (ps ++ [((.slice A_vc1 (c.length) c_vc1 : Value), c)])), .blk b2 29 [.slice Ax n cx_, vy], .blk b1 26 [.int .i64 (((n : Nat) : Int)), ve, vi, vo]]) ((Weak.selF [1, 2]).trans Weak.grpSnoc) ?_ ⟨_, _, rfl, fun _ => nofun, fun _ => nofun⟩
      refine Run.p (av2) rfl rfl ?_
      refine Run.done ?_
      refine Run.blockEnd ?_
      refine Run.region ?_
      refine Run.y (.int .i64 ((((k : Nat) : Int)) + 1)) rfl (OpY.add rfl rfl rfl (by omega) (by omega)) ?_
      refine Run.p (.int .i64 ((((k : Nat) : Int)) + 1)) rfl rfl ?_
      refine Run.done ?_
      refine Run.goal ⟨(by repeat (first | exact Same.refl _ _ | refine Same.put rfl ?_ | refine Same.over rfl rfl ?_)), (k + 1, av2, ps ++ [((.slice A_vc1 (c.length) c_vc1 : Value), c)]), ?_, ?_, ?_, ?_⟩
      ·exact ⟨hkn, by first | (rw [hC]; exact hps) | (rw [hC, List.map_append, hps, ← hcl]; rfl)⟩
      ·show n - (k + 1) < n - k; omega
      ·exact ⟨(by first | rfl | (congr 1; omega) | simp), (by first | rfl | (congr 1; omega) | simp), trivial⟩
      ·exact ((Weak.selF [2, 0, 1, 1]).trans (Some'.weak (.takeEq (by first | rfl | simp [oc, gl]) (.takeEq (by first | rfl | simp [oc, gl]) (.take (.take (.nil _)))))))
  ·have p23 := h23; try simp only [bs] at p23
   obtain ⟨hk0, hps⟩ := hinv
   have hkn : k = n := by omega
   refine Run.exit rfl ?_
   refine Run.sr ?_
   refine Run.p (vq) rfl rfl ?_
   refine Run.p (vq) rfl rfl ?_
   refine Run.p (.bool true) rfl rfl ?_
   refine Run.done ?_
   refine Run.ret ?_
   refine ⟨.tuple #[vq, .bool true], [.own vq 24 1 (ps.length) (oc ps), .grp 3 1 (gl ps)], Out.two rfl rfl rfl, (Some'.weak (.take (.take (.nil _)))), ?_⟩
   exact ⟨_, _, by rw [hps, hkn], rfl, rfl⟩

end Go.Proofs.Ytoiaibgcjfgbcaa
