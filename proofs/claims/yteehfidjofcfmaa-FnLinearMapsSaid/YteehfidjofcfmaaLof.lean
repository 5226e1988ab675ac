/- Walks: maps of circuits, inverses, compositions. -/
import Derived.Test.YteehfidjofcfmaaElw
import Derived.Test.YteehfidjofcfmaaEqc
import Derived.Test.YteehfidjofcfmaaProg
set_option linter.unusedSimpArgs false
set_option linter.unusedVariables false
namespace Go.Proofs.Yteehfidjofcfmaa
open Go Go.RowKit
namespace LofT
theorem Tagg_28 : aggOf Try.prog 28 = some 1 := by kernel_rfl
theorem Tagg_38 : aggOf Try.prog 38 = some 2 := by kernel_rfl
theorem Tagg_71 : aggOf Try.prog 71 = some 3 := by kernel_rfl
theorem Tcall_109 : callable Try.prog 109 = true := by kernel_rfl
theorem Tcall_110 : callable Try.prog 110 = true := by kernel_rfl
theorem Tcall_111 : callable Try.prog 111 = true := by kernel_rfl
theorem Tcall_35 : callable Try.prog 35 = true := by kernel_rfl
theorem Tcall_66 : callable Try.prog 66 = true := by kernel_rfl
theorem Tcall_67 : callable Try.prog 67 = true := by kernel_rfl
theorem Tcall_68 : callable Try.prog 68 = true := by kernel_rfl
theorem Tcall_69 : callable Try.prog 69 = true := by kernel_rfl
theorem Tcall_70 : callable Try.prog 70 = true := by kernel_rfl
theorem Tcall_71 : callable Try.prog 71 = true := by kernel_rfl
theorem Tcall_73 : callable Try.prog 73 = true := by kernel_rfl
theorem Tcall_74 : callable Try.prog 74 = true := by kernel_rfl
theorem Tcall_76 : callable Try.prog 76 = true := by kernel_rfl
theorem Tcall_77 : callable Try.prog 77 = true := by kernel_rfl
theorem Tcall_78 : callable Try.prog 78 = true := by kernel_rfl
theorem Tcall_79 : callable Try.prog 79 = true := by kernel_rfl
theorem Tcall_98 : callable Try.prog 98 = true := by kernel_rfl
theorem Tfo_28_0 : fieldOff Try.prog 28 0 = some 0 := by kernel_rfl
theorem Tfo_38_0 : fieldOff Try.prog 38 0 = some 0 := by kernel_rfl
theorem Tfo_38_1 : fieldOff Try.prog 38 1 = some 1 := by kernel_rfl
theorem Tfo_71_0 : fieldOff Try.prog 71 0 = some 0 := by kernel_rfl
theorem Tfo_71_1 : fieldOff Try.prog 71 1 = some 1 := by kernel_rfl
theorem Tfo_71_2 : fieldOff Try.prog 71 2 = some 2 := by kernel_rfl
theorem Tone_22 : oneOf Try.prog 22 = true := by kernel_rfl
theorem Tone_3 : oneOf Try.prog 3 = true := by kernel_rfl
theorem Tone_36 : oneOf Try.prog 36 = true := by kernel_rfl
theorem Tsize_22 : (Try.prog.info? 22).map (·.size) = some 1 := by kernel_rfl
theorem Tsize_28 : (Try.prog.info? 28).map (·.size) = some 1 := by kernel_rfl
theorem Tsize_3 : (Try.prog.info? 3).map (·.size) = some 1 := by kernel_rfl
theorem Tsize_71 : (Try.prog.info? 71).map (·.size) = some 3 := by kernel_rfl
theorem Tsl_22 : sliceOf Try.prog 22 = some (3, 1, 8, [.int .i64 0]) := by kernel_rfl
theorem Tsl_36 : sliceOf Try.prog 36 = some (71, 3, 24, [.int .i64 0, .int .i64 0, .int .i64 0]) := by kernel_rfl
theorem Tzero_28 : zeroOf Try.prog 28 = some [.slice none 0 0] := by kernel_rfl
theorem Tzero_71 : zeroOf Try.prog 71 = some [.int .i64 0, .int .i64 0, .int .i64 0] := by kernel_rfl
end LofT
open LofT

theorem l12CX_i {va : Value} {l : List Nat} {n : Nat} {x y : Int} {w : World} (hl : l.length = n) (h5 : n ≤ 5) (hx : 0 ≤ x ∧ x < n) (hy : 0 ≤ y ∧ y < n) (hb : ∀ i, nx l i < 32) (ha : Sl w va 1 n (ints (nl l))) : Calls Try.prog 71 #[.agg #[va], .int .i64 x, .int .i64 y] w (Post No w fun v H => ∃ u, v = .agg #[u] ∧ H = [.own u 3 1 n (ints (nl (cx l (x.toNat, y.toNat))))]) := by
  have h := l12CX_n (a := x.toNat) (b := y.toNat) hl h5 (by omega) (by omega) hb ha
  rwa [Int.toNat_of_nonneg hx.1, Int.toNat_of_nonneg hy.1] at h
theorem lt32 {n : Nat} {l : List Nat} (h5 : n ≤ 5) (h : ∀ i, nx l i < 2 ^ n) : ∀ i, nx l i < 32 := fun i => Nat.lt_of_lt_of_le (h i) (Nat.pow_le_pow_right (n := 2) (by omega) h5)
theorem bitI_nat (x q : Nat) : bitI ((x : Nat) : Int) q = x.testBit q := bitI_nl [x] 0 q
theorem take_gat {gs : List (Nat × Nat)} {k : Nat} (h : k < gs.length) : gs.take (k + 1) = gs.take k ++ [gat gs k] := by rw [List.take_add_one]; simp [gat, List.getD, h]
theorem gat_mem {gs : List (Nat × Nat)} {k : Nat} (h : k < gs.length) : gat gs k ∈ gs := by
  have : gat gs k = gs[k] := by simp [gat, List.getD, h]
  rw [this]; exact List.getElem_mem h
theorem cxs_take {l : List Nat} {gs : List (Nat × Nat)} {k : Nat} (h : k < gs.length) : cxs l (gs.take (k + 1)) = cx (cxs l (gs.take k)) (gat gs k) := by rw [take_gat h, cxs_append]; rfl

set_option maxHeartbeats 1000000 in
set_option maxRecDepth 20000 in
theorem added_n {va : Value} {l : List Nat} {a b n : Nat} {w : World} (hl : l.length = n) (h5 : n ≤ 5) (ha5 : a < n) (hb5 : b < n) (hb : ∀ i, nx l i < 32) (ha : Sl w va 1 n (ints (nl l))) : Calls Try.prog 68 #[.agg #[va], .int .i64 (a : Nat), .int .i64 (b : Nat)] w (Post No w fun v H => ∃ u, v = .agg #[u] ∧ H = [.own u 3 1 n (ints (nl (cx l (a, b))))]) := by
  refine enter (n := 23) (args := [.agg #[va], .int .i64 (((a : Nat) : Int)), .int .i64 (((b : Nat) : Int))]) Try.func68 rfl rfl (St.empty _ _) ?_
  refine Run.seq ?_
  refine Run.region ?_
  refine Run.step rfl (OpStep.box (us := [va]) rfl fun b1 => ?_)
  refine Run.step rfl (OpStep.alloc (zs := [.slice none 0 0]) Tzero_28 fun b2 => ?_)
  refine Run.done ?_
  refine Run.seq ?_
  refine Run.region ?_
  refine Run.q (v := .pointer (some ⟨b1, 0, none⟩)) rfl (OpQ.y (OpY.fieldAddr Tfo_28_0 rfl rfl)) ?_
  refine Run.q (v := va) rfl (OpQ.y (OpY.load1 Tone_22 rfl (Cells.blk (.tail _ (List.Mem.head _)) ⟨rfl, trivial⟩))) ?_
  refine Run.step rfl (OpStep.call (vs := [va]) (caps := []) Tcall_109 rfl rfl (fun w hs => CloneInt_spec (by omega) (by omega) (hs.sl ha)) ?_)
  rintro uo _ rfl
  show Run _ _ (putF _ _ _ uo) [.own uo 3 1 n (ints (nl l)), .blk b2 28 [.slice none 0 0], .blk b1 28 [va]]
  have hll := nl_length l
  have hxa := hb a
  have hxb := hb b
  refine Run.q (v := uo) rfl (OpQ.y (OpY.pure rfl)) ?_
  refine Run.done ?_
  refine Run.seq ?_
  refine Run.openOwn (.head _) (by omega) (fun g cg hvg hcapg _ => ?_) (fun _ _ _ => ⟨nofun, nofun, nofun⟩)
  subst hvg
  refine Run.lastly [10] (by kernel_rfl) ?_
  refine DL.takeP (i := 0) (v := .slice (some ⟨g, 0, none⟩) n cg) rfl (by kernel_rfl) (by kernel_rfl) (by kernel_rfl) (fun _ _ _ h => h) rfl (fun _ => OpY.pure rfl) ?_
  refine DL.takeP (i := 1) (v := .int .i64 (((b : Nat) : Int))) rfl (by kernel_rfl) (by kernel_rfl) (by kernel_rfl) (fun _ _ _ h => h) rfl (fun _ => OpY.pure rfl) ?_
  refine DL.takeP (i := 2) (v := .pointer (some ⟨g, b, none⟩)) rfl (by kernel_rfl) (by kernel_rfl) (by kernel_rfl) (fun _ _ _ h => h) rfl (fun _ => OpY.index (kk := b) Tsl_22 rfl rfl (by omega) (by omega) (by first | rfl | omega)) ?_
  refine DL.take (i := 3) (v := .int .i64 (ix (nl l) (b))) rfl (by kernel_rfl) (by kernel_rfl) (by kernel_rfl) (by kernel_rfl) (fun _ _ _ h => h) (Some'.weak (.take (.take (.take (.nil _))))) rfl (OpY.load1 Tone_3 rfl (Cells.own0 (.head _) (pre1 (by omega)))) ?_
  refine DL.takeP (i := 4) (v := .slice (some ⟨g, 0, none⟩) n cg) rfl (by kernel_rfl) (by kernel_rfl) (by kernel_rfl) (fun _ _ _ h => h) rfl (fun _ => OpY.pure rfl) ?_
  refine DL.takeP (i := 5) (v := .int .i64 (((a : Nat) : Int))) rfl (by kernel_rfl) (by kernel_rfl) (by kernel_rfl) (fun _ _ _ h => h) rfl (fun _ => OpY.pure rfl) ?_
  refine DL.takeP (i := 6) (v := .pointer (some ⟨g, a, none⟩)) rfl (by kernel_rfl) (by kernel_rfl) (by kernel_rfl) (fun _ _ _ h => h) rfl (fun _ => OpY.index (kk := a) Tsl_22 rfl rfl (by omega) (by omega) (by first | rfl | omega)) ?_
  refine DL.take (i := 7) (v := .int .i64 (ix (nl l) (a))) rfl (by kernel_rfl) (by kernel_rfl) (by kernel_rfl) (by kernel_rfl) (fun _ _ _ h => h) (Some'.weak (.take (.take (.take (.nil _))))) rfl (OpY.load1 Tone_3 rfl (Cells.own0 (.head _) (pre1 (by omega)))) ?_
  refine DL.takeP (i := 8) (v := .int .i64 (((nx l b ^^^ nx l a : Nat) : Int))) rfl (by kernel_rfl) (by kernel_rfl) (by kernel_rfl) (fun _ _ _ h => h) rfl (fun _ => OpY.xorNat rfl rfl (ix_nl _ _) (ix_nl _ _) (by omega) (by omega)) ?_
  refine DL.takeP (i := 9) (v := .pointer (some ⟨g, b, none⟩)) rfl (by kernel_rfl) (by kernel_rfl) (by kernel_rfl) (fun _ _ _ h => h) rfl (fun _ => OpY.index (kk := b) Tsl_22 rfl rfl (by omega) (by omega) (by first | rfl | omega)) ?_
  refine DL.step (i := 10) (by kernel_rfl) (by kernel_rfl) rfl rfl (OpStep.storeOwnInt (o := b) (a := ((nx l b ^^^ nx l a : Nat) : Int)) Tsize_3 rfl rfl (.here _) (by omega) ?_)
  refine DL.done (by kernel_rfl) ?_
  refine Run.seq ?_
  refine Run.region ?_
  refine Run.q (v := .slice (some ⟨g, 0, none⟩) n cg) rfl (OpQ.y (OpY.pure rfl)) ?_
  refine Run.q (v := .agg #[.slice (some ⟨g, 0, none⟩) n cg]) rfl (OpQ.y (OpY.build (cs := [.slice (some ⟨g, 0, none⟩) n cg]) (by kernel_rfl))) ?_
  refine Run.step rfl (OpStep.storeAll (us := [.slice (some ⟨g, 0, none⟩) n cg]) Tsize_28 rfl rfl rfl (.there _ (.here _)) rfl ?_)
  refine Run.done ?_
  refine Run.ret ?_
  refine ⟨.agg #[.slice (some ⟨g, 0, none⟩) n cg], [.own (.slice (some ⟨g, 0, none⟩) n cg) 3 1 n (ints (nl (cx l (a, b))))], Out.cell1 (cs := [.slice (some ⟨g, 0, none⟩) n cg]) rfl Tagg_28 rfl (Cells.blk (.tail _ (List.Mem.head _)) ⟨rfl, trivial⟩), (Some'.weak (.takeEq (by rw [nl_set]; rfl) (.nil _))), ?_⟩
  exact ⟨_, rfl, rfl⟩


theorem added_i {va : Value} {l : List Nat} {n : Nat} {x y : Int} {w : World} (hl : l.length = n) (h5 : n ≤ 5) (hx : 0 ≤ x ∧ x < n) (hy : 0 ≤ y ∧ y < n) (hb : ∀ i, nx l i < 32) (ha : Sl w va 1 n (ints (nl l))) : Calls Try.prog 68 #[.agg #[va], .int .i64 x, .int .i64 y] w (Post No w fun v H => ∃ u, v = .agg #[u] ∧ H = [.own u 3 1 n (ints (nl (cx l (x.toNat, y.toNat))))]) := by
  have h := added_n (a := x.toNat) (b := y.toNat) hl h5 (by omega) (by omega) hb ha
  rwa [Int.toNat_of_nonneg hx.1, Int.toNat_of_nonneg hy.1] at h


theorem cx32 {l : List Nat} (h : ∀ i, nx l i < 32) (e : Nat × Nat) : ∀ i, nx (cx l e) i < 32 := cx_lt (k := 5) h

set_option maxHeartbeats 1000000 in
set_option maxRecDepth 20000 in
theorem sIsValidCircuit_spec {N : Int} {va : Value} {n : Nat} {xs : List Int} {w : World} (ha : Sl w va 3 n (ints xs)) : Calls Try.prog 69 #[.agg #[.int .i64 N, va]] w (Post No w fun v _ => v = .bool (circOk N xs n)) := by
  refine enter (n := 5) (args := [.agg #[.int .i64 N, va]]) Try.func69 rfl rfl (St.empty _ _) ?_
  refine Run.seq ?_
  refine Run.region ?_
  refine Run.step rfl (OpStep.box (us := [.int .i64 N, va]) rfl fun b1 => ?_)
  refine Run.q (v := .bool false) rfl (OpQ.y (OpY.pure rfl)) ?_
  refine Run.done ?_
  refine Run.seq ?_
  refine Run.region ?_
  refine Run.q (v := .agg #[.int .i64 N, va]) rfl (OpQ.y (OpY.loadN (cs := [.int .i64 N, va]) Tagg_38 rfl (Cells.blk (.head _) ⟨rfl, rfl, trivial⟩))) ?_
  refine Run.q (v := .bool (circOk N xs n)) rfl (OpQ.call (vs := [.agg #[.int .i64 N, va]]) (caps := []) Tcall_110 rfl rfl (fun w hs => l4Good_spec (hs.sl ha))) ?_
  refine Run.q (v := .bool (circOk N xs n)) rfl (OpQ.y (OpY.pure rfl)) ?_
  refine Run.done ?_
  refine Run.ret ?_
  refine ⟨.bool (circOk N xs n), [], Out.one rfl rfl, (Some'.weak (.nil _)), ?_⟩
  rfl

set_option maxHeartbeats 2000000 in
set_option maxRecDepth 20000 in
theorem LinearOf_spec {N : Int} {va : Value} {n : Nat} {xs : List Int} {w : World} (ha : Sl w va 3 n (ints xs)) : Calls Try.prog 31 #[.agg #[.int .i64 N, va]] w (Post No w fun v H => ∃ u, v = .tuple #[.agg #[u], .bool (loB N xs n)] ∧ H = [.own u 3 1 (loL N xs n).length (ints (nl (loL N xs n)))]) := by
  have hxl := ha.len
  have han := ha.le
  obtain ⟨A, c, rfl, _, _⟩ := ha.form0
  refine enter (n := 58) (args := [.agg #[.int .i64 N, .slice A n c]]) Try.func31 rfl rfl (St.empty _ _) ?_
  refine Run.seq ?_
  refine Run.region ?_
  refine Run.step rfl (OpStep.box (us := [.int .i64 N, .slice A n c]) rfl fun b1 => ?_)
  refine Run.step rfl (OpStep.alloc (zs := [.slice none 0 0]) Tzero_28 fun b2 => ?_)
  refine Run.q (v := .bool false) rfl (OpQ.y (OpY.pure rfl)) ?_
  refine Run.done ?_
  refine Run.seq ?_
  refine Run.seq ?_
  refine Run.region ?_
  refine Run.q (v := .agg #[.int .i64 N, .slice A n c]) rfl (OpQ.y (OpY.loadN (cs := [.int .i64 N, .slice A n c]) Tagg_38 rfl (Cells.blk (.tail _ (List.Mem.head _)) ⟨rfl, rfl, trivial⟩))) ?_
  refine Run.q (v := .bool (circOk N xs n)) rfl (OpQ.call (vs := [.agg #[.int .i64 N, .slice A n c]]) (caps := []) Tcall_66 rfl rfl (fun w hs => IsValidCircuit_spec (hs.sl ha))) ?_
  refine Run.q (v := .bool (!(circOk N xs n))) rfl (OpQ.y (OpY.pure rfl)) ?_
  refine Run.done ?_
  refine Run.cond (b := !(circOk N xs n)) rfl (fun h9 => ?_) (fun h9 => ?_)
  · have p9 := h9; try simp only [bs] at p9
    have hok : circOk N xs n = false := by simpa using p9
    have hB : loB N xs n = false := by rw [loB, hok, Bool.false_and]
    have hL : loL N xs n = [] := by rw [loL, hB]; rfl
    refine Run.seq ?_
    refine Run.region ?_
    refine Run.q (v := .agg #[.slice none 0 0]) rfl (OpQ.y (OpY.build (cs := [.slice none 0 0]) (by kernel_rfl))) ?_
    refine Run.step rfl (OpStep.storeAll (us := [.slice none 0 0]) Tsize_28 rfl rfl rfl (.here _) rfl ?_)
    refine Run.q (v := .bool false) rfl (OpQ.y (OpY.pure rfl)) ?_
    refine Run.done ?_
    refine Run.ret ?_
    refine ⟨.tuple #[.agg #[.slice none 0 0], .bool false], [.own (.slice none 0 0) 3 1 ((loL N xs n).length) (ints (nl (loL N xs n)))], Out.cell2 (cs := [.slice none 0 0]) rfl Tagg_28 rfl (Cells.blk (.head _) ⟨rfl, trivial⟩) rfl, ((Weak.nilOwn 3 1).trans (Some'.weak (.takeEq (by first | (rw [hL]; done) | (rw [hL]; rfl) | (rw [hL, hll])) (.nil _)))), ?_⟩
    exact ⟨_, by rw [hB], rfl⟩
  · have p9 := h9; try simp only [bs] at p9
    have hok : circOk N xs n = true := by simpa using p9
    have hN := circOk_N hok
    have hNt : ((N.toNat : Nat) : Int) = N := by omega
    have hokt : circOk ((N.toNat : Nat) : Int) xs n = true := by rw [hNt]; exact hok
    refine Run.skip ?_
    refine Run.seq ?_
    refine Run.region ?_
    refine Run.q (v := .pointer (some ⟨b1, 0, none⟩)) rfl (OpQ.y (OpY.fieldAddr Tfo_38_0 rfl rfl)) ?_
    refine Run.q (v := .int .i64 N) rfl (OpQ.y (OpY.load1 Tone_3 rfl (Cells.blk (.tail _ (List.Mem.head _)) ⟨rfl, trivial⟩))) ?_
    refine Run.step rfl (OpStep.call (vs := [.int .i64 N]) (caps := []) Tcall_67 rfl rfl (fun w hs => (by have h := identityLinear_spec (n := N.toNat) (by omega) w; rw [show ((N.toNat : Nat) : Int) = N by omega] at h; exact h)) ?_)
    rintro _ _ ⟨ui, rfl, rfl⟩
    show Run _ _ (putF _ _ _ (.agg #[ui])) [.own ui 3 1 (N.toNat) (ints (nl (idL N.toNat))), .blk b2 28 [.slice none 0 0], .blk b1 38 [.int .i64 N, .slice A n c]]
    refine Run.step rfl (OpStep.alloc (zs := [.slice none 0 0]) Tzero_28 fun b3 => ?_)
    refine Run.formOwn (.tail _ (List.Mem.head _)) (fun A_ui1 c_ui1 hv hcapc_ui1 hmaxc_ui1 => ?_) (fun _ _ _ => ⟨nofun, nofun, nofun⟩)
    subst hv
    refine Run.step rfl (OpStep.storeAll (us := [.slice A_ui1 (N.toNat) c_ui1]) Tsize_28 rfl rfl rfl (.here _) rfl ?_)
    refine Run.done ?_
    refine Run.seq ?_
    refine Run.seq ?_
    refine Run.region ?_
    refine Run.q (v := .pointer (some ⟨b1, 1, none⟩)) rfl (OpQ.y (OpY.fieldAddr Tfo_38_1 rfl rfl)) ?_
    refine Run.q (v := .slice A n c) rfl (OpQ.y (OpY.load1 Tone_36 rfl (Cells.blk (.tail _ (.tail _ (.tail _ (List.Mem.head _)))) ⟨rfl, trivial⟩))) ?_
    refine Run.q (v := .int .i64 (((n : Nat) : Int))) rfl (OpQ.y (OpY.len Tsl_36 rfl)) ?_
    refine Run.q (v := .int .i64 0) rfl (OpQ.y (OpY.pure rfl)) ?_
    refine Run.done ?_
    refine Run.block ?_
    refine Run.loop (ι := Nat × List Nat × Value) [3, 6, 17, 18, 19, 20, 21, 22, 23, 24, 25, 26, 27, 28, 29, 30, 31, 32, 33, 34, 35, 36, 37, 38, 39, 40, 41, 42, 43, 44, 45, 46, 47, 48, 49, 50, 51, 52, 53, 54, 55, 56] (fun ⟨k, l, vr⟩ => [(17, .int .i64 (((k : Nat) : Int)))]) (fun ⟨k, l, vr⟩ => [.own vr 3 1 (N.toNat) (ints (nl l)), .blk b3 28 [vr], .blk b2 28 [.slice none 0 0], .blk b1 38 [.int .i64 N, .slice A n c]]) (fun ⟨k, l, vr⟩ => k ≤ n ∧ loS N.toNat xs k = some l) (fun ⟨k, l, vr⟩ => n - k) (0, idL N.toNat, .slice A_ui1 (N.toNat) c_ui1) ?_ ?_ ?_ ?_
    · exact ⟨Nat.zero_le _, rfl⟩
    · exact ⟨rfl, trivial⟩
    · exact (((((Weak.front [.blk b3 28 [.slice A_ui1 (N.toNat) c_ui1], .own (.slice A_ui1 (N.toNat) c_ui1) 3 1 (N.toNat) (ints (nl (idL N.toNat))), .blk b2 28 [.slice none 0 0]] (.blk b1 38 [.int .i64 N, .slice A n c]) []).trans (Weak.front [.blk b1 38 [.int .i64 N, .slice A n c], .blk b3 28 [.slice A_ui1 (N.toNat) c_ui1], .own (.slice A_ui1 (N.toNat) c_ui1) 3 1 (N.toNat) (ints (nl (idL N.toNat)))] (.blk b2 28 [.slice none 0 0]) [])).trans (Weak.front [.blk b2 28 [.slice none 0 0], .blk b1 38 [.int .i64 N, .slice A n c]] (.blk b3 28 [.slice A_ui1 (N.toNat) c_ui1]) [.own (.slice A_ui1 (N.toNat) c_ui1) 3 1 (N.toNat) (ints (nl (idL N.toNat)))])).trans (Weak.front [.blk b3 28 [.slice A_ui1 (N.toNat) c_ui1], .blk b2 28 [.slice none 0 0], .blk b1 38 [.int .i64 N, .slice A n c]] (.own (.slice A_ui1 (N.toNat) c_ui1) 3 1 (N.toNat) (ints (nl (idL N.toNat)))) [])).trans (Some'.weak (.takeEq (by first | rfl | (rw [nl_swp]; done) | (rw [hsw]; done)) (.takeEq (by first | rfl | (rw [nl_swp]; done) | (rw [hsw]; done)) (.take (.take (.nil _)))))))
    · rintro ⟨k, l, vr⟩ fr hinv
      show Run _ _ (over _ _ [(17, .int .i64 (((k : Nat) : Int)))] fr) [.own vr 3 1 (N.toNat) (ints (nl l)), .blk b3 28 [vr], .blk b2 28 [.slice none 0 0], .blk b1 38 [.int .i64 N, .slice A n c]]
      try dsimp only at hinv
      refine Run.seq ?_
      refine Run.region ?_
      refine Run.q (v := .bool (decide ((((k : Nat) : Int)) < (((n : Nat) : Int))))) rfl (OpQ.y (OpY.pure rfl)) ?_
      refine Run.done ?_
      refine Run.seq ?_
      refine Run.cond (b := decide ((((k : Nat) : Int)) < (((n : Nat) : Int)))) rfl (fun h18 => ?_) (fun h18 => ?_)
      · have p18 := h18; try simp only [bs] at p18
        have hltk : k < n := by omega
        obtain ⟨b, o, rfl⟩ := ha.opn (by omega)
        have hll := loS_len hinv.2
        have hl32 := lt32 (n := N.toNat) (by omega) (loS_lt hokt (show k ≤ n by omega) hinv.2)
        have hgate := gateOk_split (circOk_gate hok hltk)
        have hnll := nl_length l
        refine Run.skip ?_
        refine Run.seq ?_
        refine Run.block ?_
        refine Run.seq ?_
        refine Run.region ?_
        refine Run.q (v := .pointer (some ⟨b, o + k * 3, none⟩)) rfl (OpQ.y (OpY.index (kk := k) Tsl_36 rfl rfl (by omega) (by omega) (by first | rfl | omega))) ?_
        refine Run.q (v := .agg #[.int .i64 (ix xs (k * 3)), .int .i64 (ix xs (k * 3 + 1)), .int .i64 (ix xs (k * 3 + 2))]) rfl (OpQ.y (OpY.loadN (cs := [.int .i64 (ix xs (k * 3)), .int .i64 (ix xs (k * 3 + 1)), .int .i64 (ix xs (k * 3 + 2))]) Tagg_71 rfl (Cells.arg (k := k * 3) ha rfl (by omega) (pre3 (by omega))))) ?_
        refine Run.step rfl (OpStep.alloc (zs := [.int .i64 0, .int .i64 0, .int .i64 0]) Tzero_71 fun b4 => ?_)
        refine Run.step rfl (OpStep.storeAll (us := [.int .i64 (ix xs (k * 3)), .int .i64 (ix xs (k * 3 + 1)), .int .i64 (ix xs (k * 3 + 2))]) Tsize_71 rfl rfl rfl (.here _) rfl ?_)
        refine Run.done ?_
        refine Run.seq ?_
        refine Run.region ?_
        refine Run.q (v := .pointer (some ⟨b4, 0, none⟩)) rfl (OpQ.y (OpY.fieldAddr Tfo_71_0 rfl rfl)) ?_
        refine Run.q (v := .int .i64 (ix xs (k * 3))) rfl (OpQ.y (OpY.load1 Tone_3 rfl (Cells.blk (.head _) ⟨rfl, trivial⟩))) ?_
        refine Run.done ?_
        refine Run.block ?_
        refine Run.seq ?_
        refine Run.region ?_
        refine Run.q (v := .bool ((ix xs (k * 3)) == 9)) rfl (OpQ.y (OpY.pure rfl)) ?_
        refine Run.q (v := .bool ((ix xs (k * 3)) == 9)) rfl (OpQ.y (OpY.pure rfl)) ?_
        refine Run.done ?_
        refine Run.cond (b := (ix xs (k * 3)) == 9) rfl (fun h24 => ?_) (fun h24 => ?_)
        · have p24 := h24; try simp only [bs] at p24
          have hk9 : ix xs (k * 3) = 9 := p24
          have hgs : (0 ≤ ix xs (k * 3 + 1) ∧ ix xs (k * 3 + 1) < (N.toNat : Nat)) ∧ (0 ≤ ix xs (k * 3 + 2) ∧ ix xs (k * 3 + 2) < (N.toNat : Nat)) ∧ ix xs (k * 3 + 1) ≠ ix xs (k * 3 + 2) := by omega
          have ha3 := hgs.1
          have hb3 := hgs.2.1
          have hX : loS N.toNat xs (k + 1) = some (cx l ((ix xs (k * 3 + 1)).toNat, (ix xs (k * 3 + 2)).toNat)) := by rw [loS, hinv.2, Option.bind_some, if_pos hk9]
          refine Run.region ?_
          refine Run.q (v := .agg #[vr]) rfl (OpQ.y (OpY.loadN (cs := [vr]) Tagg_28 rfl (Cells.blk (.tail _ (.tail _ (List.Mem.head _))) ⟨rfl, trivial⟩))) ?_
          refine Run.q (v := .pointer (some ⟨b4, 1, none⟩)) rfl (OpQ.y (OpY.fieldAddr Tfo_71_1 rfl rfl)) ?_
          refine Run.q (v := .int .i64 (ix xs (k * 3 + 1))) rfl (OpQ.y (OpY.load1 Tone_3 rfl (Cells.blk (.head _) ⟨rfl, trivial⟩))) ?_
          refine Run.q (v := .pointer (some ⟨b4, 2, none⟩)) rfl (OpQ.y (OpY.fieldAddr Tfo_71_2 rfl rfl)) ?_
          refine Run.q (v := .int .i64 (ix xs (k * 3 + 2))) rfl (OpQ.y (OpY.load1 Tone_3 rfl (Cells.blk (.head _) ⟨rfl, trivial⟩))) ?_
          refine Run.step rfl (OpStep.call (vs := [.agg #[vr], .int .i64 (ix xs (k * 3 + 1)), .int .i64 (ix xs (k * 3 + 2))]) (caps := []) Tcall_68 rfl rfl (fun w hs => added_i hll (by omega) ha3 hb3 hl32 (hs.slOwn (.tail _ (List.Mem.head _)))) ?_)
          rintro _ _ ⟨ur1, rfl, rfl⟩
          show Run _ _ (putF _ _ _ (.agg #[ur1])) [.own ur1 3 1 (N.toNat) (ints (nl (cx l ((ix xs (k * 3 + 1)).toNat, (ix xs (k * 3 + 2)).toNat)))), .blk b4 71 [.int .i64 (ix xs (k * 3)), .int .i64 (ix xs (k * 3 + 1)), .int .i64 (ix xs (k * 3 + 2))], .own vr 3 1 (N.toNat) (ints (nl l)), .blk b3 28 [vr], .blk b2 28 [.slice none 0 0], .blk b1 38 [.int .i64 N, .slice (some ⟨b, o, none⟩) n c]]
          refine Run.formOwn (.head _) (fun A_ur11 c_ur11 hv hcapc_ur11 hmaxc_ur11 => ?_) (fun _ _ _ => ⟨nofun, nofun, nofun⟩)
          subst hv
          refine Run.step rfl (OpStep.storeAll (us := [.slice A_ur11 (N.toNat) c_ur11]) Tsize_28 rfl rfl rfl (.there _ (.there _ (.there _ (.here _)))) rfl ?_)
          refine Run.done ?_
          refine Run.blockEnd ?_
          refine Run.blockEnd ?_
          refine Run.region ?_
          refine Run.q (v := .int .i64 ((((k : Nat) : Int)) + 1)) rfl (OpQ.y (OpY.add rfl rfl rfl (by omega) (by omega))) ?_
          refine Run.q (v := .int .i64 ((((k : Nat) : Int)) + 1)) rfl (OpQ.y (OpY.pure rfl)) ?_
          refine Run.done ?_
          refine Run.goal ⟨(by repeat (first | exact Same.refl _ _ | refine Same.put rfl ?_ | refine Same.over rfl rfl ?_)), (k + 1, (cx l ((ix xs (k * 3 + 1)).toNat, (ix xs (k * 3 + 2)).toNat)), .slice A_ur11 (N.toNat) c_ur11), ?_, ?_, ?_, ?_⟩
          · exact ⟨by omega, hX⟩
          · show n - (k + 1) < n - k; omega
          · exact ⟨(by first | rfl | (congr 1; omega) | simp), trivial⟩
          · exact (((((Weak.front [.own (.slice A_ur11 (N.toNat) c_ur11) 3 1 (N.toNat) (ints (nl (cx l ((ix xs (k * 3 + 1)).toNat, (ix xs (k * 3 + 2)).toNat)))), .blk b4 71 [.int .i64 (ix xs (k * 3)), .int .i64 (ix xs (k * 3 + 1)), .int .i64 (ix xs (k * 3 + 2))], .own vr 3 1 (N.toNat) (ints (nl l)), .blk b3 28 [.slice A_ur11 (N.toNat) c_ur11], .blk b2 28 [.slice none 0 0]] (.blk b1 38 [.int .i64 N, .slice (some ⟨b, o, none⟩) n c]) []).trans (Weak.front [.blk b1 38 [.int .i64 N, .slice (some ⟨b, o, none⟩) n c], .own (.slice A_ur11 (N.toNat) c_ur11) 3 1 (N.toNat) (ints (nl (cx l ((ix xs (k * 3 + 1)).toNat, (ix xs (k * 3 + 2)).toNat)))), .blk b4 71 [.int .i64 (ix xs (k * 3)), .int .i64 (ix xs (k * 3 + 1)), .int .i64 (ix xs (k * 3 + 2))], .own vr 3 1 (N.toNat) (ints (nl l)), .blk b3 28 [.slice A_ur11 (N.toNat) c_ur11]] (.blk b2 28 [.slice none 0 0]) [])).trans (Weak.front [.blk b2 28 [.slice none 0 0], .blk b1 38 [.int .i64 N, .slice (some ⟨b, o, none⟩) n c], .own (.slice A_ur11 (N.toNat) c_ur11) 3 1 (N.toNat) (ints (nl (cx l ((ix xs (k * 3 + 1)).toNat, (ix xs (k * 3 + 2)).toNat)))), .blk b4 71 [.int .i64 (ix xs (k * 3)), .int .i64 (ix xs (k * 3 + 1)), .int .i64 (ix xs (k * 3 + 2))], .own vr 3 1 (N.toNat) (ints (nl l))] (.blk b3 28 [.slice A_ur11 (N.toNat) c_ur11]) [])).trans (Weak.front [.blk b3 28 [.slice A_ur11 (N.toNat) c_ur11], .blk b2 28 [.slice none 0 0], .blk b1 38 [.int .i64 N, .slice (some ⟨b, o, none⟩) n c]] (.own (.slice A_ur11 (N.toNat) c_ur11) 3 1 (N.toNat) (ints (nl (cx l ((ix xs (k * 3 + 1)).toNat, (ix xs (k * 3 + 2)).toNat))))) [.blk b4 71 [.int .i64 (ix xs (k * 3)), .int .i64 (ix xs (k * 3 + 1)), .int .i64 (ix xs (k * 3 + 2))], .own vr 3 1 (N.toNat) (ints (nl l))])).trans (Some'.weak (.takeEq (by first | rfl | (rw [nl_swp]; done) | (rw [hsw]; done)) (.takeEq (by first | rfl | (rw [nl_swp]; done) | (rw [hsw]; done)) (.take (.takeEq (by first | rfl | (rw [nl_swp]; done) | (rw [hsw]; done)) (.nil _)))))))
        · have p24 := h24; try simp only [bs] at p24
          refine Run.seq ?_
          refine Run.region ?_
          refine Run.q (v := .bool ((ix xs (k * 3)) == 11)) rfl (OpQ.y (OpY.pure rfl)) ?_
          refine Run.q (v := .bool ((ix xs (k * 3)) == 11)) rfl (OpQ.y (OpY.pure rfl)) ?_
          refine Run.done ?_
          refine Run.cond (b := (ix xs (k * 3)) == 11) rfl (fun h32 => ?_) (fun h32 => ?_)
          · have p32 := h32; try simp only [bs] at p32
            have hk11 : ix xs (k * 3) = 11 := p32
            have hgs : (0 ≤ ix xs (k * 3 + 1) ∧ ix xs (k * 3 + 1) < (N.toNat : Nat)) ∧ (0 ≤ ix xs (k * 3 + 2) ∧ ix xs (k * 3 + 2) < (N.toNat : Nat)) ∧ ix xs (k * 3 + 1) ≠ ix xs (k * 3 + 2) := by omega
            have ha3 := hgs.1
            have hb3 := hgs.2.1
            have hsw := swp_cx (l := l) (a := (ix xs (k * 3 + 1)).toNat) (b := (ix xs (k * 3 + 2)).toNat) (by omega) (by omega) (by omega)
            have hX : loS N.toNat xs (k + 1) = some (swp l (ix xs (k * 3 + 1)).toNat (ix xs (k * 3 + 2)).toNat) := by rw [loS, hinv.2, Option.bind_some, if_neg (by omega), if_pos hk11]
            refine Run.openOwn (.tail _ (List.Mem.head _)) (by omega) (fun gs cs hvgs hcapgs _ => ?_) (fun _ _ _ => ⟨nofun, nofun, nofun⟩)
            subst hvgs
            refine Run.heldB (base := [.blk b4 71 [.int .i64 (ix xs (k * 3)), .int .i64 (ix xs (k * 3 + 1)), .int .i64 (ix xs (k * 3 + 2))], .blk b3 28 [.slice (some ⟨gs, 0, none⟩) (N.toNat) cs], .blk b2 28 [.slice none 0 0], .blk b1 38 [.int .i64 N, .slice (some ⟨b, o, none⟩) n c]]) (by kernel_rfl) ?_
            refine DW.take (i := 0) (v := .pointer (some ⟨b3, 0, none⟩)) rfl (by kernel_rfl) (by kernel_rfl) (by kernel_rfl) (fun _ _ _ h => h) (Some'.weak (.take (.skip (.take (.take (.take (.nil _))))))) rfl (OpY.fieldAddr Tfo_28_0 rfl rfl) ?_
            refine DW.take (i := 1) (v := .slice (some ⟨gs, 0, none⟩) (N.toNat) cs) rfl (by kernel_rfl) (by kernel_rfl) (by kernel_rfl) (fun _ _ _ h => h) (Some'.weak (.take (.skip (.take (.take (.take (.nil _))))))) rfl (OpY.load1 Tone_22 rfl (Cells.blk (.tail _ (List.Mem.head _)) ⟨rfl, trivial⟩)) ?_
            refine DW.take (i := 2) (v := .pointer (some ⟨b4, 1, none⟩)) rfl (by kernel_rfl) (by kernel_rfl) (by kernel_rfl) (fun _ _ _ h => h) (Some'.weak (.take (.skip (.take (.take (.take (.nil _))))))) rfl (OpY.fieldAddr Tfo_71_1 rfl rfl) ?_
            refine DW.take (i := 3) (v := .int .i64 (ix xs (k * 3 + 1))) rfl (by kernel_rfl) (by kernel_rfl) (by kernel_rfl) (fun _ _ _ h => h) (Some'.weak (.take (.skip (.take (.take (.take (.nil _))))))) rfl (OpY.load1 Tone_3 rfl (Cells.blk (.head _) ⟨rfl, trivial⟩)) ?_
            refine DW.take (i := 4) (v := .pointer (some ⟨b3, 0, none⟩)) rfl (by kernel_rfl) (by kernel_rfl) (by kernel_rfl) (fun _ _ _ h => h) (Some'.weak (.take (.skip (.take (.take (.take (.nil _))))))) rfl (OpY.fieldAddr Tfo_28_0 rfl rfl) ?_
            refine DW.take (i := 5) (v := .slice (some ⟨gs, 0, none⟩) (N.toNat) cs) rfl (by kernel_rfl) (by kernel_rfl) (by kernel_rfl) (fun _ _ _ h => h) (Some'.weak (.take (.skip (.take (.take (.take (.nil _))))))) rfl (OpY.load1 Tone_22 rfl (Cells.blk (.tail _ (List.Mem.head _)) ⟨rfl, trivial⟩)) ?_
            refine DW.take (i := 6) (v := .pointer (some ⟨b4, 2, none⟩)) rfl (by kernel_rfl) (by kernel_rfl) (by kernel_rfl) (fun _ _ _ h => h) (Some'.weak (.take (.skip (.take (.take (.take (.nil _))))))) rfl (OpY.fieldAddr Tfo_71_2 rfl rfl) ?_
            refine DW.take (i := 7) (v := .int .i64 (ix xs (k * 3 + 2))) rfl (by kernel_rfl) (by kernel_rfl) (by kernel_rfl) (fun _ _ _ h => h) (Some'.weak (.take (.skip (.take (.take (.take (.nil _))))))) rfl (OpY.load1 Tone_3 rfl (Cells.blk (.head _) ⟨rfl, trivial⟩)) ?_
            refine DW.take (i := 8) (v := .pointer (some ⟨b3, 0, none⟩)) rfl (by kernel_rfl) (by kernel_rfl) (by kernel_rfl) (fun _ _ _ h => h) (Some'.weak (.take (.skip (.take (.take (.take (.nil _))))))) rfl (OpY.fieldAddr Tfo_28_0 rfl rfl) ?_
            refine DW.take (i := 9) (v := .slice (some ⟨gs, 0, none⟩) (N.toNat) cs) rfl (by kernel_rfl) (by kernel_rfl) (by kernel_rfl) (fun _ _ _ h => h) (Some'.weak (.take (.skip (.take (.take (.take (.nil _))))))) rfl (OpY.load1 Tone_22 rfl (Cells.blk (.tail _ (List.Mem.head _)) ⟨rfl, trivial⟩)) ?_
            refine DW.take (i := 10) (v := .pointer (some ⟨b4, 2, none⟩)) rfl (by kernel_rfl) (by kernel_rfl) (by kernel_rfl) (fun _ _ _ h => h) (Some'.weak (.take (.skip (.take (.take (.take (.nil _))))))) rfl (OpY.fieldAddr Tfo_71_2 rfl rfl) ?_
            refine DW.take (i := 11) (v := .int .i64 (ix xs (k * 3 + 2))) rfl (by kernel_rfl) (by kernel_rfl) (by kernel_rfl) (fun _ _ _ h => h) (Some'.weak (.take (.skip (.take (.take (.take (.nil _))))))) rfl (OpY.load1 Tone_3 rfl (Cells.blk (.head _) ⟨rfl, trivial⟩)) ?_
            refine DW.take (i := 12) (v := .pointer (some ⟨gs, (ix xs (k * 3 + 2)).toNat, none⟩)) rfl (by kernel_rfl) (by kernel_rfl) (by kernel_rfl) (fun _ _ _ h => h) (Some'.weak (.take (.skip (.take (.take (.take (.nil _))))))) rfl (OpY.index (kk := (ix xs (k * 3 + 2)).toNat) Tsl_22 rfl rfl (by omega) (by omega) (by first | rfl | omega)) ?_
            refine DW.take (i := 14) (v := .pointer (some ⟨b3, 0, none⟩)) rfl (by kernel_rfl) (by kernel_rfl) (by kernel_rfl) (fun _ _ _ h => h) (Some'.weak (.take (.skip (.take (.take (.take (.nil _))))))) rfl (OpY.fieldAddr Tfo_28_0 rfl rfl) ?_
            refine DW.take (i := 15) (v := .slice (some ⟨gs, 0, none⟩) (N.toNat) cs) rfl (by kernel_rfl) (by kernel_rfl) (by kernel_rfl) (fun _ _ _ h => h) (Some'.weak (.take (.skip (.take (.take (.take (.nil _))))))) rfl (OpY.load1 Tone_22 rfl (Cells.blk (.tail _ (List.Mem.head _)) ⟨rfl, trivial⟩)) ?_
            refine DW.take (i := 16) (v := .pointer (some ⟨b4, 1, none⟩)) rfl (by kernel_rfl) (by kernel_rfl) (by kernel_rfl) (fun _ _ _ h => h) (Some'.weak (.take (.skip (.take (.take (.take (.nil _))))))) rfl (OpY.fieldAddr Tfo_71_1 rfl rfl) ?_
            refine DW.take (i := 17) (v := .int .i64 (ix xs (k * 3 + 1))) rfl (by kernel_rfl) (by kernel_rfl) (by kernel_rfl) (fun _ _ _ h => h) (Some'.weak (.take (.skip (.take (.take (.take (.nil _))))))) rfl (OpY.load1 Tone_3 rfl (Cells.blk (.head _) ⟨rfl, trivial⟩)) ?_
            refine DW.take (i := 18) (v := .pointer (some ⟨gs, (ix xs (k * 3 + 1)).toNat, none⟩)) rfl (by kernel_rfl) (by kernel_rfl) (by kernel_rfl) (fun _ _ _ h => h) (Some'.weak (.take (.skip (.take (.take (.take (.nil _))))))) rfl (OpY.index (kk := (ix xs (k * 3 + 1)).toNat) Tsl_22 rfl rfl (by omega) (by omega) (by first | rfl | omega)) ?_
            refine DW.two (i := 13) (j := 19) (by kernel_rfl) rfl rfl rfl rfl ?_ ?_
            · refine OpStep.q (v := .int .i64 (ix (nl l) ((ix xs (k * 3 + 2)).toNat))) (OpQ.y (OpY.load1 Tone_3 rfl (Cells.own0 (.tail _ (List.Mem.head _)) (pre1 (by first | omega | (simp; omega)))))) ?_
              refine ⟨(Some'.weak (.take (.skip (.take (.take (.take (.nil _))))))), ?_⟩
              refine DW.step (i := 19) (by kernel_rfl) rfl rfl (OpStep.q (v := .int .i64 (ix (nl l) ((ix xs (k * 3 + 1)).toNat))) (OpQ.y (OpY.load1 Tone_3 rfl (Cells.own0 (.tail _ (List.Mem.head _)) (pre1 (by first | omega | (simp; omega)))))) ?_)
              refine ⟨(Some'.weak (.take (.skip (.take (.take (.take (.nil _))))))), ?_⟩
              refine DW.take (i := 20) (v := .pointer (some ⟨gs, (ix xs (k * 3 + 1)).toNat, none⟩)) rfl (by kernel_rfl) (by kernel_rfl) (by kernel_rfl) (fun _ _ _ h => h) (Some'.weak (.take (.skip (.take (.take (.take (.nil _))))))) rfl (OpY.index (kk := (ix xs (k * 3 + 1)).toNat) Tsl_22 rfl rfl (by omega) (by omega) (by first | rfl | omega)) ?_
              refine DW.step (i := 21) (by kernel_rfl) rfl rfl (OpStep.storeOwnInt (o := (ix xs (k * 3 + 1)).toNat) (a := ix (nl l) ((ix xs (k * 3 + 2)).toNat)) Tsize_3 rfl rfl (.there _ (.here _)) (by first | omega | (simp; omega)) ?_)
              refine ⟨(Some'.weak (.take (.skip (.take (.take (.take (.nil _))))))), ?_⟩
              refine DW.take (i := 22) (v := .pointer (some ⟨gs, (ix xs (k * 3 + 2)).toNat, none⟩)) rfl (by kernel_rfl) (by kernel_rfl) (by kernel_rfl) (fun _ _ _ h => h) (Some'.weak (.take (.skip (.take (.take (.take (.nil _))))))) rfl (OpY.index (kk := (ix xs (k * 3 + 2)).toNat) Tsl_22 rfl rfl (by omega) (by omega) (by first | rfl | omega)) ?_
              refine DW.step (i := 23) (by kernel_rfl) rfl rfl (OpStep.storeOwnInt (o := (ix xs (k * 3 + 2)).toNat) (a := ix (nl l) ((ix xs (k * 3 + 1)).toNat)) Tsize_3 rfl rfl (.there _ (.here _)) (by first | omega | (simp; omega)) ?_)
              refine ⟨(Some'.weak (.take (.skip (.take (.take (.take (.nil _))))))), ?_⟩
              refine DW.done (by kernel_rfl) ?_
              refine Run.blockEnd ?_
              refine Run.blockEnd ?_
              refine Run.region ?_
              refine Run.q (v := .int .i64 ((((k : Nat) : Int)) + 1)) rfl (OpQ.y (OpY.add rfl rfl rfl (by omega) (by omega))) ?_
              refine Run.q (v := .int .i64 ((((k : Nat) : Int)) + 1)) rfl (OpQ.y (OpY.pure rfl)) ?_
              refine Run.done ?_
              refine Run.goal ⟨(by repeat (first | exact Same.refl _ _ | refine Same.put rfl ?_ | refine Same.over rfl rfl ?_)), (k + 1, swp l (ix xs (k * 3 + 1)).toNat (ix xs (k * 3 + 2)).toNat, .slice (some ⟨gs, 0, none⟩) (N.toNat) cs), ?_, ?_, ?_, ?_⟩
              · exact ⟨by omega, hX⟩
              · show n - (k + 1) < n - k; omega
              · exact ⟨(by first | rfl | (congr 1; omega) | simp), trivial⟩
              · exact (((((Weak.front [.blk b4 71 [.int .i64 (ix xs (k * 3)), .int .i64 (ix xs (k * 3 + 1)), .int .i64 (ix xs (k * 3 + 2))], .own (.slice (some ⟨gs, 0, none⟩) (N.toNat) cs) 3 1 (N.toNat) (ints (((nl l).set ((ix xs (k * 3 + 1)).toNat) (ix (nl l) ((ix xs (k * 3 + 2)).toNat))).set ((ix xs (k * 3 + 2)).toNat) (ix (nl l) ((ix xs (k * 3 + 1)).toNat)))), .blk b3 28 [.slice (some ⟨gs, 0, none⟩) (N.toNat) cs], .blk b2 28 [.slice none 0 0]] (.blk b1 38 [.int .i64 N, .slice (some ⟨b, o, none⟩) n c]) []).trans (Weak.front [.blk b1 38 [.int .i64 N, .slice (some ⟨b, o, none⟩) n c], .blk b4 71 [.int .i64 (ix xs (k * 3)), .int .i64 (ix xs (k * 3 + 1)), .int .i64 (ix xs (k * 3 + 2))], .own (.slice (some ⟨gs, 0, none⟩) (N.toNat) cs) 3 1 (N.toNat) (ints (((nl l).set ((ix xs (k * 3 + 1)).toNat) (ix (nl l) ((ix xs (k * 3 + 2)).toNat))).set ((ix xs (k * 3 + 2)).toNat) (ix (nl l) ((ix xs (k * 3 + 1)).toNat)))), .blk b3 28 [.slice (some ⟨gs, 0, none⟩) (N.toNat) cs]] (.blk b2 28 [.slice none 0 0]) [])).trans (Weak.front [.blk b2 28 [.slice none 0 0], .blk b1 38 [.int .i64 N, .slice (some ⟨b, o, none⟩) n c], .blk b4 71 [.int .i64 (ix xs (k * 3)), .int .i64 (ix xs (k * 3 + 1)), .int .i64 (ix xs (k * 3 + 2))], .own (.slice (some ⟨gs, 0, none⟩) (N.toNat) cs) 3 1 (N.toNat) (ints (((nl l).set ((ix xs (k * 3 + 1)).toNat) (ix (nl l) ((ix xs (k * 3 + 2)).toNat))).set ((ix xs (k * 3 + 2)).toNat) (ix (nl l) ((ix xs (k * 3 + 1)).toNat))))] (.blk b3 28 [.slice (some ⟨gs, 0, none⟩) (N.toNat) cs]) [])).trans (Weak.front [.blk b3 28 [.slice (some ⟨gs, 0, none⟩) (N.toNat) cs], .blk b2 28 [.slice none 0 0], .blk b1 38 [.int .i64 N, .slice (some ⟨b, o, none⟩) n c], .blk b4 71 [.int .i64 (ix xs (k * 3)), .int .i64 (ix xs (k * 3 + 1)), .int .i64 (ix xs (k * 3 + 2))]] (.own (.slice (some ⟨gs, 0, none⟩) (N.toNat) cs) 3 1 (N.toNat) (ints (((nl l).set ((ix xs (k * 3 + 1)).toNat) (ix (nl l) ((ix xs (k * 3 + 2)).toNat))).set ((ix xs (k * 3 + 2)).toNat) (ix (nl l) ((ix xs (k * 3 + 1)).toNat))))) [])).trans (Some'.weak (.takeEq (by first | rfl | (rw [nl_swp]; done) | (rw [hsw]; done)) (.takeEq (by first | rfl | (rw [nl_swp]; done) | (rw [hsw]; done)) (.take (.takeEq (by first | rfl | (rw [nl_swp]; done) | (rw [hsw]; done)) (.nil _)))))))
            · refine OpStep.q (v := .int .i64 (ix (nl l) ((ix xs (k * 3 + 1)).toNat))) (OpQ.y (OpY.load1 Tone_3 rfl (Cells.own0 (.tail _ (List.Mem.head _)) (pre1 (by first | omega | (simp; omega)))))) ?_
              refine ⟨(Some'.weak (.take (.skip (.take (.take (.take (.nil _))))))), ?_⟩
              refine DW.step (i := 13) (by kernel_rfl) rfl rfl (OpStep.q (v := .int .i64 (ix (nl l) ((ix xs (k * 3 + 2)).toNat))) (OpQ.y (OpY.load1 Tone_3 rfl (Cells.own0 (.tail _ (List.Mem.head _)) (pre1 (by first | omega | (simp; omega)))))) ?_)
              refine ⟨(Some'.weak (.take (.skip (.take (.take (.take (.nil _))))))), ?_⟩
              refine DW.take (i := 20) (v := .pointer (some ⟨gs, (ix xs (k * 3 + 1)).toNat, none⟩)) rfl (by kernel_rfl) (by kernel_rfl) (by kernel_rfl) (fun _ _ _ h => h) (Some'.weak (.take (.skip (.take (.take (.take (.nil _))))))) rfl (OpY.index (kk := (ix xs (k * 3 + 1)).toNat) Tsl_22 rfl rfl (by omega) (by omega) (by first | rfl | omega)) ?_
              refine DW.step (i := 21) (by kernel_rfl) rfl rfl (OpStep.storeOwnInt (o := (ix xs (k * 3 + 1)).toNat) (a := ix (nl l) ((ix xs (k * 3 + 2)).toNat)) Tsize_3 rfl rfl (.there _ (.here _)) (by first | omega | (simp; omega)) ?_)
              refine ⟨(Some'.weak (.take (.skip (.take (.take (.take (.nil _))))))), ?_⟩
              refine DW.take (i := 22) (v := .pointer (some ⟨gs, (ix xs (k * 3 + 2)).toNat, none⟩)) rfl (by kernel_rfl) (by kernel_rfl) (by kernel_rfl) (fun _ _ _ h => h) (Some'.weak (.take (.skip (.take (.take (.take (.nil _))))))) rfl (OpY.index (kk := (ix xs (k * 3 + 2)).toNat) Tsl_22 rfl rfl (by omega) (by omega) (by first | rfl | omega)) ?_
              refine DW.step (i := 23) (by kernel_rfl) rfl rfl (OpStep.storeOwnInt (o := (ix xs (k * 3 + 2)).toNat) (a := ix (nl l) ((ix xs (k * 3 + 1)).toNat)) Tsize_3 rfl rfl (.there _ (.here _)) (by first | omega | (simp; omega)) ?_)
              refine ⟨(Some'.weak (.take (.skip (.take (.take (.take (.nil _))))))), ?_⟩
              refine DW.done (by kernel_rfl) ?_
              refine Run.blockEnd ?_
              refine Run.blockEnd ?_
              refine Run.region ?_
              refine Run.q (v := .int .i64 ((((k : Nat) : Int)) + 1)) rfl (OpQ.y (OpY.add rfl rfl rfl (by omega) (by omega))) ?_
              refine Run.q (v := .int .i64 ((((k : Nat) : Int)) + 1)) rfl (OpQ.y (OpY.pure rfl)) ?_
              refine Run.done ?_
              refine Run.goal ⟨(by repeat (first | exact Same.refl _ _ | refine Same.put rfl ?_ | refine Same.over rfl rfl ?_)), (k + 1, swp l (ix xs (k * 3 + 1)).toNat (ix xs (k * 3 + 2)).toNat, .slice (some ⟨gs, 0, none⟩) (N.toNat) cs), ?_, ?_, ?_, ?_⟩
              · exact ⟨by omega, hX⟩
              · show n - (k + 1) < n - k; omega
              · exact ⟨(by first | rfl | (congr 1; omega) | simp), trivial⟩
              · exact (((((Weak.front [.blk b4 71 [.int .i64 (ix xs (k * 3)), .int .i64 (ix xs (k * 3 + 1)), .int .i64 (ix xs (k * 3 + 2))], .own (.slice (some ⟨gs, 0, none⟩) (N.toNat) cs) 3 1 (N.toNat) (ints (((nl l).set ((ix xs (k * 3 + 1)).toNat) (ix (nl l) ((ix xs (k * 3 + 2)).toNat))).set ((ix xs (k * 3 + 2)).toNat) (ix (nl l) ((ix xs (k * 3 + 1)).toNat)))), .blk b3 28 [.slice (some ⟨gs, 0, none⟩) (N.toNat) cs], .blk b2 28 [.slice none 0 0]] (.blk b1 38 [.int .i64 N, .slice (some ⟨b, o, none⟩) n c]) []).trans (Weak.front [.blk b1 38 [.int .i64 N, .slice (some ⟨b, o, none⟩) n c], .blk b4 71 [.int .i64 (ix xs (k * 3)), .int .i64 (ix xs (k * 3 + 1)), .int .i64 (ix xs (k * 3 + 2))], .own (.slice (some ⟨gs, 0, none⟩) (N.toNat) cs) 3 1 (N.toNat) (ints (((nl l).set ((ix xs (k * 3 + 1)).toNat) (ix (nl l) ((ix xs (k * 3 + 2)).toNat))).set ((ix xs (k * 3 + 2)).toNat) (ix (nl l) ((ix xs (k * 3 + 1)).toNat)))), .blk b3 28 [.slice (some ⟨gs, 0, none⟩) (N.toNat) cs]] (.blk b2 28 [.slice none 0 0]) [])).trans (Weak.front [.blk b2 28 [.slice none 0 0], .blk b1 38 [.int .i64 N, .slice (some ⟨b, o, none⟩) n c], .blk b4 71 [.int .i64 (ix xs (k * 3)), .int .i64 (ix xs (k * 3 + 1)), .int .i64 (ix xs (k * 3 + 2))], .own (.slice (some ⟨gs, 0, none⟩) (N.toNat) cs) 3 1 (N.toNat) (ints (((nl l).set ((ix xs (k * 3 + 1)).toNat) (ix (nl l) ((ix xs (k * 3 + 2)).toNat))).set ((ix xs (k * 3 + 2)).toNat) (ix (nl l) ((ix xs (k * 3 + 1)).toNat))))] (.blk b3 28 [.slice (some ⟨gs, 0, none⟩) (N.toNat) cs]) [])).trans (Weak.front [.blk b3 28 [.slice (some ⟨gs, 0, none⟩) (N.toNat) cs], .blk b2 28 [.slice none 0 0], .blk b1 38 [.int .i64 N, .slice (some ⟨b, o, none⟩) n c], .blk b4 71 [.int .i64 (ix xs (k * 3)), .int .i64 (ix xs (k * 3 + 1)), .int .i64 (ix xs (k * 3 + 2))]] (.own (.slice (some ⟨gs, 0, none⟩) (N.toNat) cs) 3 1 (N.toNat) (ints (((nl l).set ((ix xs (k * 3 + 1)).toNat) (ix (nl l) ((ix xs (k * 3 + 2)).toNat))).set ((ix xs (k * 3 + 2)).toNat) (ix (nl l) ((ix xs (k * 3 + 1)).toNat))))) [])).trans (Some'.weak (.takeEq (by first | rfl | (rw [nl_swp]; done) | (rw [hsw]; done)) (.takeEq (by first | rfl | (rw [nl_swp]; done) | (rw [hsw]; done)) (.take (.takeEq (by first | rfl | (rw [nl_swp]; done) | (rw [hsw]; done)) (.nil _)))))))
          · have p32 := h32; try simp only [bs] at p32
            have hno : loS N.toNat xs (k + 1) = none := by rw [loS, hinv.2, Option.bind_some, if_neg (by omega), if_neg (by omega)]
            have hno2 : loS N.toNat xs n = none := by rw [show n = (k + 1) + (n - (k + 1)) by omega]; exact loS_none hno _
            have hB : loB N xs n = false := by rw [loB, hno2, Option.isSome_none, Bool.and_false]
            have hL : loL N xs n = [] := by rw [loL, hB]; rfl
            refine Run.seq ?_
            refine Run.region ?_
            refine Run.q (v := .agg #[.slice none 0 0]) rfl (OpQ.y (OpY.build (cs := [.slice none 0 0]) (by kernel_rfl))) ?_
            refine Run.step rfl (OpStep.storeAll (us := [.slice none 0 0]) Tsize_28 rfl rfl rfl (.there _ (.there _ (.there _ (.here _)))) rfl ?_)
            refine Run.q (v := .bool false) rfl (OpQ.y (OpY.pure rfl)) ?_
            refine Run.done ?_
            refine Run.ret ?_
            refine ⟨.tuple #[.agg #[.slice none 0 0], .bool false], [.own (.slice none 0 0) 3 1 ((loL N xs n).length) (ints (nl (loL N xs n)))], Out.cell2 (cs := [.slice none 0 0]) rfl Tagg_28 rfl (Cells.blk (.tail _ (.tail _ (.tail _ (List.Mem.head _)))) ⟨rfl, trivial⟩) rfl, ((Weak.nilOwn 3 1).trans (Some'.weak (.takeEq (by first | (rw [hL]; done) | (rw [hL]; rfl) | (rw [hL, hll])) (.nil _)))), ?_⟩
            exact ⟨_, by rw [hB], rfl⟩
      · have p18 := h18; try simp only [bs] at p18
        have hknk : k = n := by omega
        refine Run.exit rfl ?_
        refine Run.seq ?_
        have hnn : loS N.toNat xs n = some l := by rw [← hknk]; exact hinv.2
        have hB : loB N xs n = true := by rw [loB, hok, hnn]; rfl
        have hL : loL N xs n = l := by rw [loL, if_pos hB, hnn]; rfl
        have hll := loS_len hinv.2
        refine Run.region ?_
        refine Run.q (v := .agg #[vr]) rfl (OpQ.y (OpY.loadN (cs := [vr]) Tagg_28 rfl (Cells.blk (.tail _ (List.Mem.head _)) ⟨rfl, trivial⟩))) ?_
        refine Run.formOwn (.head _) (fun A_vr1 c_vr1 hv hcapc_vr1 hmaxc_vr1 => ?_) (fun _ _ _ => ⟨nofun, nofun, nofun⟩)
        subst hv
        refine Run.step rfl (OpStep.storeAll (us := [.slice A_vr1 (N.toNat) c_vr1]) Tsize_28 rfl rfl rfl (.there _ (.there _ (.here _))) rfl ?_)
        refine Run.q (v := .bool true) rfl (OpQ.y (OpY.pure rfl)) ?_
        refine Run.done ?_
        refine Run.ret ?_
        refine ⟨.tuple #[.agg #[.slice A_vr1 (N.toNat) c_vr1], .bool true], [.own (.slice A_vr1 (N.toNat) c_vr1) 3 1 ((loL N xs n).length) (ints (nl (loL N xs n)))], Out.cell2 (cs := [.slice A_vr1 (N.toNat) c_vr1]) rfl Tagg_28 rfl (Cells.blk (.tail _ (.tail _ (List.Mem.head _))) ⟨rfl, trivial⟩) rfl, (Some'.weak (.takeEq (by first | (rw [hL]; done) | (rw [hL]; rfl) | (rw [hL, hll])) (.nil _))), ?_⟩
        exact ⟨_, by rw [hB], rfl⟩

set_option maxHeartbeats 2000000 in
set_option maxRecDepth 20000 in
theorem sLinearOf_spec {N : Int} {va : Value} {n : Nat} {xs : List Int} {w : World} (ha : Sl w va 3 n (ints xs)) : Calls Try.prog 32 #[.agg #[.int .i64 N, va]] w (Post No w fun v H => ∃ u, v = .tuple #[.agg #[u], .bool (loB N xs n)] ∧ H = [.own u 3 1 (loL N xs n).length (ints (nl (loL N xs n)))]) := by
  have hxl := ha.len
  have han := ha.le
  obtain ⟨A, c, rfl, _, _⟩ := ha.form0
  refine enter (n := 52) (args := [.agg #[.int .i64 N, .slice A n c]]) Try.func32 rfl rfl (St.empty _ _) ?_
  refine Run.seq ?_
  refine Run.region ?_
  refine Run.step rfl (OpStep.box (us := [.int .i64 N, .slice A n c]) rfl fun b1 => ?_)
  refine Run.step rfl (OpStep.alloc (zs := [.slice none 0 0]) Tzero_28 fun b2 => ?_)
  refine Run.q (v := .bool false) rfl (OpQ.y (OpY.pure rfl)) ?_
  refine Run.done ?_
  refine Run.seq ?_
  refine Run.seq ?_
  refine Run.region ?_
  refine Run.q (v := .agg #[.int .i64 N, .slice A n c]) rfl (OpQ.y (OpY.loadN (cs := [.int .i64 N, .slice A n c]) Tagg_38 rfl (Cells.blk (.tail _ (List.Mem.head _)) ⟨rfl, rfl, trivial⟩))) ?_
  refine Run.q (v := .bool (circOk N xs n)) rfl (OpQ.call (vs := [.agg #[.int .i64 N, .slice A n c]]) (caps := []) Tcall_69 rfl rfl (fun w hs => sIsValidCircuit_spec (hs.sl ha))) ?_
  refine Run.q (v := .bool (!(circOk N xs n))) rfl (OpQ.y (OpY.pure rfl)) ?_
  refine Run.done ?_
  refine Run.cond (b := !(circOk N xs n)) rfl (fun h9 => ?_) (fun h9 => ?_)
  · have p9 := h9; try simp only [bs] at p9
    have hok : circOk N xs n = false := by simpa using p9
    have hB : loB N xs n = false := by rw [loB, hok, Bool.false_and]
    have hL : loL N xs n = [] := by rw [loL, hB]; rfl
    refine Run.seq ?_
    refine Run.region ?_
    refine Run.q (v := .agg #[.slice none 0 0]) rfl (OpQ.y (OpY.build (cs := [.slice none 0 0]) (by kernel_rfl))) ?_
    refine Run.step rfl (OpStep.storeAll (us := [.slice none 0 0]) Tsize_28 rfl rfl rfl (.here _) rfl ?_)
    refine Run.q (v := .bool false) rfl (OpQ.y (OpY.pure rfl)) ?_
    refine Run.done ?_
    refine Run.ret ?_
    refine ⟨.tuple #[.agg #[.slice none 0 0], .bool false], [.own (.slice none 0 0) 3 1 ((loL N xs n).length) (ints (nl (loL N xs n)))], Out.cell2 (cs := [.slice none 0 0]) rfl Tagg_28 rfl (Cells.blk (.head _) ⟨rfl, trivial⟩) rfl, ((Weak.nilOwn 3 1).trans (Some'.weak (.takeEq (by first | (rw [hL]; done) | (rw [hL]; rfl) | (rw [hL, hll])) (.nil _)))), ?_⟩
    exact ⟨_, by rw [hB], rfl⟩
  · have p9 := h9; try simp only [bs] at p9
    have hok : circOk N xs n = true := by simpa using p9
    have hN := circOk_N hok
    have hNt : ((N.toNat : Nat) : Int) = N := by omega
    have hokt : circOk ((N.toNat : Nat) : Int) xs n = true := by rw [hNt]; exact hok
    refine Run.skip ?_
    refine Run.seq ?_
    refine Run.region ?_
    refine Run.q (v := .pointer (some ⟨b1, 0, none⟩)) rfl (OpQ.y (OpY.fieldAddr Tfo_38_0 rfl rfl)) ?_
    refine Run.q (v := .int .i64 N) rfl (OpQ.y (OpY.load1 Tone_3 rfl (Cells.blk (.tail _ (List.Mem.head _)) ⟨rfl, trivial⟩))) ?_
    refine Run.step rfl (OpStep.call (vs := [.int .i64 N]) (caps := []) Tcall_70 rfl rfl (fun w hs => (by have h := l12Identity_spec (n := N.toNat) (by omega) w; rw [show ((N.toNat : Nat) : Int) = N by omega] at h; exact h)) ?_)
    rintro _ _ ⟨ui, rfl, rfl⟩
    show Run _ _ (putF _ _ _ (.agg #[ui])) [.own ui 3 1 (N.toNat) (ints (nl (idL N.toNat))), .blk b2 28 [.slice none 0 0], .blk b1 38 [.int .i64 N, .slice A n c]]
    refine Run.step rfl (OpStep.alloc (zs := [.slice none 0 0]) Tzero_28 fun b3 => ?_)
    refine Run.formOwn (.tail _ (List.Mem.head _)) (fun A_ui1 c_ui1 hv hcapc_ui1 hmaxc_ui1 => ?_) (fun _ _ _ => ⟨nofun, nofun, nofun⟩)
    subst hv
    refine Run.step rfl (OpStep.storeAll (us := [.slice A_ui1 (N.toNat) c_ui1]) Tsize_28 rfl rfl rfl (.here _) rfl ?_)
    refine Run.done ?_
    refine Run.seq ?_
    refine Run.seq ?_
    refine Run.region ?_
    refine Run.q (v := .pointer (some ⟨b1, 1, none⟩)) rfl (OpQ.y (OpY.fieldAddr Tfo_38_1 rfl rfl)) ?_
    refine Run.q (v := .slice A n c) rfl (OpQ.y (OpY.load1 Tone_36 rfl (Cells.blk (.tail _ (.tail _ (.tail _ (List.Mem.head _)))) ⟨rfl, trivial⟩))) ?_
    refine Run.q (v := .int .i64 (((n : Nat) : Int))) rfl (OpQ.y (OpY.len Tsl_36 rfl)) ?_
    refine Run.q (v := .int .i64 0) rfl (OpQ.y (OpY.pure rfl)) ?_
    refine Run.done ?_
    refine Run.block ?_
    refine Run.loop (ι := Nat × List Nat × Value) [3, 6, 17, 18, 19, 20, 21, 22, 23, 24, 25, 26, 27, 28, 29, 30, 31, 32, 33, 34, 35, 36, 37, 38, 39, 40, 41, 42, 43, 44, 45, 46, 47, 48, 49, 50] (fun ⟨k, l, vr⟩ => [(17, .int .i64 (((k : Nat) : Int)))]) (fun ⟨k, l, vr⟩ => [.own vr 3 1 (N.toNat) (ints (nl l)), .blk b3 28 [vr], .blk b2 28 [.slice none 0 0], .blk b1 38 [.int .i64 N, .slice A n c]]) (fun ⟨k, l, vr⟩ => k ≤ n ∧ loS N.toNat xs k = some l) (fun ⟨k, l, vr⟩ => n - k) (0, idL N.toNat, .slice A_ui1 (N.toNat) c_ui1) ?_ ?_ ?_ ?_
    · exact ⟨Nat.zero_le _, rfl⟩
    · exact ⟨rfl, trivial⟩
    · exact (((((Weak.front [.blk b3 28 [.slice A_ui1 (N.toNat) c_ui1], .own (.slice A_ui1 (N.toNat) c_ui1) 3 1 (N.toNat) (ints (nl (idL N.toNat))), .blk b2 28 [.slice none 0 0]] (.blk b1 38 [.int .i64 N, .slice A n c]) []).trans (Weak.front [.blk b1 38 [.int .i64 N, .slice A n c], .blk b3 28 [.slice A_ui1 (N.toNat) c_ui1], .own (.slice A_ui1 (N.toNat) c_ui1) 3 1 (N.toNat) (ints (nl (idL N.toNat)))] (.blk b2 28 [.slice none 0 0]) [])).trans (Weak.front [.blk b2 28 [.slice none 0 0], .blk b1 38 [.int .i64 N, .slice A n c]] (.blk b3 28 [.slice A_ui1 (N.toNat) c_ui1]) [.own (.slice A_ui1 (N.toNat) c_ui1) 3 1 (N.toNat) (ints (nl (idL N.toNat)))])).trans (Weak.front [.blk b3 28 [.slice A_ui1 (N.toNat) c_ui1], .blk b2 28 [.slice none 0 0], .blk b1 38 [.int .i64 N, .slice A n c]] (.own (.slice A_ui1 (N.toNat) c_ui1) 3 1 (N.toNat) (ints (nl (idL N.toNat)))) [])).trans (Some'.weak (.takeEq (by first | rfl | (rw [nl_swp]; done) | (rw [hsw]; done)) (.takeEq (by first | rfl | (rw [nl_swp]; done) | (rw [hsw]; done)) (.take (.take (.nil _)))))))
    · rintro ⟨k, l, vr⟩ fr hinv
      show Run _ _ (over _ _ [(17, .int .i64 (((k : Nat) : Int)))] fr) [.own vr 3 1 (N.toNat) (ints (nl l)), .blk b3 28 [vr], .blk b2 28 [.slice none 0 0], .blk b1 38 [.int .i64 N, .slice A n c]]
      try dsimp only at hinv
      refine Run.seq ?_
      refine Run.region ?_
      refine Run.q (v := .bool (decide ((((k : Nat) : Int)) < (((n : Nat) : Int))))) rfl (OpQ.y (OpY.pure rfl)) ?_
      refine Run.done ?_
      refine Run.seq ?_
      refine Run.cond (b := decide ((((k : Nat) : Int)) < (((n : Nat) : Int)))) rfl (fun h18 => ?_) (fun h18 => ?_)
      · have p18 := h18; try simp only [bs] at p18
        have hltk : k < n := by omega
        obtain ⟨b, o, rfl⟩ := ha.opn (by omega)
        have hll := loS_len hinv.2
        have hl32 := lt32 (n := N.toNat) (by omega) (loS_lt hokt (show k ≤ n by omega) hinv.2)
        have hgate := gateOk_split (circOk_gate hok hltk)
        have hnll := nl_length l
        refine Run.skip ?_
        refine Run.seq ?_
        refine Run.block ?_
        refine Run.seq ?_
        refine Run.region ?_
        refine Run.q (v := .pointer (some ⟨b, o + k * 3, none⟩)) rfl (OpQ.y (OpY.index (kk := k) Tsl_36 rfl rfl (by omega) (by omega) (by first | rfl | omega))) ?_
        refine Run.q (v := .agg #[.int .i64 (ix xs (k * 3)), .int .i64 (ix xs (k * 3 + 1)), .int .i64 (ix xs (k * 3 + 2))]) rfl (OpQ.y (OpY.loadN (cs := [.int .i64 (ix xs (k * 3)), .int .i64 (ix xs (k * 3 + 1)), .int .i64 (ix xs (k * 3 + 2))]) Tagg_71 rfl (Cells.arg (k := k * 3) ha rfl (by omega) (pre3 (by omega))))) ?_
        refine Run.step rfl (OpStep.alloc (zs := [.int .i64 0, .int .i64 0, .int .i64 0]) Tzero_71 fun b4 => ?_)
        refine Run.step rfl (OpStep.storeAll (us := [.int .i64 (ix xs (k * 3)), .int .i64 (ix xs (k * 3 + 1)), .int .i64 (ix xs (k * 3 + 2))]) Tsize_71 rfl rfl rfl (.here _) rfl ?_)
        refine Run.done ?_
        refine Run.seq ?_
        refine Run.region ?_
        refine Run.q (v := .pointer (some ⟨b4, 0, none⟩)) rfl (OpQ.y (OpY.fieldAddr Tfo_71_0 rfl rfl)) ?_
        refine Run.q (v := .int .i64 (ix xs (k * 3))) rfl (OpQ.y (OpY.load1 Tone_3 rfl (Cells.blk (.head _) ⟨rfl, trivial⟩))) ?_
        refine Run.done ?_
        refine Run.block ?_
        refine Run.seq ?_
        refine Run.region ?_
        refine Run.q (v := .bool ((ix xs (k * 3)) == 9)) rfl (OpQ.y (OpY.pure rfl)) ?_
        refine Run.q (v := .bool ((ix xs (k * 3)) == 9)) rfl (OpQ.y (OpY.pure rfl)) ?_
        refine Run.done ?_
        refine Run.cond (b := (ix xs (k * 3)) == 9) rfl (fun h24 => ?_) (fun h24 => ?_)
        · have p24 := h24; try simp only [bs] at p24
          have hk9 : ix xs (k * 3) = 9 := p24
          have hgs : (0 ≤ ix xs (k * 3 + 1) ∧ ix xs (k * 3 + 1) < (N.toNat : Nat)) ∧ (0 ≤ ix xs (k * 3 + 2) ∧ ix xs (k * 3 + 2) < (N.toNat : Nat)) ∧ ix xs (k * 3 + 1) ≠ ix xs (k * 3 + 2) := by omega
          have ha3 := hgs.1
          have hb3 := hgs.2.1
          have hX : loS N.toNat xs (k + 1) = some (cx l ((ix xs (k * 3 + 1)).toNat, (ix xs (k * 3 + 2)).toNat)) := by rw [loS, hinv.2, Option.bind_some, if_pos hk9]
          refine Run.region ?_
          refine Run.q (v := .agg #[vr]) rfl (OpQ.y (OpY.loadN (cs := [vr]) Tagg_28 rfl (Cells.blk (.tail _ (.tail _ (List.Mem.head _))) ⟨rfl, trivial⟩))) ?_
          refine Run.q (v := .pointer (some ⟨b4, 1, none⟩)) rfl (OpQ.y (OpY.fieldAddr Tfo_71_1 rfl rfl)) ?_
          refine Run.q (v := .int .i64 (ix xs (k * 3 + 1))) rfl (OpQ.y (OpY.load1 Tone_3 rfl (Cells.blk (.head _) ⟨rfl, trivial⟩))) ?_
          refine Run.q (v := .pointer (some ⟨b4, 2, none⟩)) rfl (OpQ.y (OpY.fieldAddr Tfo_71_2 rfl rfl)) ?_
          refine Run.q (v := .int .i64 (ix xs (k * 3 + 2))) rfl (OpQ.y (OpY.load1 Tone_3 rfl (Cells.blk (.head _) ⟨rfl, trivial⟩))) ?_
          refine Run.step rfl (OpStep.call (vs := [.agg #[vr], .int .i64 (ix xs (k * 3 + 1)), .int .i64 (ix xs (k * 3 + 2))]) (caps := []) Tcall_71 rfl rfl (fun w hs => l12CX_i hll (by omega) ha3 hb3 hl32 (hs.slOwn (.tail _ (List.Mem.head _)))) ?_)
          rintro _ _ ⟨ur1, rfl, rfl⟩
          show Run _ _ (putF _ _ _ (.agg #[ur1])) [.own ur1 3 1 (N.toNat) (ints (nl (cx l ((ix xs (k * 3 + 1)).toNat, (ix xs (k * 3 + 2)).toNat)))), .blk b4 71 [.int .i64 (ix xs (k * 3)), .int .i64 (ix xs (k * 3 + 1)), .int .i64 (ix xs (k * 3 + 2))], .own vr 3 1 (N.toNat) (ints (nl l)), .blk b3 28 [vr], .blk b2 28 [.slice none 0 0], .blk b1 38 [.int .i64 N, .slice (some ⟨b, o, none⟩) n c]]
          refine Run.formOwn (.head _) (fun A_ur11 c_ur11 hv hcapc_ur11 hmaxc_ur11 => ?_) (fun _ _ _ => ⟨nofun, nofun, nofun⟩)
          subst hv
          refine Run.step rfl (OpStep.storeAll (us := [.slice A_ur11 (N.toNat) c_ur11]) Tsize_28 rfl rfl rfl (.there _ (.there _ (.there _ (.here _)))) rfl ?_)
          refine Run.done ?_
          refine Run.blockEnd ?_
          refine Run.blockEnd ?_
          refine Run.region ?_
          refine Run.q (v := .int .i64 ((((k : Nat) : Int)) + 1)) rfl (OpQ.y (OpY.add rfl rfl rfl (by omega) (by omega))) ?_
          refine Run.q (v := .int .i64 ((((k : Nat) : Int)) + 1)) rfl (OpQ.y (OpY.pure rfl)) ?_
          refine Run.done ?_
          refine Run.goal ⟨(by repeat (first | exact Same.refl _ _ | refine Same.put rfl ?_ | refine Same.over rfl rfl ?_)), (k + 1, (cx l ((ix xs (k * 3 + 1)).toNat, (ix xs (k * 3 + 2)).toNat)), .slice A_ur11 (N.toNat) c_ur11), ?_, ?_, ?_, ?_⟩
          · exact ⟨by omega, hX⟩
          · show n - (k + 1) < n - k; omega
          · exact ⟨(by first | rfl | (congr 1; omega) | simp), trivial⟩
          · exact (((((Weak.front [.own (.slice A_ur11 (N.toNat) c_ur11) 3 1 (N.toNat) (ints (nl (cx l ((ix xs (k * 3 + 1)).toNat, (ix xs (k * 3 + 2)).toNat)))), .blk b4 71 [.int .i64 (ix xs (k * 3)), .int .i64 (ix xs (k * 3 + 1)), .int .i64 (ix xs (k * 3 + 2))], .own vr 3 1 (N.toNat) (ints (nl l)), .blk b3 28 [.slice A_ur11 (N.toNat) c_ur11], .blk b2 28 [.slice none 0 0]] (.blk b1 38 [.int .i64 N, .slice (some ⟨b, o, none⟩) n c]) []).trans (Weak.front [.blk b1 38 [.int .i64 N, .slice (some ⟨b, o, none⟩) n c], .own (.slice A_ur11 (N.toNat) c_ur11) 3 1 (N.toNat) (ints (nl (cx l ((ix xs (k * 3 + 1)).toNat, (ix xs (k * 3 + 2)).toNat)))), .blk b4 71 [.int .i64 (ix xs (k * 3)), .int .i64 (ix xs (k * 3 + 1)), .int .i64 (ix xs (k * 3 + 2))], .own vr 3 1 (N.toNat) (ints (nl l)), .blk b3 28 [.slice A_ur11 (N.toNat) c_ur11]] (.blk b2 28 [.slice none 0 0]) [])).trans (Weak.front [.blk b2 28 [.slice none 0 0], .blk b1 38 [.int .i64 N, .slice (some ⟨b, o, none⟩) n c], .own (.slice A_ur11 (N.toNat) c_ur11) 3 1 (N.toNat) (ints (nl (cx l ((ix xs (k * 3 + 1)).toNat, (ix xs (k * 3 + 2)).toNat)))), .blk b4 71 [.int .i64 (ix xs (k * 3)), .int .i64 (ix xs (k * 3 + 1)), .int .i64 (ix xs (k * 3 + 2))], .own vr 3 1 (N.toNat) (ints (nl l))] (.blk b3 28 [.slice A_ur11 (N.toNat) c_ur11]) [])).trans (Weak.front [.blk b3 28 [.slice A_ur11 (N.toNat) c_ur11], .blk b2 28 [.slice none 0 0], .blk b1 38 [.int .i64 N, .slice (some ⟨b, o, none⟩) n c]] (.own (.slice A_ur11 (N.toNat) c_ur11) 3 1 (N.toNat) (ints (nl (cx l ((ix xs (k * 3 + 1)).toNat, (ix xs (k * 3 + 2)).toNat))))) [.blk b4 71 [.int .i64 (ix xs (k * 3)), .int .i64 (ix xs (k * 3 + 1)), .int .i64 (ix xs (k * 3 + 2))], .own vr 3 1 (N.toNat) (ints (nl l))])).trans (Some'.weak (.takeEq (by first | rfl | (rw [nl_swp]; done) | (rw [hsw]; done)) (.takeEq (by first | rfl | (rw [nl_swp]; done) | (rw [hsw]; done)) (.take (.takeEq (by first | rfl | (rw [nl_swp]; done) | (rw [hsw]; done)) (.nil _)))))))
        · have p24 := h24; try simp only [bs] at p24
          refine Run.seq ?_
          refine Run.region ?_
          refine Run.q (v := .bool ((ix xs (k * 3)) == 11)) rfl (OpQ.y (OpY.pure rfl)) ?_
          refine Run.q (v := .bool ((ix xs (k * 3)) == 11)) rfl (OpQ.y (OpY.pure rfl)) ?_
          refine Run.done ?_
          refine Run.cond (b := (ix xs (k * 3)) == 11) rfl (fun h32 => ?_) (fun h32 => ?_)
          · have p32 := h32; try simp only [bs] at p32
            have hk11 : ix xs (k * 3) = 11 := p32
            have hgs : (0 ≤ ix xs (k * 3 + 1) ∧ ix xs (k * 3 + 1) < (N.toNat : Nat)) ∧ (0 ≤ ix xs (k * 3 + 2) ∧ ix xs (k * 3 + 2) < (N.toNat : Nat)) ∧ ix xs (k * 3 + 1) ≠ ix xs (k * 3 + 2) := by omega
            have ha3 := hgs.1
            have hb3 := hgs.2.1
            have hsw := swp_cx (l := l) (a := (ix xs (k * 3 + 1)).toNat) (b := (ix xs (k * 3 + 2)).toNat) (by omega) (by omega) (by omega)
            have hX : loS N.toNat xs (k + 1) = some (swp l (ix xs (k * 3 + 1)).toNat (ix xs (k * 3 + 2)).toNat) := by rw [loS, hinv.2, Option.bind_some, if_neg (by omega), if_pos hk11]
            refine Run.heldB (base := [.blk b4 71 [.int .i64 (ix xs (k * 3)), .int .i64 (ix xs (k * 3 + 1)), .int .i64 (ix xs (k * 3 + 2))], .own vr 3 1 (N.toNat) (ints (nl l)), .blk b2 28 [.slice none 0 0], .blk b1 38 [.int .i64 N, .slice (some ⟨b, o, none⟩) n c]]) (by kernel_rfl) ?_
            refine DW.take (i := 1) (v := .pointer (some ⟨b4, 1, none⟩)) rfl (by kernel_rfl) (by kernel_rfl) (by kernel_rfl) (fun _ _ _ h => h) (Some'.weak (.take (.take (.skip (.take (.take (.nil _))))))) rfl (OpY.fieldAddr Tfo_71_1 rfl rfl) ?_
            refine DW.take (i := 2) (v := .int .i64 (ix xs (k * 3 + 1))) rfl (by kernel_rfl) (by kernel_rfl) (by kernel_rfl) (fun _ _ _ h => h) (Some'.weak (.take (.take (.skip (.take (.take (.nil _))))))) rfl (OpY.load1 Tone_3 rfl (Cells.blk (.head _) ⟨rfl, trivial⟩)) ?_
            refine DW.take (i := 3) (v := .pointer (some ⟨b4, 2, none⟩)) rfl (by kernel_rfl) (by kernel_rfl) (by kernel_rfl) (fun _ _ _ h => h) (Some'.weak (.take (.take (.skip (.take (.take (.nil _))))))) rfl (OpY.fieldAddr Tfo_71_2 rfl rfl) ?_
            refine DW.take (i := 4) (v := .int .i64 (ix xs (k * 3 + 2))) rfl (by kernel_rfl) (by kernel_rfl) (by kernel_rfl) (fun _ _ _ h => h) (Some'.weak (.take (.take (.skip (.take (.take (.nil _))))))) rfl (OpY.load1 Tone_3 rfl (Cells.blk (.head _) ⟨rfl, trivial⟩)) ?_
            refine DW.take (i := 6) (v := .pointer (some ⟨b4, 2, none⟩)) rfl (by kernel_rfl) (by kernel_rfl) (by kernel_rfl) (fun _ _ _ h => h) (Some'.weak (.take (.take (.skip (.take (.take (.nil _))))))) rfl (OpY.fieldAddr Tfo_71_2 rfl rfl) ?_
            refine DW.take (i := 7) (v := .int .i64 (ix xs (k * 3 + 2))) rfl (by kernel_rfl) (by kernel_rfl) (by kernel_rfl) (fun _ _ _ h => h) (Some'.weak (.take (.take (.skip (.take (.take (.nil _))))))) rfl (OpY.load1 Tone_3 rfl (Cells.blk (.head _) ⟨rfl, trivial⟩)) ?_
            refine DW.take (i := 8) (v := .pointer (some ⟨b4, 1, none⟩)) rfl (by kernel_rfl) (by kernel_rfl) (by kernel_rfl) (fun _ _ _ h => h) (Some'.weak (.take (.take (.skip (.take (.take (.nil _))))))) rfl (OpY.fieldAddr Tfo_71_1 rfl rfl) ?_
            refine DW.take (i := 9) (v := .int .i64 (ix xs (k * 3 + 1))) rfl (by kernel_rfl) (by kernel_rfl) (by kernel_rfl) (fun _ _ _ h => h) (Some'.weak (.take (.take (.skip (.take (.take (.nil _))))))) rfl (OpY.load1 Tone_3 rfl (Cells.blk (.head _) ⟨rfl, trivial⟩)) ?_
            refine DW.take (i := 11) (v := .pointer (some ⟨b4, 1, none⟩)) rfl (by kernel_rfl) (by kernel_rfl) (by kernel_rfl) (fun _ _ _ h => h) (Some'.weak (.take (.take (.skip (.take (.take (.nil _))))))) rfl (OpY.fieldAddr Tfo_71_1 rfl rfl) ?_
            refine DW.take (i := 12) (v := .int .i64 (ix xs (k * 3 + 1))) rfl (by kernel_rfl) (by kernel_rfl) (by kernel_rfl) (fun _ _ _ h => h) (Some'.weak (.take (.take (.skip (.take (.take (.nil _))))))) rfl (OpY.load1 Tone_3 rfl (Cells.blk (.head _) ⟨rfl, trivial⟩)) ?_
            refine DW.take (i := 13) (v := .pointer (some ⟨b4, 2, none⟩)) rfl (by kernel_rfl) (by kernel_rfl) (by kernel_rfl) (fun _ _ _ h => h) (Some'.weak (.take (.take (.skip (.take (.take (.nil _))))))) rfl (OpY.fieldAddr Tfo_71_2 rfl rfl) ?_
            refine DW.take (i := 14) (v := .int .i64 (ix xs (k * 3 + 2))) rfl (by kernel_rfl) (by kernel_rfl) (by kernel_rfl) (fun _ _ _ h => h) (Some'.weak (.take (.take (.skip (.take (.take (.nil _))))))) rfl (OpY.load1 Tone_3 rfl (Cells.blk (.head _) ⟨rfl, trivial⟩)) ?_
            refine DW.step (i := 0) (by kernel_rfl) rfl rfl (OpStep.q (v := .agg #[vr]) (OpQ.y (OpY.loadN (cs := [vr]) Tagg_28 rfl (Cells.blk (.tail _ (.tail _ (List.Mem.head _))) ⟨rfl, trivial⟩))) ?_)
            refine ⟨(Some'.weak (.take (.take (.skip (.take (.take (.nil _))))))), ?_⟩
            refine DW.step (i := 5) (by kernel_rfl) rfl rfl (OpStep.call (vs := [.agg #[vr], .int .i64 (ix xs (k * 3 + 1)), .int .i64 (ix xs (k * 3 + 2))]) (caps := []) Tcall_71 rfl rfl (fun w hs => l12CX_i hll (by omega) ha3 hb3 hl32 (hs.slOwn (.tail _ (List.Mem.head _)))) ?_)
            rintro _ _ ⟨ur2, rfl, rfl⟩
            refine ⟨(Some'.weak (.skip (.take (.take (.skip (.take (.take (.nil _)))))))), ?_⟩
            refine DW.step (i := 10) (by kernel_rfl) rfl rfl (OpStep.call (vs := [.agg #[ur2], .int .i64 (ix xs (k * 3 + 2)), .int .i64 (ix xs (k * 3 + 1))]) (caps := []) Tcall_71 rfl rfl (fun w hs => l12CX_i (by simp only [cx_length]; exact hll) (by omega) hb3 ha3 (cx32 hl32 _) (hs.slOwn (.head _))) ?_)
            rintro _ _ ⟨ur3, rfl, rfl⟩
            refine ⟨(Some'.weak (.skip (.skip (.take (.take (.skip (.take (.take (.nil _))))))))), ?_⟩
            refine DW.step (i := 15) (by kernel_rfl) rfl rfl (OpStep.call (vs := [.agg #[ur3], .int .i64 (ix xs (k * 3 + 1)), .int .i64 (ix xs (k * 3 + 2))]) (caps := []) Tcall_71 rfl rfl (fun w hs => l12CX_i (by simp only [cx_length]; exact hll) (by omega) ha3 hb3 (cx32 (cx32 hl32 _) _) (hs.slOwn (.head _))) ?_)
            rintro _ _ ⟨ur4, rfl, rfl⟩
            refine ⟨(Some'.weak (.skip (.skip (.skip (.take (.take (.skip (.take (.take (.nil _)))))))))), ?_⟩
            refine DW.formOwn (.head _) (fun A_ur41 c_ur41 hv hcapc_ur41 hmaxc_ur41 => ?_)
            subst hv
            refine DW.step (i := 16) (by kernel_rfl) rfl rfl (OpStep.storeAll (us := [.slice A_ur41 (N.toNat) c_ur41]) Tsize_28 rfl rfl rfl (.there _ (.there _ (.there _ (.there _ (.there _ (.here _)))))) rfl ?_)
            refine ⟨(Some'.weak (.skip (.skip (.skip (.take (.take (.skip (.take (.take (.nil _)))))))))), ?_⟩
            refine DW.done (by kernel_rfl) ?_
            refine Run.blockEnd ?_
            refine Run.blockEnd ?_
            refine Run.region ?_
            refine Run.q (v := .int .i64 ((((k : Nat) : Int)) + 1)) rfl (OpQ.y (OpY.add rfl rfl rfl (by omega) (by omega))) ?_
            refine Run.q (v := .int .i64 ((((k : Nat) : Int)) + 1)) rfl (OpQ.y (OpY.pure rfl)) ?_
            refine Run.done ?_
            refine Run.goal ⟨(by repeat (first | exact Same.refl _ _ | refine Same.put rfl ?_ | refine Same.over rfl rfl ?_)), (k + 1, swp l (ix xs (k * 3 + 1)).toNat (ix xs (k * 3 + 2)).toNat, .slice A_ur41 (N.toNat) c_ur41), ?_, ?_, ?_, ?_⟩
            · exact ⟨by omega, hX⟩
            · show n - (k + 1) < n - k; omega
            · exact ⟨(by first | rfl | (congr 1; omega) | simp), trivial⟩
            · exact (((((Weak.front [.own (.slice A_ur41 (N.toNat) c_ur41) 3 1 (N.toNat) (ints (nl (cx ((cx ((cx l ((ix xs (k * 3 + 1)).toNat, (ix xs (k * 3 + 2)).toNat))) ((ix xs (k * 3 + 2)).toNat, (ix xs (k * 3 + 1)).toNat))) ((ix xs (k * 3 + 1)).toNat, (ix xs (k * 3 + 2)).toNat)))), .own ur3 3 1 (N.toNat) (ints (nl (cx ((cx l ((ix xs (k * 3 + 1)).toNat, (ix xs (k * 3 + 2)).toNat))) ((ix xs (k * 3 + 2)).toNat, (ix xs (k * 3 + 1)).toNat)))), .own ur2 3 1 (N.toNat) (ints (nl (cx l ((ix xs (k * 3 + 1)).toNat, (ix xs (k * 3 + 2)).toNat)))), .blk b4 71 [.int .i64 (ix xs (k * 3)), .int .i64 (ix xs (k * 3 + 1)), .int .i64 (ix xs (k * 3 + 2))], .own vr 3 1 (N.toNat) (ints (nl l)), .blk b3 28 [.slice A_ur41 (N.toNat) c_ur41], .blk b2 28 [.slice none 0 0]] (.blk b1 38 [.int .i64 N, .slice (some ⟨b, o, none⟩) n c]) []).trans (Weak.front [.blk b1 38 [.int .i64 N, .slice (some ⟨b, o, none⟩) n c], .own (.slice A_ur41 (N.toNat) c_ur41) 3 1 (N.toNat) (ints (nl (cx ((cx ((cx l ((ix xs (k * 3 + 1)).toNat, (ix xs (k * 3 + 2)).toNat))) ((ix xs (k * 3 + 2)).toNat, (ix xs (k * 3 + 1)).toNat))) ((ix xs (k * 3 + 1)).toNat, (ix xs (k * 3 + 2)).toNat)))), .own ur3 3 1 (N.toNat) (ints (nl (cx ((cx l ((ix xs (k * 3 + 1)).toNat, (ix xs (k * 3 + 2)).toNat))) ((ix xs (k * 3 + 2)).toNat, (ix xs (k * 3 + 1)).toNat)))), .own ur2 3 1 (N.toNat) (ints (nl (cx l ((ix xs (k * 3 + 1)).toNat, (ix xs (k * 3 + 2)).toNat)))), .blk b4 71 [.int .i64 (ix xs (k * 3)), .int .i64 (ix xs (k * 3 + 1)), .int .i64 (ix xs (k * 3 + 2))], .own vr 3 1 (N.toNat) (ints (nl l)), .blk b3 28 [.slice A_ur41 (N.toNat) c_ur41]] (.blk b2 28 [.slice none 0 0]) [])).trans (Weak.front [.blk b2 28 [.slice none 0 0], .blk b1 38 [.int .i64 N, .slice (some ⟨b, o, none⟩) n c], .own (.slice A_ur41 (N.toNat) c_ur41) 3 1 (N.toNat) (ints (nl (cx ((cx ((cx l ((ix xs (k * 3 + 1)).toNat, (ix xs (k * 3 + 2)).toNat))) ((ix xs (k * 3 + 2)).toNat, (ix xs (k * 3 + 1)).toNat))) ((ix xs (k * 3 + 1)).toNat, (ix xs (k * 3 + 2)).toNat)))), .own ur3 3 1 (N.toNat) (ints (nl (cx ((cx l ((ix xs (k * 3 + 1)).toNat, (ix xs (k * 3 + 2)).toNat))) ((ix xs (k * 3 + 2)).toNat, (ix xs (k * 3 + 1)).toNat)))), .own ur2 3 1 (N.toNat) (ints (nl (cx l ((ix xs (k * 3 + 1)).toNat, (ix xs (k * 3 + 2)).toNat)))), .blk b4 71 [.int .i64 (ix xs (k * 3)), .int .i64 (ix xs (k * 3 + 1)), .int .i64 (ix xs (k * 3 + 2))], .own vr 3 1 (N.toNat) (ints (nl l))] (.blk b3 28 [.slice A_ur41 (N.toNat) c_ur41]) [])).trans (Weak.front [.blk b3 28 [.slice A_ur41 (N.toNat) c_ur41], .blk b2 28 [.slice none 0 0], .blk b1 38 [.int .i64 N, .slice (some ⟨b, o, none⟩) n c]] (.own (.slice A_ur41 (N.toNat) c_ur41) 3 1 (N.toNat) (ints (nl (cx ((cx ((cx l ((ix xs (k * 3 + 1)).toNat, (ix xs (k * 3 + 2)).toNat))) ((ix xs (k * 3 + 2)).toNat, (ix xs (k * 3 + 1)).toNat))) ((ix xs (k * 3 + 1)).toNat, (ix xs (k * 3 + 2)).toNat))))) [.own ur3 3 1 (N.toNat) (ints (nl (cx ((cx l ((ix xs (k * 3 + 1)).toNat, (ix xs (k * 3 + 2)).toNat))) ((ix xs (k * 3 + 2)).toNat, (ix xs (k * 3 + 1)).toNat)))), .own ur2 3 1 (N.toNat) (ints (nl (cx l ((ix xs (k * 3 + 1)).toNat, (ix xs (k * 3 + 2)).toNat)))), .blk b4 71 [.int .i64 (ix xs (k * 3)), .int .i64 (ix xs (k * 3 + 1)), .int .i64 (ix xs (k * 3 + 2))], .own vr 3 1 (N.toNat) (ints (nl l))])).trans (Some'.weak (.takeEq (by first | rfl | (rw [nl_swp]; done) | (rw [hsw]; done)) (.takeEq (by first | rfl | (rw [nl_swp]; done) | (rw [hsw]; done)) (.take (.takeEq (by first | rfl | (rw [nl_swp]; done) | (rw [hsw]; done)) (.nil _)))))))
          · have p32 := h32; try simp only [bs] at p32
            have hno : loS N.toNat xs (k + 1) = none := by rw [loS, hinv.2, Option.bind_some, if_neg (by omega), if_neg (by omega)]
            have hno2 : loS N.toNat xs n = none := by rw [show n = (k + 1) + (n - (k + 1)) by omega]; exact loS_none hno _
            have hB : loB N xs n = false := by rw [loB, hno2, Option.isSome_none, Bool.and_false]
            have hL : loL N xs n = [] := by rw [loL, hB]; rfl
            refine Run.seq ?_
            refine Run.region ?_
            refine Run.q (v := .agg #[.slice none 0 0]) rfl (OpQ.y (OpY.build (cs := [.slice none 0 0]) (by kernel_rfl))) ?_
            refine Run.step rfl (OpStep.storeAll (us := [.slice none 0 0]) Tsize_28 rfl rfl rfl (.there _ (.there _ (.there _ (.here _)))) rfl ?_)
            refine Run.q (v := .bool false) rfl (OpQ.y (OpY.pure rfl)) ?_
            refine Run.done ?_
            refine Run.ret ?_
            refine ⟨.tuple #[.agg #[.slice none 0 0], .bool false], [.own (.slice none 0 0) 3 1 ((loL N xs n).length) (ints (nl (loL N xs n)))], Out.cell2 (cs := [.slice none 0 0]) rfl Tagg_28 rfl (Cells.blk (.tail _ (.tail _ (.tail _ (List.Mem.head _)))) ⟨rfl, trivial⟩) rfl, ((Weak.nilOwn 3 1).trans (Some'.weak (.takeEq (by first | (rw [hL]; done) | (rw [hL]; rfl) | (rw [hL, hll])) (.nil _)))), ?_⟩
            exact ⟨_, by rw [hB], rfl⟩
      · have p18 := h18; try simp only [bs] at p18
        have hknk : k = n := by omega
        refine Run.exit rfl ?_
        refine Run.seq ?_
        have hnn : loS N.toNat xs n = some l := by rw [← hknk]; exact hinv.2
        have hB : loB N xs n = true := by rw [loB, hok, hnn]; rfl
        have hL : loL N xs n = l := by rw [loL, if_pos hB, hnn]; rfl
        have hll := loS_len hinv.2
        refine Run.region ?_
        refine Run.q (v := .agg #[vr]) rfl (OpQ.y (OpY.loadN (cs := [vr]) Tagg_28 rfl (Cells.blk (.tail _ (List.Mem.head _)) ⟨rfl, trivial⟩))) ?_
        refine Run.formOwn (.head _) (fun A_vr1 c_vr1 hv hcapc_vr1 hmaxc_vr1 => ?_) (fun _ _ _ => ⟨nofun, nofun, nofun⟩)
        subst hv
        refine Run.step rfl (OpStep.storeAll (us := [.slice A_vr1 (N.toNat) c_vr1]) Tsize_28 rfl rfl rfl (.there _ (.there _ (.here _))) rfl ?_)
        refine Run.q (v := .bool true) rfl (OpQ.y (OpY.pure rfl)) ?_
        refine Run.done ?_
        refine Run.ret ?_
        refine ⟨.tuple #[.agg #[.slice A_vr1 (N.toNat) c_vr1], .bool true], [.own (.slice A_vr1 (N.toNat) c_vr1) 3 1 ((loL N xs n).length) (ints (nl (loL N xs n)))], Out.cell2 (cs := [.slice A_vr1 (N.toNat) c_vr1]) rfl Tagg_28 rfl (Cells.blk (.tail _ (.tail _ (List.Mem.head _))) ⟨rfl, trivial⟩) rfl, (Some'.weak (.takeEq (by first | (rw [hL]; done) | (rw [hL]; rfl) | (rw [hL, hll])) (.nil _))), ?_⟩
        exact ⟨_, by rw [hB], rfl⟩

set_option maxHeartbeats 1000000 in
set_option maxRecDepth 20000 in
theorem inverted_spec {va : Value} {n : Nat} {r : List Nat} {w : World} (hl : r.length = n) (h1 : 1 ≤ n) (h5 : n ≤ 5) (hb : ∀ i, nx r i < 2 ^ n) (ha : Sl w va 1 n (ints (nl r))) : Calls Try.prog 77 #[.agg #[va]] w (Post No w fun v H => ∃ u, v = .agg #[u] ∧ H = [.own u 3 1 n (ints (nl (cxs (idL n) (elW n r))))]) := by
  have hlw := elW_len h5 r
  obtain ⟨A, c, rfl, _, _⟩ := ha.form0
  refine enter (n := 33) (args := [.agg #[.slice A n c]]) Try.func77 rfl rfl (St.empty _ _) ?_
  refine Run.seq ?_
  refine Run.region ?_
  refine Run.step rfl (OpStep.box (us := [.slice A n c]) rfl fun b1 => ?_)
  refine Run.step rfl (OpStep.alloc (zs := [.slice none 0 0]) Tzero_28 fun b2 => ?_)
  refine Run.done ?_
  refine Run.seq ?_
  refine Run.region ?_
  refine Run.q (v := .pointer (some ⟨b1, 0, none⟩)) rfl (OpQ.y (OpY.fieldAddr Tfo_28_0 rfl rfl)) ?_
  refine Run.q (v := .slice A n c) rfl (OpQ.y (OpY.load1 Tone_22 rfl (Cells.blk (.tail _ (List.Mem.head _)) ⟨rfl, trivial⟩))) ?_
  refine Run.q (v := .int .i64 (((n : Nat) : Int))) rfl (OpQ.y (OpY.len Tsl_22 rfl)) ?_
  refine Run.step rfl (OpStep.call (vs := [.int .i64 (((n : Nat) : Int))]) (caps := []) Tcall_67 rfl rfl (fun w hs => identityLinear_spec h5 w) ?_)
  rintro _ _ ⟨ui, rfl, rfl⟩
  show Run _ _ (putF _ _ _ (.agg #[ui])) [.own ui 3 1 n (ints (nl (idL n))), .blk b2 28 [.slice none 0 0], .blk b1 28 [.slice A n c]]
  refine Run.step rfl (OpStep.alloc (zs := [.slice none 0 0]) Tzero_28 fun b3 => ?_)
  refine Run.formOwn (.tail _ (List.Mem.head _)) (fun A_ui1 c_ui1 hv hcapc_ui1 hmaxc_ui1 => ?_) (fun _ _ _ => ⟨nofun, nofun, nofun⟩)
  subst hv
  refine Run.step rfl (OpStep.storeAll (us := [.slice A_ui1 n c_ui1]) Tsize_28 rfl rfl rfl (.here _) rfl ?_)
  refine Run.done ?_
  refine Run.seq ?_
  refine Run.seq ?_
  refine Run.region ?_
  refine Run.q (v := .agg #[.slice A n c]) rfl (OpQ.y (OpY.loadN (cs := [.slice A n c]) Tagg_28 rfl (Cells.blk (.tail _ (.tail _ (.tail _ (List.Mem.head _)))) ⟨rfl, trivial⟩))) ?_
  refine Run.step rfl (OpStep.call (vs := [.agg #[.slice A n c]]) (caps := []) Tcall_98 rfl rfl (fun w hs => eliminated_spec hl h1 h5 hb (hs.sl ha)) ?_)
  rintro ue _ rfl
  show Run _ _ (putF _ _ _ ue) [.own ue 71 3 ((elW n r).length) (ints (flCX (elW n r))), .blk b3 28 [.slice A_ui1 n c_ui1], .own (.slice A_ui1 n c_ui1) 3 1 n (ints (nl (idL n))), .blk b2 28 [.slice none 0 0], .blk b1 28 [.slice A n c]]
  refine Run.formOwn (.head _) (fun A_ue1 c_ue1 hv hcapc_ue1 hmaxc_ue1 => ?_) (fun _ _ _ => ⟨nofun, nofun, nofun⟩)
  subst hv
  refine Run.q (v := .int .i64 ((((elW n r).length : Nat) : Int))) rfl (OpQ.y (OpY.len Tsl_36 rfl)) ?_
  refine Run.q (v := .int .i64 0) rfl (OpQ.y (OpY.pure rfl)) ?_
  refine Run.done ?_
  refine Run.block ?_
  refine Run.loop (ι := Nat) [5, 13, 14, 15, 16, 17, 18, 19, 20, 21, 22, 23, 24, 25, 26, 27, 28, 29, 30, 31] (fun k => [(13, .int .i64 (((k : Nat) : Int)))]) (fun k => [.own (.slice A_ue1 ((elW n r).length) c_ue1) 71 3 ((elW n r).length) (ints (flCX (elW n r))), .blk b3 28 [.slice A_ui1 n c_ui1], .own (.slice A_ui1 n c_ui1) 3 1 n (ints (nl (cxs (idL n) ((elW n r).take k)))), .blk b2 28 [.slice none 0 0], .blk b1 28 [.slice A n c]]) (fun k => k ≤ (elW n r).length) (fun k => (elW n r).length - k) 0 ?_ ?_ ?_ ?_
  · exact Nat.zero_le _
  · exact ⟨rfl, trivial⟩
  · exact (Some'.weak (.take (.take (.takeEq (by first | rfl | (rw [nl_set, ← hX])) (.take (.take (.nil _)))))))
  · rintro k fr hinv
    show Run _ _ (over _ _ [(13, .int .i64 (((k : Nat) : Int)))] fr) [.own (.slice A_ue1 ((elW n r).length) c_ue1) 71 3 ((elW n r).length) (ints (flCX (elW n r))), .blk b3 28 [.slice A_ui1 n c_ui1], .own (.slice A_ui1 n c_ui1) 3 1 n (ints (nl (cxs (idL n) ((elW n r).take k)))), .blk b2 28 [.slice none 0 0], .blk b1 28 [.slice A n c]]
    try dsimp only at hinv
    refine Run.seq ?_
    refine Run.region ?_
    refine Run.q (v := .bool (decide ((((k : Nat) : Int)) < ((((elW n r).length : Nat) : Int))))) rfl (OpQ.y (OpY.pure rfl)) ?_
    refine Run.done ?_
    refine Run.seq ?_
    refine Run.cond (b := decide ((((k : Nat) : Int)) < ((((elW n r).length : Nat) : Int)))) rfl (fun h14 => ?_) (fun h14 => ?_)
    · have p14 := h14; try simp only [bs] at p14
      have hkl : k < (elW n r).length := by omega
      have hfl := flCX_length (elW n r)
      have hg := flCX_ix3 hkl
      have hwk := elW_ok n r _ (gat_mem hkl)
      have hcl : (cxs (idL n) ((elW n r).take k)).length = n := by rw [cxs_length]; simp
      have hnc := nl_length (cxs (idL n) ((elW n r).take k))
      have h32 := lt32 h5 (cxs_lt ((elW n r).take k) _ (idL_lt n))
      have hxa := h32 (gat (elW n r) k).1
      have hxb := h32 (gat (elW n r) k).2
      have hX : cxs (idL n) ((elW n r).take (k + 1)) = (cxs (idL n) ((elW n r).take k)).set (gat (elW n r) k).2 (nx (cxs (idL n) ((elW n r).take k)) (gat (elW n r) k).2 ^^^ nx (cxs (idL n) ((elW n r).take k)) (gat (elW n r) k).1) := by rw [cxs_take hkl]; rfl
      refine Run.openOwn (.head _) (by omega) (fun gg cg hvgg hcapgg _ => ?_) (fun _ _ _ => ⟨nofun, nofun, nofun⟩)
      injection hvgg with hAgg _ hcgg; subst hAgg; subst hcgg
      refine Run.openOwn (.tail _ (.tail _ (List.Mem.head _))) (by omega) (fun gr cr hvgr hcapgr _ => ?_) (fun _ _ _ => ⟨nofun, nofun, nofun⟩)
      injection hvgr with hAgr _ hcgr; subst hAgr; subst hcgr
      refine Run.skip ?_
      refine Run.seq ?_
      refine Run.block ?_
      refine Run.seq ?_
      refine Run.region ?_
      refine Run.q (v := .pointer (some ⟨gg, k * 3, none⟩)) rfl (OpQ.y (OpY.index (kk := k) Tsl_36 rfl rfl (by omega) (by omega) (by first | rfl | omega))) ?_
      refine Run.q (v := .agg #[.int .i64 (ix (flCX (elW n r)) (k * 3)), .int .i64 (ix (flCX (elW n r)) (k * 3 + 1)), .int .i64 (ix (flCX (elW n r)) (k * 3 + 2))]) rfl (OpQ.y (OpY.loadN (cs := [.int .i64 (ix (flCX (elW n r)) (k * 3)), .int .i64 (ix (flCX (elW n r)) (k * 3 + 1)), .int .i64 (ix (flCX (elW n r)) (k * 3 + 2))]) Tagg_71 rfl (Cells.own0 (.head _) (pre3 (by first | omega | (simp; omega)))))) ?_
      refine Run.step rfl (OpStep.alloc (zs := [.int .i64 0, .int .i64 0, .int .i64 0]) Tzero_71 fun b4 => ?_)
      refine Run.step rfl (OpStep.storeAll (us := [.int .i64 (ix (flCX (elW n r)) (k * 3)), .int .i64 (ix (flCX (elW n r)) (k * 3 + 1)), .int .i64 (ix (flCX (elW n r)) (k * 3 + 2))]) Tsize_71 rfl rfl rfl (.here _) rfl ?_)
      refine Run.done ?_
      refine Run.lastly [14] (by kernel_rfl) ?_
      refine DL.takeP (i := 0) (v := .pointer (some ⟨b3, 0, none⟩)) rfl (by kernel_rfl) (by kernel_rfl) (by kernel_rfl) (fun _ _ _ h => h) rfl (fun _ => OpY.fieldAddr Tfo_28_0 rfl rfl) ?_
      refine DL.take (i := 1) (v := .slice (some ⟨gr, 0, none⟩) n c_ui1) rfl (by kernel_rfl) (by kernel_rfl) (by kernel_rfl) (by kernel_rfl) (fun _ _ _ h => h) (Some'.weak (.take (.take (.take (.take (.take (.take (.nil _)))))))) rfl (OpY.load1 Tone_22 rfl (Cells.blk (.tail _ (.tail _ (List.Mem.head _))) ⟨rfl, trivial⟩)) ?_
      refine DL.takeP (i := 2) (v := .pointer (some ⟨b4, 2, none⟩)) rfl (by kernel_rfl) (by kernel_rfl) (by kernel_rfl) (fun _ _ _ h => h) rfl (fun _ => OpY.fieldAddr Tfo_71_2 rfl rfl) ?_
      refine DL.take (i := 3) (v := .int .i64 (ix (flCX (elW n r)) (k * 3 + 2))) rfl (by kernel_rfl) (by kernel_rfl) (by kernel_rfl) (by kernel_rfl) (fun _ _ _ h => h) (Some'.weak (.take (.take (.take (.take (.take (.take (.nil _)))))))) rfl (OpY.load1 Tone_3 rfl (Cells.blk (.head _) ⟨rfl, trivial⟩)) ?_
      refine DL.takeP (i := 4) (v := .pointer (some ⟨gr, (gat (elW n r) k).2, none⟩)) rfl (by kernel_rfl) (by kernel_rfl) (by kernel_rfl) (fun _ _ _ h => h) rfl (fun _ => OpY.index (kk := (gat (elW n r) k).2) Tsl_22 rfl rfl (by omega) (by omega) (by first | rfl | omega)) ?_
      refine DL.take (i := 5) (v := .int .i64 (ix (nl (cxs (idL n) ((elW n r).take k))) ((gat (elW n r) k).2))) rfl (by kernel_rfl) (by kernel_rfl) (by kernel_rfl) (by kernel_rfl) (fun _ _ _ h => h) (Some'.weak (.take (.take (.take (.take (.take (.take (.nil _)))))))) rfl (OpY.load1 Tone_3 rfl (Cells.own0 (.tail _ (.tail _ (.tail _ (List.Mem.head _)))) (pre1 (by first | omega | (simp; omega))))) ?_
      refine DL.takeP (i := 6) (v := .pointer (some ⟨b3, 0, none⟩)) rfl (by kernel_rfl) (by kernel_rfl) (by kernel_rfl) (fun _ _ _ h => h) rfl (fun _ => OpY.fieldAddr Tfo_28_0 rfl rfl) ?_
      refine DL.take (i := 7) (v := .slice (some ⟨gr, 0, none⟩) n c_ui1) rfl (by kernel_rfl) (by kernel_rfl) (by kernel_rfl) (by kernel_rfl) (fun _ _ _ h => h) (Some'.weak (.take (.take (.take (.take (.take (.take (.nil _)))))))) rfl (OpY.load1 Tone_22 rfl (Cells.blk (.tail _ (.tail _ (List.Mem.head _))) ⟨rfl, trivial⟩)) ?_
      refine DL.takeP (i := 8) (v := .pointer (some ⟨b4, 1, none⟩)) rfl (by kernel_rfl) (by kernel_rfl) (by kernel_rfl) (fun _ _ _ h => h) rfl (fun _ => OpY.fieldAddr Tfo_71_1 rfl rfl) ?_
      refine DL.take (i := 9) (v := .int .i64 (ix (flCX (elW n r)) (k * 3 + 1))) rfl (by kernel_rfl) (by kernel_rfl) (by kernel_rfl) (by kernel_rfl) (fun _ _ _ h => h) (Some'.weak (.take (.take (.take (.take (.take (.take (.nil _)))))))) rfl (OpY.load1 Tone_3 rfl (Cells.blk (.head _) ⟨rfl, trivial⟩)) ?_
      refine DL.takeP (i := 10) (v := .pointer (some ⟨gr, (gat (elW n r) k).1, none⟩)) rfl (by kernel_rfl) (by kernel_rfl) (by kernel_rfl) (fun _ _ _ h => h) rfl (fun _ => OpY.index (kk := (gat (elW n r) k).1) Tsl_22 rfl rfl (by omega) (by omega) (by first | rfl | omega)) ?_
      refine DL.take (i := 11) (v := .int .i64 (ix (nl (cxs (idL n) ((elW n r).take k))) ((gat (elW n r) k).1))) rfl (by kernel_rfl) (by kernel_rfl) (by kernel_rfl) (by kernel_rfl) (fun _ _ _ h => h) (Some'.weak (.take (.take (.take (.take (.take (.take (.nil _)))))))) rfl (OpY.load1 Tone_3 rfl (Cells.own0 (.tail _ (.tail _ (.tail _ (List.Mem.head _)))) (pre1 (by first | omega | (simp; omega))))) ?_
      refine DL.takeP (i := 12) (v := .int .i64 (((nx (cxs (idL n) ((elW n r).take k)) (gat (elW n r) k).2 ^^^ nx (cxs (idL n) ((elW n r).take k)) (gat (elW n r) k).1 : Nat) : Int))) rfl (by kernel_rfl) (by kernel_rfl) (by kernel_rfl) (fun _ _ _ h => h) rfl (fun _ => OpY.xorNat rfl rfl (ix_nl _ _) (ix_nl _ _) (by omega) (by omega)) ?_
      refine DL.takeP (i := 13) (v := .pointer (some ⟨gr, (gat (elW n r) k).2, none⟩)) rfl (by kernel_rfl) (by kernel_rfl) (by kernel_rfl) (fun _ _ _ h => h) rfl (fun _ => OpY.index (kk := (gat (elW n r) k).2) Tsl_22 rfl rfl (by omega) (by omega) (by first | rfl | omega)) ?_
      refine DL.step (i := 14) (by kernel_rfl) (by kernel_rfl) rfl rfl (OpStep.storeOwnInt (o := (gat (elW n r) k).2) (a := ((nx (cxs (idL n) ((elW n r).take k)) (gat (elW n r) k).2 ^^^ nx (cxs (idL n) ((elW n r).take k)) (gat (elW n r) k).1 : Nat) : Int)) Tsize_3 rfl rfl (.there _ (.there _ (.there _ (.here _)))) (by first | omega | (simp; omega)) ?_)
      refine DL.done (by kernel_rfl) ?_
      refine Run.blockEnd ?_
      refine Run.region ?_
      refine Run.q (v := .int .i64 ((((k : Nat) : Int)) + 1)) rfl (OpQ.y (OpY.add rfl rfl rfl (by omega) (by omega))) ?_
      refine Run.q (v := .int .i64 ((((k : Nat) : Int)) + 1)) rfl (OpQ.y (OpY.pure rfl)) ?_
      refine Run.done ?_
      refine Run.goal ⟨(by repeat (first | exact Same.refl _ _ | refine Same.put rfl ?_ | refine Same.over rfl rfl ?_)), k + 1, ?_, ?_, ?_, ?_⟩
      · exact hkl
      · omega
      · exact ⟨(by first | rfl | (congr 1; omega) | simp), trivial⟩
      · exact (Some'.weak (.skip (.takeEq (by first | rfl | (rw [nl_set, ← hX])) (.takeEq (by first | rfl | (rw [nl_set, ← hX])) (.takeEq (by first | rfl | (rw [nl_set, ← hX])) (.take (.take (.nil _))))))))
    · have p14 := h14; try simp only [bs] at p14
      have hkl : k = (elW n r).length := by omega
      refine Run.exit rfl ?_
      refine Run.seq ?_
      refine Run.region ?_
      refine Run.q (v := .agg #[.slice A_ui1 n c_ui1]) rfl (OpQ.y (OpY.loadN (cs := [.slice A_ui1 n c_ui1]) Tagg_28 rfl (Cells.blk (.tail _ (List.Mem.head _)) ⟨rfl, trivial⟩))) ?_
      refine Run.step rfl (OpStep.storeAll (us := [.slice A_ui1 n c_ui1]) Tsize_28 rfl rfl rfl (.there _ (.there _ (.there _ (.here _)))) rfl ?_)
      refine Run.done ?_
      refine Run.ret ?_
      refine ⟨.agg #[.slice A_ui1 n c_ui1], [.own (.slice A_ui1 n c_ui1) 3 1 n (ints (nl (cxs (idL n) (elW n r))))], Out.cell1 (cs := [.slice A_ui1 n c_ui1]) rfl Tagg_28 rfl (Cells.blk (.tail _ (.tail _ (.tail _ (List.Mem.head _)))) ⟨rfl, trivial⟩), (Some'.weak (.skip (.skip (.takeEq (by rw [hkl, List.take_length]) (.nil _))))), ?_⟩
      exact ⟨_, rfl, rfl⟩


/-- The inverse of a valid map. -/
def inL (n : Nat) (xs : List Int) : List Nat := if linOk xs n then cxs (idL n) (elW n (nats xs)) else []
theorem inL_facts {n : Nat} {xs : List Int} (hl : xs.length = n) (h : linOk xs n = true) : inL n xs = cxs (idL n) (elW n (nats xs)) ∧ (inL n xs).length = n ∧ linOk (nl (inL n xs)) n = true := by
  obtain ⟨h1, h5, hnx, hnl, hlt, hin⟩ := lin_facts hl h
  have e : inL n xs = cxs (idL n) (elW n (nats xs)) := if_pos h
  rw [e]
  refine ⟨rfl, by rw [cxs_length]; simp, linOk_of h1 h5 (by rw [cxs_length]; simp) (cxs_lt _ _ (idL_lt n)) (inv_ok hnl hlt hin)⟩
def coB (n : Nat) (xs : List Int) (m : Nat) (ys : List Int) : Bool := (linOk xs n && linOk ys m) && decide (n = m)
def coL (n : Nat) (xs : List Int) (m : Nat) (ys : List Int) : List Nat := if coB n xs m ys then comp (nats xs) (nats ys) else []
theorem comp_take {m l : List Nat} {k : Nat} (h : k < l.length) : comp m (l.take (k + 1)) = comp m (l.take k) ++ [thF m (nx l k) m.length] := by
  have e : l.take (k + 1) = l.take k ++ [nx l k] := by rw [List.take_add_one]; simp [nx, List.getD, h]
  rw [e]; simp [comp]
theorem ints_nl_snoc (l : List Nat) (x : Nat) : ints (nl l) ++ [.int .i64 (x : Int)] = ints (nl (l ++ [x])) := by simp [nl, ints]

set_option maxHeartbeats 1000000 in
set_option maxRecDepth 20000 in
theorem InvertLinear_spec {va : Value} {n : Nat} {xs : List Int} {w : World} (ha : Sl w va 1 n (ints xs)) : Calls Try.prog 36 #[.agg #[va]] w (Post No w fun v H => ∃ u, v = .tuple #[.agg #[u], .bool (linOk xs n)] ∧ H = [.own u 3 1 (inL n xs).length (ints (nl (inL n xs)))]) := by
  have hxl : xs.length = n := by have := ha.len; omega
  obtain ⟨A, c, rfl, _, _⟩ := ha.form0
  refine enter (n := 10) (args := [.agg #[.slice A n c]]) Try.func36 rfl rfl (St.empty _ _) ?_
  refine Run.seq ?_
  refine Run.region ?_
  refine Run.step rfl (OpStep.box (us := [.slice A n c]) rfl fun b1 => ?_)
  refine Run.step rfl (OpStep.alloc (zs := [.slice none 0 0]) Tzero_28 fun b2 => ?_)
  refine Run.q (v := .bool false) rfl (OpQ.y (OpY.pure rfl)) ?_
  refine Run.done ?_
  refine Run.seq ?_
  refine Run.seq ?_
  refine Run.region ?_
  refine Run.q (v := .agg #[.slice A n c]) rfl (OpQ.y (OpY.loadN (cs := [.slice A n c]) Tagg_28 rfl (Cells.blk (.tail _ (List.Mem.head _)) ⟨rfl, trivial⟩))) ?_
  refine Run.q (v := .bool (linOk xs n)) rfl (OpQ.call (vs := [.agg #[.slice A n c]]) (caps := []) Tcall_35 rfl rfl (fun w hs => IsValidLinear_spec (hs.sl ha))) ?_
  refine Run.q (v := .bool (!(linOk xs n))) rfl (OpQ.y (OpY.pure rfl)) ?_
  refine Run.done ?_
  refine Run.cond (b := !(linOk xs n)) rfl (fun h6 => ?_) (fun h6 => ?_)
  · have p6 := h6; try simp only [bs] at p6
    have hok : linOk xs n = false := by simpa using p6
    have e1 : inL n xs = [] := by rw [inL, hok]; rfl
    refine Run.seq ?_
    refine Run.region ?_
    refine Run.q (v := .agg #[.slice none 0 0]) rfl (OpQ.y (OpY.build (cs := [.slice none 0 0]) (by kernel_rfl))) ?_
    refine Run.step rfl (OpStep.storeAll (us := [.slice none 0 0]) Tsize_28 rfl rfl rfl (.here _) rfl ?_)
    refine Run.q (v := .bool false) rfl (OpQ.y (OpY.pure rfl)) ?_
    refine Run.done ?_
    refine Run.ret ?_
    refine ⟨.tuple #[.agg #[.slice none 0 0], .bool false], [.own (.slice none 0 0) 3 1 ((inL n xs).length) (ints (nl (inL n xs)))], Out.cell2 (cs := [.slice none 0 0]) rfl Tagg_28 rfl (Cells.blk (.head _) ⟨rfl, trivial⟩) rfl, ((Weak.nilOwn 3 1).trans (Some'.weak (.takeEq (by first | (rw [e2, e1]; done) | (rw [e1]; rfl)) (.nil _)))), ?_⟩
    exact ⟨_, by rw [hok], rfl⟩
  · have p6 := h6; try simp only [bs] at p6
    have hok : linOk xs n = true := by simpa using p6
    obtain ⟨h1, h5, hnx, hnl, hlt, hin⟩ := lin_facts hxl hok
    obtain ⟨e1, e2, e3⟩ := inL_facts hxl hok
    have ha2 : Sl w (.slice A n c) 1 n (ints (nl (nats xs))) := by rw [hnx]; exact ha
    refine Run.skip ?_
    refine Run.seq ?_
    refine Run.region ?_
    refine Run.q (v := .agg #[.slice A n c]) rfl (OpQ.y (OpY.loadN (cs := [.slice A n c]) Tagg_28 rfl (Cells.blk (.tail _ (List.Mem.head _)) ⟨rfl, trivial⟩))) ?_
    refine Run.step rfl (OpStep.call (vs := [.agg #[.slice A n c]]) (caps := []) Tcall_77 rfl rfl (fun w hs => inverted_spec hnl h1 h5 hlt (hs.sl ha2)) ?_)
    rintro _ _ ⟨ui, rfl, rfl⟩
    show Run _ _ (putF _ _ _ (.agg #[ui])) [.own ui 3 1 n (ints (nl (cxs (idL n) (elW n (nats xs))))), .blk b2 28 [.slice none 0 0], .blk b1 28 [.slice A n c]]
    refine Run.formOwn (.head _) (fun A_ui1 c_ui1 hv hcapc_ui1 hmaxc_ui1 => ?_) (fun _ _ _ => ⟨nofun, nofun, nofun⟩)
    subst hv
    refine Run.step rfl (OpStep.storeAll (us := [.slice A_ui1 n c_ui1]) Tsize_28 rfl rfl rfl (.there _ (.here _)) rfl ?_)
    refine Run.q (v := .bool true) rfl (OpQ.y (OpY.pure rfl)) ?_
    refine Run.done ?_
    refine Run.ret ?_
    refine ⟨.tuple #[.agg #[.slice A_ui1 n c_ui1], .bool true], [.own (.slice A_ui1 n c_ui1) 3 1 ((inL n xs).length) (ints (nl (inL n xs)))], Out.cell2 (cs := [.slice A_ui1 n c_ui1]) rfl Tagg_28 rfl (Cells.blk (.tail _ (List.Mem.head _)) ⟨rfl, trivial⟩) rfl, (Some'.weak (.takeEq (by first | (rw [e2, e1]; done) | (rw [e1]; rfl)) (.nil _))), ?_⟩
    exact ⟨_, by rw [hok], rfl⟩

set_option maxHeartbeats 1000000 in
set_option maxRecDepth 20000 in
theorem through_spec {va : Value} {n x : Nat} {r : List Nat} {w : World} (hl : r.length = n) (h5 : n ≤ 5) (hb : ∀ i, nx r i < 32) (ha : Sl w va 1 n (ints (nl r))) : Calls Try.prog 78 #[.agg #[va], .int .i64 (x : Nat)] w (Post No w fun v _ => v = .int .i64 ((thF r x n : Nat) : Int)) := by
  have hnl := nl_length r
  obtain ⟨A, c, rfl, _, _⟩ := ha.form0
  refine enter (n := 26) (args := [.agg #[.slice A n c], .int .i64 (((x : Nat) : Int))]) Try.func78 rfl rfl (St.empty _ _) ?_
  refine Run.seq ?_
  refine Run.region ?_
  refine Run.step rfl (OpStep.box (us := [.slice A n c]) rfl fun b1 => ?_)
  refine Run.q (v := .int .i64 0) rfl (OpQ.y (OpY.pure rfl)) ?_
  refine Run.done ?_
  refine Run.seq ?_
  refine Run.region ?_
  refine Run.q (v := .int .i64 0) rfl (OpQ.y (OpY.pure rfl)) ?_
  refine Run.done ?_
  refine Run.seq ?_
  refine Run.seq ?_
  refine Run.region ?_
  refine Run.q (v := .pointer (some ⟨b1, 0, none⟩)) rfl (OpQ.y (OpY.fieldAddr Tfo_28_0 rfl rfl)) ?_
  refine Run.q (v := .slice A n c) rfl (OpQ.y (OpY.load1 Tone_22 rfl (Cells.blk (.head _) ⟨rfl, trivial⟩))) ?_
  refine Run.q (v := .int .i64 (((n : Nat) : Int))) rfl (OpQ.y (OpY.len Tsl_22 rfl)) ?_
  refine Run.q (v := .int .i64 0) rfl (OpQ.y (OpY.pure rfl)) ?_
  refine Run.done ?_
  refine Run.block ?_
  refine Run.loop (ι := Nat) [5, 6, 7, 11, 12, 13, 14, 15, 16, 17, 18, 19, 20, 21, 22, 23, 24] (fun q => [(5, .int .i64 (((thF r x q : Nat) : Int))), (11, .int .i64 (((q : Nat) : Int)))]) (fun q => [.blk b1 28 [.slice A n c]]) (fun q => q ≤ n ∧ (True)) (fun q => n - q) 0 ?_ ?_ ?_ ?_
  · exact ⟨Nat.zero_le _, by first | trivial | (intro i hi; omega)⟩
  · exact ⟨rfl, rfl, trivial⟩
  · exact (Some'.weak (.take (.nil _)))
  · rintro q fr hinv
    show Run _ _ (over _ _ [(5, .int .i64 (((thF r x q : Nat) : Int))), (11, .int .i64 (((q : Nat) : Int)))] fr) [.blk b1 28 [.slice A n c]]
    try dsimp only at hinv
    refine Run.seq ?_
    refine Run.region ?_
    refine Run.q (v := .bool (decide ((((q : Nat) : Int)) < (((n : Nat) : Int))))) rfl (OpQ.y (OpY.pure rfl)) ?_
    refine Run.done ?_
    refine Run.seq ?_
    refine Run.cond (b := decide ((((q : Nat) : Int)) < (((n : Nat) : Int)))) rfl (fun h12 => ?_) (fun h12 => ?_)
    · have p12 := h12; try simp only [bs] at p12
      have hltq : q < n := by omega
      obtain ⟨b, o, rfl⟩ := ha.opn (by omega)
      have hbt := thF_lt (k := 5) hb x q
      have hbq := hb q
      refine Run.skip ?_
      refine Run.seq ?_
      refine Run.block ?_
      refine Run.seq ?_
      refine Run.region ?_
      refine Run.q (v := .int .i64 (((q : Nat) : Int))) rfl (OpQ.y (OpY.pure rfl)) ?_
      refine Run.q (v := .pointer (some ⟨b, o + q, none⟩)) rfl (OpQ.y (OpY.index (kk := q) Tsl_22 rfl rfl (by omega) (by omega) (by first | rfl | omega))) ?_
      refine Run.q (v := .int .i64 (ix (nl r) (q))) rfl (OpQ.y (OpY.load1 Tone_3 rfl (Cells.arg (k := q) ha rfl (by omega) (pre1 (by omega))))) ?_
      refine Run.q (v := .int .i64 (((q : Nat) : Int))) rfl (OpQ.y (OpY.pure rfl)) ?_
      refine Run.q (v := .int .i64 (ix (nl r) (q))) rfl (OpQ.y (OpY.pure rfl)) ?_
      refine Run.done ?_
      refine Run.seq ?_
      refine Run.region ?_
      refine Run.q (v := .int .i64 (((x : Nat) : Int))) rfl (OpQ.y (OpY.pure rfl)) ?_
      refine Run.q (v := .int .i64 (((q : Nat) : Int))) rfl (OpQ.y (OpY.pure rfl)) ?_
      refine Run.q (v := .int .i64 ((((x : Nat) : Int)) >>> q)) rfl (OpQ.y (OpY.shr rfl rfl (by first | rfl | omega) (by omega))) ?_
      refine Run.q (v := .int .i64 (((((x : Nat) : Int)) >>> q) % 2)) rfl (OpQ.y (OpY.and1 rfl rfl)) ?_
      refine Run.q (v := .bool ((((((x : Nat) : Int)) >>> q) % 2) == 1)) rfl (OpQ.y (OpY.pure rfl)) ?_
      refine Run.done ?_
      refine Run.cond (b := (((((x : Nat) : Int)) >>> q) % 2) == 1) rfl (fun h20 => ?_) (fun h20 => ?_)
      · have p20 := h20; try simp only [bs] at p20
        refine Run.region ?_
        refine Run.q (v := .int .i64 (((thF r x q : Nat) : Int))) rfl (OpQ.y (OpY.pure rfl)) ?_
        refine Run.q (v := .int .i64 (ix (nl r) (q))) rfl (OpQ.y (OpY.pure rfl)) ?_
        refine Run.q (v := .int .i64 (((thF r x q ^^^ nx r q : Nat) : Int))) rfl (OpQ.y (OpY.xorNat rfl rfl rfl (ix_nl _ _) (by omega) (by omega))) ?_
        refine Run.q (v := .int .i64 (((thF r x q ^^^ nx r q : Nat) : Int))) rfl (OpQ.y (OpY.pure rfl)) ?_
        refine Run.done ?_
        refine Run.blockEnd ?_
        refine Run.region ?_
        refine Run.q (v := .int .i64 ((((q : Nat) : Int)) + 1)) rfl (OpQ.y (OpY.add rfl rfl rfl (by omega) (by omega))) ?_
        refine Run.q (v := .int .i64 ((((q : Nat) : Int)) + 1)) rfl (OpQ.y (OpY.pure rfl)) ?_
        refine Run.done ?_
        refine Run.goal ⟨(by repeat (first | exact Same.refl _ _ | refine Same.put rfl ?_ | refine Same.over rfl rfl ?_)), q + 1, ?_, ?_, ?_, ?_⟩
        · refine ⟨by omega, ?_⟩
          trivial
        · omega
        · exact ⟨(by show Value.int _ _ = Value.int _ _; first | rw [thF, if_pos (by rw [← bitI_nat]; exact bitI_true p20)] | rw [thF, if_neg (by rw [← bitI_nat, bitI_ne1 p20]; decide)]), (by first | rfl | (congr 1; omega) | simp), trivial⟩
        · exact (Some'.weak (.takeEq (by first | rfl | simp) (.nil _)))
      · have p20 := h20; try simp only [bs] at p20
        refine Run.skip ?_
        refine Run.blockEnd ?_
        refine Run.region ?_
        refine Run.q (v := .int .i64 ((((q : Nat) : Int)) + 1)) rfl (OpQ.y (OpY.add rfl rfl rfl (by omega) (by omega))) ?_
        refine Run.q (v := .int .i64 ((((q : Nat) : Int)) + 1)) rfl (OpQ.y (OpY.pure rfl)) ?_
        refine Run.done ?_
        refine Run.goal ⟨(by repeat (first | exact Same.refl _ _ | refine Same.put rfl ?_ | refine Same.over rfl rfl ?_)), q + 1, ?_, ?_, ?_, ?_⟩
        · refine ⟨by omega, ?_⟩
          trivial
        · omega
        · exact ⟨(by show Value.int _ _ = Value.int _ _; first | rw [thF, if_pos (by rw [← bitI_nat]; exact bitI_true p20)] | rw [thF, if_neg (by rw [← bitI_nat, bitI_ne1 p20]; decide)]), (by first | rfl | (congr 1; omega) | simp), trivial⟩
        · exact (Some'.weak (.takeEq (by first | rfl | simp) (.nil _)))
    · have p12 := h12; try simp only [bs] at p12
      have hknq : q = n := by omega
      refine Run.exit rfl ?_
      refine Run.seq ?_
      refine Run.region ?_
      refine Run.q (v := .int .i64 (((thF r x q : Nat) : Int))) rfl (OpQ.y (OpY.pure rfl)) ?_
      refine Run.q (v := .int .i64 (((thF r x q : Nat) : Int))) rfl (OpQ.y (OpY.pure rfl)) ?_
      refine Run.done ?_
      refine Run.ret ?_
      refine ⟨.int .i64 (((thF r x q : Nat) : Int)), [], Out.one rfl rfl, (Some'.weak (.nil _)), ?_⟩
      show _ = _; rw [hknq]

set_option maxHeartbeats 2000000 in
set_option maxRecDepth 20000 in
theorem ComposeLinear_spec {va vb : Value} {n m : Nat} {xs ys : List Int} {w : World} (ha : Sl w va 1 n (ints xs)) (hb : Sl w vb 1 m (ints ys)) : Calls Try.prog 37 #[.agg #[va], .agg #[vb]] w (Post No w fun v H => ∃ u, v = .tuple #[.agg #[u], .bool (coB n xs m ys)] ∧ H = [.own u 3 1 (coL n xs m ys).length (ints (nl (coL n xs m ys)))]) := by
  have hxl : xs.length = n := by have := ha.len; omega
  have hyl : ys.length = m := by have := hb.len; omega
  obtain ⟨A, c, rfl, _, _⟩ := ha.form0
  obtain ⟨B, d, rfl, _, _⟩ := hb.form0
  refine enter (n := 45) (args := [.agg #[.slice A n c], .agg #[.slice B m d]]) Try.func37 rfl rfl (St.empty _ _) ?_
  refine Run.seq ?_
  refine Run.region ?_
  refine Run.step rfl (OpStep.box (us := [.slice A n c]) rfl fun b1 => ?_)
  refine Run.step rfl (OpStep.box (us := [.slice B m d]) rfl fun b2 => ?_)
  refine Run.step rfl (OpStep.alloc (zs := [.slice none 0 0]) Tzero_28 fun b3 => ?_)
  refine Run.q (v := .bool false) rfl (OpQ.y (OpY.pure rfl)) ?_
  refine Run.done ?_
  refine Run.seq ?_
  refine Run.seq ?_
  refine Run.region ?_
  refine Run.q (v := .agg #[.slice A n c]) rfl (OpQ.y (OpY.loadN (cs := [.slice A n c]) Tagg_28 rfl (Cells.blk (.tail _ (.tail _ (List.Mem.head _))) ⟨rfl, trivial⟩))) ?_
  refine Run.q (v := .bool (linOk xs n)) rfl (OpQ.call (vs := [.agg #[.slice A n c]]) (caps := []) Tcall_35 rfl rfl (fun w hs => IsValidLinear_spec (hs.sl ha))) ?_
  refine Run.q (v := .bool (!(linOk xs n))) rfl (OpQ.y (OpY.pure rfl)) ?_
  rcases Bool.eq_false_or_eq_true (!(linOk xs n)) with h12 | h12
  · refine Run.q (v := .bool true) rfl (OpQ.y (OpY.moveB rfl h12)) ?_
    have p12 := h12; try simp only [bs] at p12
    refine Run.pass rfl ?_
    refine Run.pass rfl ?_
    refine Run.pass rfl ?_
    refine Run.q (v := .bool true) rfl (OpQ.y (OpY.pure rfl)) ?_
    refine Run.q (v := .bool true) rfl (OpQ.y (OpY.pure rfl)) ?_
    refine Run.pass rfl ?_
    refine Run.pass rfl ?_
    refine Run.pass rfl ?_
    refine Run.pass rfl ?_
    refine Run.pass rfl ?_
    refine Run.pass rfl ?_
    refine Run.pass rfl ?_
    refine Run.q (v := .bool true) rfl (OpQ.y (OpY.pure rfl)) ?_
    refine Run.done ?_
    refine Run.cond (b := true) rfl (fun _ => ?_) (fun h => nomatch h)
    refine Run.seq ?_
    have hB : coB n xs m ys = false := by unfold coB; simp_all <;> omega
    have hL : coL n xs m ys = [] := by rw [coL, hB]; rfl
    refine Run.region ?_
    refine Run.q (v := .agg #[.slice none 0 0]) rfl (OpQ.y (OpY.build (cs := [.slice none 0 0]) (by kernel_rfl))) ?_
    refine Run.step rfl (OpStep.storeAll (us := [.slice none 0 0]) Tsize_28 rfl rfl rfl (.here _) rfl ?_)
    refine Run.q (v := .bool false) rfl (OpQ.y (OpY.pure rfl)) ?_
    refine Run.done ?_
    refine Run.ret ?_
    refine ⟨.tuple #[.agg #[.slice none 0 0], .bool false], [.own (.slice none 0 0) 3 1 ((coL n xs m ys).length) (ints (nl (coL n xs m ys)))], Out.cell2 (cs := [.slice none 0 0]) rfl Tagg_28 rfl (Cells.blk (.head _) ⟨rfl, trivial⟩) rfl, ((Weak.nilOwn 3 1).trans (Some'.weak (.takeEq (by first | (rw [hL]; rfl) | (rw [hL, hknk, List.take_of_length_le (by omega), comp_length, gnl])) (.nil _)))), ?_⟩
    exact ⟨_, by rw [hB], rfl⟩
  · refine Run.q (v := .bool false) rfl (OpQ.y (OpY.moveB rfl h12)) ?_
    have p12 := h12; try simp only [bs] at p12
    refine Run.q (v := .agg #[.slice B m d]) rfl (OpQ.y (OpY.loadN (cs := [.slice B m d]) Tagg_28 rfl (Cells.blk (.tail _ (List.Mem.head _)) ⟨rfl, trivial⟩))) ?_
    refine Run.q (v := .bool (linOk ys m)) rfl (OpQ.call (vs := [.agg #[.slice B m d]]) (caps := []) Tcall_35 rfl rfl (fun w hs => IsValidLinear_spec (hs.sl hb))) ?_
    refine Run.q (v := .bool (!(linOk ys m))) rfl (OpQ.y (OpY.pure rfl)) ?_
    refine Run.q (v := .bool (!(linOk ys m))) rfl (OpQ.y (OpY.pure rfl)) ?_
    rcases Bool.eq_false_or_eq_true (!(linOk ys m)) with h17 | h17
    · refine Run.q (v := .bool true) rfl (OpQ.y (OpY.moveB rfl h17)) ?_
      have p17 := h17; try simp only [bs] at p17
      refine Run.pass rfl ?_
      refine Run.pass rfl ?_
      refine Run.pass rfl ?_
      refine Run.pass rfl ?_
      refine Run.pass rfl ?_
      refine Run.pass rfl ?_
      refine Run.pass rfl ?_
      refine Run.q (v := .bool true) rfl (OpQ.y (OpY.pure rfl)) ?_
      refine Run.done ?_
      refine Run.cond (b := true) rfl (fun _ => ?_) (fun h => nomatch h)
      refine Run.seq ?_
      have hB : coB n xs m ys = false := by unfold coB; simp_all <;> omega
      have hL : coL n xs m ys = [] := by rw [coL, hB]; rfl
      refine Run.region ?_
      refine Run.q (v := .agg #[.slice none 0 0]) rfl (OpQ.y (OpY.build (cs := [.slice none 0 0]) (by kernel_rfl))) ?_
      refine Run.step rfl (OpStep.storeAll (us := [.slice none 0 0]) Tsize_28 rfl rfl rfl (.here _) rfl ?_)
      refine Run.q (v := .bool false) rfl (OpQ.y (OpY.pure rfl)) ?_
      refine Run.done ?_
      refine Run.ret ?_
      refine ⟨.tuple #[.agg #[.slice none 0 0], .bool false], [.own (.slice none 0 0) 3 1 ((coL n xs m ys).length) (ints (nl (coL n xs m ys)))], Out.cell2 (cs := [.slice none 0 0]) rfl Tagg_28 rfl (Cells.blk (.head _) ⟨rfl, trivial⟩) rfl, ((Weak.nilOwn 3 1).trans (Some'.weak (.takeEq (by first | (rw [hL]; rfl) | (rw [hL, hknk, List.take_of_length_le (by omega), comp_length, gnl])) (.nil _)))), ?_⟩
      exact ⟨_, by rw [hB], rfl⟩
    · refine Run.q (v := .bool false) rfl (OpQ.y (OpY.moveB rfl h17)) ?_
      have p17 := h17; try simp only [bs] at p17
      refine Run.q (v := .pointer (some ⟨b1, 0, none⟩)) rfl (OpQ.y (OpY.fieldAddr Tfo_28_0 rfl rfl)) ?_
      refine Run.q (v := .slice A n c) rfl (OpQ.y (OpY.load1 Tone_22 rfl (Cells.blk (.tail _ (.tail _ (List.Mem.head _))) ⟨rfl, trivial⟩))) ?_
      refine Run.q (v := .int .i64 (((n : Nat) : Int))) rfl (OpQ.y (OpY.len Tsl_22 rfl)) ?_
      refine Run.q (v := .pointer (some ⟨b2, 0, none⟩)) rfl (OpQ.y (OpY.fieldAddr Tfo_28_0 rfl rfl)) ?_
      refine Run.q (v := .slice B m d) rfl (OpQ.y (OpY.load1 Tone_22 rfl (Cells.blk (.tail _ (List.Mem.head _)) ⟨rfl, trivial⟩))) ?_
      refine Run.q (v := .int .i64 (((m : Nat) : Int))) rfl (OpQ.y (OpY.len Tsl_22 rfl)) ?_
      refine Run.q (v := .bool ((((n : Nat) : Int)) != (((m : Nat) : Int)))) rfl (OpQ.y (OpY.pure rfl)) ?_
      refine Run.q (v := .bool ((((n : Nat) : Int)) != (((m : Nat) : Int)))) rfl (OpQ.y (OpY.pure rfl)) ?_
      refine Run.done ?_
      refine Run.cond (b := (((n : Nat) : Int)) != (((m : Nat) : Int))) rfl (fun h25 => ?_) (fun h25 => ?_)
      · have p25 := h25; try simp only [bs] at p25
        refine Run.seq ?_
        have hB : coB n xs m ys = false := by unfold coB; simp_all <;> omega
        have hL : coL n xs m ys = [] := by rw [coL, hB]; rfl
        refine Run.region ?_
        refine Run.q (v := .agg #[.slice none 0 0]) rfl (OpQ.y (OpY.build (cs := [.slice none 0 0]) (by kernel_rfl))) ?_
        refine Run.step rfl (OpStep.storeAll (us := [.slice none 0 0]) Tsize_28 rfl rfl rfl (.here _) rfl ?_)
        refine Run.q (v := .bool false) rfl (OpQ.y (OpY.pure rfl)) ?_
        refine Run.done ?_
        refine Run.ret ?_
        refine ⟨.tuple #[.agg #[.slice none 0 0], .bool false], [.own (.slice none 0 0) 3 1 ((coL n xs m ys).length) (ints (nl (coL n xs m ys)))], Out.cell2 (cs := [.slice none 0 0]) rfl Tagg_28 rfl (Cells.blk (.head _) ⟨rfl, trivial⟩) rfl, ((Weak.nilOwn 3 1).trans (Some'.weak (.takeEq (by first | (rw [hL]; rfl) | (rw [hL, hknk, List.take_of_length_le (by omega), comp_length, gnl])) (.nil _)))), ?_⟩
        exact ⟨_, by rw [hB], rfl⟩
      · have p25 := h25; try simp only [bs] at p25
        have hok1 : linOk xs n = true := by simp_all
        have hok2 : linOk ys m = true := by simp_all
        have hnm : n = m := by simp_all <;> omega
        obtain ⟨h1, h5, hnx, hnl, hlt, hin⟩ := lin_facts hxl hok1
        obtain ⟨g1, g5, gnx, gnl, glt, gin⟩ := lin_facts hyl hok2
        have hx32 := lt32 h5 hlt
        have hB : coB n xs m ys = true := by rw [coB, hok1, hok2, decide_eq_true hnm]; rfl
        have hL : coL n xs m ys = comp (nats xs) (nats ys) := if_pos hB
        have ha2 : Sl w (.slice A n c) 1 n (ints (nl (nats xs))) := by rw [hnx]; exact ha
        refine Run.skip ?_
        refine Run.seq ?_
        refine Run.region ?_
        refine Run.q (v := .agg #[.slice none 0 0]) rfl (OpQ.y (OpY.build (cs := [.slice none 0 0]) (by kernel_rfl))) ?_
        refine Run.step rfl (OpStep.alloc (zs := [.slice none 0 0]) Tzero_28 fun b4 => ?_)
        refine Run.step rfl (OpStep.storeAll (us := [.slice none 0 0]) Tsize_28 rfl rfl rfl (.here _) rfl ?_)
        refine Run.done ?_
        refine Run.weak (H' := [.own (.slice none 0 0) 3 1 0 ([]), .blk b4 28 [.slice none 0 0], .blk b3 28 [.slice none 0 0], .blk b2 28 [.slice B m d], .blk b1 28 [.slice A n c]]) (Weak.nilOwn _ _) ?_ ⟨_, _, rfl, fun _ => nofun, fun _ => nofun⟩
        refine Run.seq ?_
        refine Run.seq ?_
        refine Run.region ?_
        refine Run.q (v := .pointer (some ⟨b2, 0, none⟩)) rfl (OpQ.y (OpY.fieldAddr Tfo_28_0 rfl rfl)) ?_
        refine Run.q (v := .slice B m d) rfl (OpQ.y (OpY.load1 Tone_22 rfl (Cells.blk (.tail _ (.tail _ (.tail _ (List.Mem.head _)))) ⟨rfl, trivial⟩))) ?_
        refine Run.q (v := .int .i64 (((m : Nat) : Int))) rfl (OpQ.y (OpY.len Tsl_22 rfl)) ?_
        refine Run.q (v := .int .i64 0) rfl (OpQ.y (OpY.pure rfl)) ?_
        refine Run.done ?_
        refine Run.block ?_
        refine Run.loop (ι := Nat × Value) [8, 31, 32, 33, 34, 35, 36, 37, 38, 39, 40, 41, 42, 43] (fun ⟨k, vo⟩ => [(31, .int .i64 (((k : Nat) : Int)))]) (fun ⟨k, vo⟩ => [.own vo 3 1 k (ints (nl (comp (nats xs) ((nats ys).take k)))), .blk b4 28 [vo], .blk b3 28 [.slice none 0 0], .blk b2 28 [.slice B m d], .blk b1 28 [.slice A n c]]) (fun ⟨k, vo⟩ => k ≤ m) (fun ⟨k, vo⟩ => m - k) (0, .slice none 0 0) ?_ ?_ ?_ ?_
        · exact Nat.zero_le _
        · exact ⟨rfl, trivial⟩
        · exact ((((((Weak.front [.own (.slice none 0 0) 3 1 0 ([]), .blk b4 28 [.slice none 0 0], .blk b3 28 [.slice none 0 0], .blk b2 28 [.slice B m d]] (.blk b1 28 [.slice A n c]) []).trans (Weak.front [.blk b1 28 [.slice A n c], .own (.slice none 0 0) 3 1 0 ([]), .blk b4 28 [.slice none 0 0], .blk b3 28 [.slice none 0 0]] (.blk b2 28 [.slice B m d]) [])).trans (Weak.front [.blk b2 28 [.slice B m d], .blk b1 28 [.slice A n c], .own (.slice none 0 0) 3 1 0 ([]), .blk b4 28 [.slice none 0 0]] (.blk b3 28 [.slice none 0 0]) [])).trans (Weak.front [.blk b3 28 [.slice none 0 0], .blk b2 28 [.slice B m d], .blk b1 28 [.slice A n c], .own (.slice none 0 0) 3 1 0 ([])] (.blk b4 28 [.slice none 0 0]) [])).trans (Weak.front [.blk b4 28 [.slice none 0 0], .blk b3 28 [.slice none 0 0], .blk b2 28 [.slice B m d], .blk b1 28 [.slice A n c]] (.own (.slice none 0 0) 3 1 0 ([])) [])).trans (Some'.weak (.takeEq (by first | rfl | simp [comp, nl, ints]) (.takeEq (by first | rfl | simp [comp, nl, ints]) (.take (.take (.take (.nil _))))))))
        · rintro ⟨k, vo⟩ fr hinv
          show Run _ _ (over _ _ [(31, .int .i64 (((k : Nat) : Int)))] fr) [.own vo 3 1 k (ints (nl (comp (nats xs) ((nats ys).take k)))), .blk b4 28 [vo], .blk b3 28 [.slice none 0 0], .blk b2 28 [.slice B m d], .blk b1 28 [.slice A n c]]
          try dsimp only at hinv
          refine Run.seq ?_
          refine Run.region ?_
          refine Run.q (v := .bool (decide ((((k : Nat) : Int)) < (((m : Nat) : Int))))) rfl (OpQ.y (OpY.pure rfl)) ?_
          refine Run.done ?_
          refine Run.seq ?_
          refine Run.cond (b := decide ((((k : Nat) : Int)) < (((m : Nat) : Int)))) rfl (fun h32 => ?_) (fun h32 => ?_)
          · have p32 := h32; try simp only [bs] at p32
            have hltk : k < m := by omega
            obtain ⟨bb, ob, rfl⟩ := hb.opn (by omega)
            have hyk : ix ys k = ((nx (nats ys) k : Nat) : Int) := by rw [← ix_nl, gnx]
            refine Run.skip ?_
            refine Run.seq ?_
            refine Run.block ?_
            refine Run.seq ?_
            refine Run.region ?_
            refine Run.q (v := .pointer (some ⟨bb, ob + k, none⟩)) rfl (OpQ.y (OpY.index (kk := k) Tsl_22 rfl rfl (by omega) (by omega) (by first | rfl | omega))) ?_
            refine Run.q (v := .int .i64 (ix ys (k))) rfl (OpQ.y (OpY.load1 Tone_3 rfl (Cells.arg (k := k) hb rfl (by omega) (pre1 (by omega))))) ?_
            refine Run.q (v := .int .i64 (ix ys (k))) rfl (OpQ.y (OpY.pure rfl)) ?_
            refine Run.done ?_
            refine Run.heldB (base := [.blk b3 28 [.slice none 0 0], .blk b2 28 [.slice (some ⟨bb, ob, none⟩) m d], .blk b1 28 [.slice A n c]]) (by kernel_rfl) ?_
            refine DW.take (i := 0) (v := .pointer (some ⟨b4, 0, none⟩)) rfl (by kernel_rfl) (by kernel_rfl) (by kernel_rfl) (fun _ _ _ h => h) (Some'.weak (.skip (.skip (.take (.take (.take (.nil _))))))) rfl (OpY.fieldAddr Tfo_28_0 rfl rfl) ?_
            refine DW.take (i := 2) (v := .agg #[.slice A n c]) rfl (by kernel_rfl) (by kernel_rfl) (by kernel_rfl) (fun _ _ _ h => h) (Some'.weak (.skip (.skip (.take (.take (.take (.nil _))))))) rfl (OpY.loadN (cs := [.slice A n c]) Tagg_28 rfl (Cells.blk (.tail _ (.tail _ (List.Mem.head _))) ⟨rfl, trivial⟩)) ?_
            refine DW.take (i := 3) (v := .int .i64 (ix ys (k))) rfl (by kernel_rfl) (by kernel_rfl) (by kernel_rfl) (fun _ _ _ h => h) (Some'.weak (.skip (.skip (.take (.take (.take (.nil _))))))) rfl (OpY.pure rfl) ?_
            refine DW.two (i := 1) (j := 4) (by kernel_rfl) rfl rfl rfl rfl ?_ ?_
            · refine OpStep.q (v := vo) (OpQ.y (OpY.load1 Tone_22 rfl (Cells.blk (.tail _ (List.Mem.head _)) ⟨rfl, trivial⟩))) ?_
              refine ⟨(Some'.weak (.skip (.skip (.take (.take (.take (.nil _))))))), ?_⟩
              refine DW.step (i := 4) (by kernel_rfl) rfl rfl (OpStep.q (v := .int .i64 (((thF (nats xs) (nx (nats ys) k) n : Nat) : Int))) (OpQ.call (vs := [.agg #[.slice A n c], .int .i64 (ix ys (k))]) (caps := []) Tcall_78 rfl rfl (fun w hs => (by have h := through_spec (x := nx (nats ys) k) hnl h5 hx32 (hs.sl ha2); rw [← hyk] at h; exact h))) ?_)
              refine ⟨(Some'.weak (.skip (.skip (.take (.take (.take (.nil _))))))), ?_⟩
              refine DW.step (i := 5) (by kernel_rfl) rfl rfl (OpStep.buildSlice (us := [.int .i64 (((thF (nats xs) (nx (nats ys) k) n : Nat) : Int))]) Tsl_22 (by decide) (by decide) ⟨rfl, [.int .i64 (((thF (nats xs) (nx (nats ys) k) n : Nat) : Int))], _, rfl, rfl, rfl, rfl⟩ rfl fun b5 => ?_)
              refine ⟨(Some'.weak (.skip (.skip (.skip (.take (.take (.take (.nil _)))))))), ?_⟩
              refine DW.step (i := 6) (by kernel_rfl) rfl rfl (OpStep.append (H1 := [.own (.slice (some ⟨b5, 0, none⟩) 1 1) 3 1 1 ([.int .i64 (((thF (nats xs) (nx (nats ys) k) n : Nat) : Int))])]) (H2 := [.blk b4 28 [vo], .blk b3 28 [.slice none 0 0], .blk b2 28 [.slice (some ⟨bb, ob, none⟩) m d], .blk b1 28 [.slice A n c]]) (v := vo) (u := .slice (some ⟨b5, 0, none⟩) 1 1) (n := k) (m := 1) (xs := ints (nl (comp (nats xs) ((nats ys).take k)))) (ys := [.int .i64 (((thF (nats xs) (nx (nats ys) k) n : Nat) : Int))]) Tsl_22 (by decide) rfl rfl rfl rfl (fun w hs => hs.slOwn (.head _)) (by simp [Value.oneCell']) (by omega) (by simp only [maxLen]; omega) fun av1 hnav1 => ?_)
              refine DW.weakS (H' := [.own (.slice (some ⟨b5, 0, none⟩) 1 1) 3 1 1 ([.int .i64 (((thF (nats xs) (nx (nats ys) k) n : Nat) : Int))]), .own av1 3 1 (k + 1) (ints (nl (comp (nats xs) ((nats ys).take (k + 1))))), .blk b4 28 [vo], .blk b3 28 [.slice none 0 0], .blk b2 28 [.slice (some ⟨bb, ob, none⟩) m d], .blk b1 28 [.slice A n c]]) (Some'.weak (.take (.takeEq (by rw [comp_take (by omega), hnl, ints_nl_snoc]) (.take (.take (.take (.take (.nil _)))))))) ?_
              refine ⟨(Some'.weak (.skip (.skip (.skip (.take (.take (.take (.nil _)))))))), ?_⟩
              refine DW.take (i := 7) (v := .pointer (some ⟨b4, 0, none⟩)) rfl (by kernel_rfl) (by kernel_rfl) (by kernel_rfl) (fun _ _ _ h => h) (Some'.weak (.skip (.skip (.skip (.take (.take (.take (.nil _)))))))) rfl (OpY.fieldAddr Tfo_28_0 rfl rfl) ?_
              refine DW.formOwn (.tail _ (List.Mem.head _)) (fun A_av11 c_av11 hv hcapc_av11 hmaxc_av11 => ?_)
              subst hv
              refine DW.step (i := 8) (by kernel_rfl) rfl rfl (OpStep.storeAll (us := [.slice A_av11 (k + 1) c_av11]) Tsize_22 rfl rfl rfl (.there _ (.there _ (.here _))) rfl ?_)
              refine ⟨(Some'.weak (.skip (.skip (.skip (.take (.take (.take (.nil _)))))))), ?_⟩
              refine DW.done (by kernel_rfl) ?_
              refine Run.blockEnd ?_
              refine Run.region ?_
              refine Run.q (v := .int .i64 ((((k : Nat) : Int)) + 1)) rfl (OpQ.y (OpY.add rfl rfl rfl (by omega) (by omega))) ?_
              refine Run.q (v := .int .i64 ((((k : Nat) : Int)) + 1)) rfl (OpQ.y (OpY.pure rfl)) ?_
              refine Run.done ?_
              refine Run.goal ⟨(by repeat (first | exact Same.refl _ _ | refine Same.put rfl ?_ | refine Same.over rfl rfl ?_)), (k + 1, .slice A_av11 (k + 1) c_av11), ?_, ?_, ?_, ?_⟩
              · exact hltk
              · show m - (k + 1) < m - k; omega
              · exact ⟨(by first | rfl | (congr 1; omega) | simp), trivial⟩
              · exact ((((((Weak.front [.own (.slice (some ⟨b5, 0, none⟩) 1 1) 3 1 1 ([.int .i64 (((thF (nats xs) (nx (nats ys) k) n : Nat) : Int))]), .own (.slice A_av11 (k + 1) c_av11) 3 1 (k + 1) (ints (nl (comp (nats xs) ((nats ys).take (k + 1))))), .blk b4 28 [.slice A_av11 (k + 1) c_av11], .blk b3 28 [.slice none 0 0], .blk b2 28 [.slice (some ⟨bb, ob, none⟩) m d]] (.blk b1 28 [.slice A n c]) []).trans (Weak.front [.blk b1 28 [.slice A n c], .own (.slice (some ⟨b5, 0, none⟩) 1 1) 3 1 1 ([.int .i64 (((thF (nats xs) (nx (nats ys) k) n : Nat) : Int))]), .own (.slice A_av11 (k + 1) c_av11) 3 1 (k + 1) (ints (nl (comp (nats xs) ((nats ys).take (k + 1))))), .blk b4 28 [.slice A_av11 (k + 1) c_av11], .blk b3 28 [.slice none 0 0]] (.blk b2 28 [.slice (some ⟨bb, ob, none⟩) m d]) [])).trans (Weak.front [.blk b2 28 [.slice (some ⟨bb, ob, none⟩) m d], .blk b1 28 [.slice A n c], .own (.slice (some ⟨b5, 0, none⟩) 1 1) 3 1 1 ([.int .i64 (((thF (nats xs) (nx (nats ys) k) n : Nat) : Int))]), .own (.slice A_av11 (k + 1) c_av11) 3 1 (k + 1) (ints (nl (comp (nats xs) ((nats ys).take (k + 1))))), .blk b4 28 [.slice A_av11 (k + 1) c_av11]] (.blk b3 28 [.slice none 0 0]) [])).trans (Weak.front [.blk b3 28 [.slice none 0 0], .blk b2 28 [.slice (some ⟨bb, ob, none⟩) m d], .blk b1 28 [.slice A n c], .own (.slice (some ⟨b5, 0, none⟩) 1 1) 3 1 1 ([.int .i64 (((thF (nats xs) (nx (nats ys) k) n : Nat) : Int))]), .own (.slice A_av11 (k + 1) c_av11) 3 1 (k + 1) (ints (nl (comp (nats xs) ((nats ys).take (k + 1)))))] (.blk b4 28 [.slice A_av11 (k + 1) c_av11]) [])).trans (Weak.front [.blk b4 28 [.slice A_av11 (k + 1) c_av11], .blk b3 28 [.slice none 0 0], .blk b2 28 [.slice (some ⟨bb, ob, none⟩) m d], .blk b1 28 [.slice A n c], .own (.slice (some ⟨b5, 0, none⟩) 1 1) 3 1 1 ([.int .i64 (((thF (nats xs) (nx (nats ys) k) n : Nat) : Int))])] (.own (.slice A_av11 (k + 1) c_av11) 3 1 (k + 1) (ints (nl (comp (nats xs) ((nats ys).take (k + 1)))))) [])).trans (Some'.weak (.takeEq (by first | rfl | simp [comp, nl, ints]) (.takeEq (by first | rfl | simp [comp, nl, ints]) (.take (.takeEq (by first | rfl | simp [comp, nl, ints]) (.take (.nil _))))))))
            · refine OpStep.q (v := .int .i64 (((thF (nats xs) (nx (nats ys) k) n : Nat) : Int))) (OpQ.call (vs := [.agg #[.slice A n c], .int .i64 (ix ys (k))]) (caps := []) Tcall_78 rfl rfl (fun w hs => (by have h := through_spec (x := nx (nats ys) k) hnl h5 hx32 (hs.sl ha2); rw [← hyk] at h; exact h))) ?_
              refine ⟨(Some'.weak (.skip (.skip (.take (.take (.take (.nil _))))))), ?_⟩
              refine DW.two (i := 1) (j := 5) (by kernel_rfl) rfl rfl rfl rfl ?_ ?_
              · refine OpStep.q (v := vo) (OpQ.y (OpY.load1 Tone_22 rfl (Cells.blk (.tail _ (List.Mem.head _)) ⟨rfl, trivial⟩))) ?_
                refine ⟨(Some'.weak (.skip (.skip (.take (.take (.take (.nil _))))))), ?_⟩
                refine DW.step (i := 5) (by kernel_rfl) rfl rfl (OpStep.buildSlice (us := [.int .i64 (((thF (nats xs) (nx (nats ys) k) n : Nat) : Int))]) Tsl_22 (by decide) (by decide) ⟨rfl, [.int .i64 (((thF (nats xs) (nx (nats ys) k) n : Nat) : Int))], _, rfl, rfl, rfl, rfl⟩ rfl fun b6 => ?_)
                refine ⟨(Some'.weak (.skip (.skip (.skip (.take (.take (.take (.nil _)))))))), ?_⟩
                refine DW.step (i := 6) (by kernel_rfl) rfl rfl (OpStep.append (H1 := [.own (.slice (some ⟨b6, 0, none⟩) 1 1) 3 1 1 ([.int .i64 (((thF (nats xs) (nx (nats ys) k) n : Nat) : Int))])]) (H2 := [.blk b4 28 [vo], .blk b3 28 [.slice none 0 0], .blk b2 28 [.slice (some ⟨bb, ob, none⟩) m d], .blk b1 28 [.slice A n c]]) (v := vo) (u := .slice (some ⟨b6, 0, none⟩) 1 1) (n := k) (m := 1) (xs := ints (nl (comp (nats xs) ((nats ys).take k)))) (ys := [.int .i64 (((thF (nats xs) (nx (nats ys) k) n : Nat) : Int))]) Tsl_22 (by decide) rfl rfl rfl rfl (fun w hs => hs.slOwn (.head _)) (by simp [Value.oneCell']) (by omega) (by simp only [maxLen]; omega) fun av2 hnav2 => ?_)
                refine DW.weakS (H' := [.own (.slice (some ⟨b6, 0, none⟩) 1 1) 3 1 1 ([.int .i64 (((thF (nats xs) (nx (nats ys) k) n : Nat) : Int))]), .own av2 3 1 (k + 1) (ints (nl (comp (nats xs) ((nats ys).take (k + 1))))), .blk b4 28 [vo], .blk b3 28 [.slice none 0 0], .blk b2 28 [.slice (some ⟨bb, ob, none⟩) m d], .blk b1 28 [.slice A n c]]) (Some'.weak (.take (.takeEq (by rw [comp_take (by omega), hnl, ints_nl_snoc]) (.take (.take (.take (.take (.nil _)))))))) ?_
                refine ⟨(Some'.weak (.skip (.skip (.skip (.take (.take (.take (.nil _)))))))), ?_⟩
                refine DW.take (i := 7) (v := .pointer (some ⟨b4, 0, none⟩)) rfl (by kernel_rfl) (by kernel_rfl) (by kernel_rfl) (fun _ _ _ h => h) (Some'.weak (.skip (.skip (.skip (.take (.take (.take (.nil _)))))))) rfl (OpY.fieldAddr Tfo_28_0 rfl rfl) ?_
                refine DW.formOwn (.tail _ (List.Mem.head _)) (fun A_av21 c_av21 hv hcapc_av21 hmaxc_av21 => ?_)
                subst hv
                refine DW.step (i := 8) (by kernel_rfl) rfl rfl (OpStep.storeAll (us := [.slice A_av21 (k + 1) c_av21]) Tsize_22 rfl rfl rfl (.there _ (.there _ (.here _))) rfl ?_)
                refine ⟨(Some'.weak (.skip (.skip (.skip (.take (.take (.take (.nil _)))))))), ?_⟩
                refine DW.done (by kernel_rfl) ?_
                refine Run.blockEnd ?_
                refine Run.region ?_
                refine Run.q (v := .int .i64 ((((k : Nat) : Int)) + 1)) rfl (OpQ.y (OpY.add rfl rfl rfl (by omega) (by omega))) ?_
                refine Run.q (v := .int .i64 ((((k : Nat) : Int)) + 1)) rfl (OpQ.y (OpY.pure rfl)) ?_
                refine Run.done ?_
                refine Run.goal ⟨(by repeat (first | exact Same.refl _ _ | refine Same.put rfl ?_ | refine Same.over rfl rfl ?_)), (k + 1, .slice A_av21 (k + 1) c_av21), ?_, ?_, ?_, ?_⟩
                · exact hltk
                · show m - (k + 1) < m - k; omega
                · exact ⟨(by first | rfl | (congr 1; omega) | simp), trivial⟩
                · exact ((((((Weak.front [.own (.slice (some ⟨b6, 0, none⟩) 1 1) 3 1 1 ([.int .i64 (((thF (nats xs) (nx (nats ys) k) n : Nat) : Int))]), .own (.slice A_av21 (k + 1) c_av21) 3 1 (k + 1) (ints (nl (comp (nats xs) ((nats ys).take (k + 1))))), .blk b4 28 [.slice A_av21 (k + 1) c_av21], .blk b3 28 [.slice none 0 0], .blk b2 28 [.slice (some ⟨bb, ob, none⟩) m d]] (.blk b1 28 [.slice A n c]) []).trans (Weak.front [.blk b1 28 [.slice A n c], .own (.slice (some ⟨b6, 0, none⟩) 1 1) 3 1 1 ([.int .i64 (((thF (nats xs) (nx (nats ys) k) n : Nat) : Int))]), .own (.slice A_av21 (k + 1) c_av21) 3 1 (k + 1) (ints (nl (comp (nats xs) ((nats ys).take (k + 1))))), .blk b4 28 [.slice A_av21 (k + 1) c_av21], .blk b3 28 [.slice none 0 0]] (.blk b2 28 [.slice (some ⟨bb, ob, none⟩) m d]) [])).trans (Weak.front [.blk b2 28 [.slice (some ⟨bb, ob, none⟩) m d], .blk b1 28 [.slice A n c], .own (.slice (some ⟨b6, 0, none⟩) 1 1) 3 1 1 ([.int .i64 (((thF (nats xs) (nx (nats ys) k) n : Nat) : Int))]), .own (.slice A_av21 (k + 1) c_av21) 3 1 (k + 1) (ints (nl (comp (nats xs) ((nats ys).take (k + 1))))), .blk b4 28 [.slice A_av21 (k + 1) c_av21]] (.blk b3 28 [.slice none 0 0]) [])).trans (Weak.front [.blk b3 28 [.slice none 0 0], .blk b2 28 [.slice (some ⟨bb, ob, none⟩) m d], .blk b1 28 [.slice A n c], .own (.slice (some ⟨b6, 0, none⟩) 1 1) 3 1 1 ([.int .i64 (((thF (nats xs) (nx (nats ys) k) n : Nat) : Int))]), .own (.slice A_av21 (k + 1) c_av21) 3 1 (k + 1) (ints (nl (comp (nats xs) ((nats ys).take (k + 1)))))] (.blk b4 28 [.slice A_av21 (k + 1) c_av21]) [])).trans (Weak.front [.blk b4 28 [.slice A_av21 (k + 1) c_av21], .blk b3 28 [.slice none 0 0], .blk b2 28 [.slice (some ⟨bb, ob, none⟩) m d], .blk b1 28 [.slice A n c], .own (.slice (some ⟨b6, 0, none⟩) 1 1) 3 1 1 ([.int .i64 (((thF (nats xs) (nx (nats ys) k) n : Nat) : Int))])] (.own (.slice A_av21 (k + 1) c_av21) 3 1 (k + 1) (ints (nl (comp (nats xs) ((nats ys).take (k + 1)))))) [])).trans (Some'.weak (.takeEq (by first | rfl | simp [comp, nl, ints]) (.takeEq (by first | rfl | simp [comp, nl, ints]) (.take (.takeEq (by first | rfl | simp [comp, nl, ints]) (.take (.nil _))))))))
              · refine OpStep.buildSlice (us := [.int .i64 (((thF (nats xs) (nx (nats ys) k) n : Nat) : Int))]) Tsl_22 (by decide) (by decide) ⟨rfl, [.int .i64 (((thF (nats xs) (nx (nats ys) k) n : Nat) : Int))], _, rfl, rfl, rfl, rfl⟩ rfl fun b7 => ?_
                refine ⟨(Some'.weak (.skip (.skip (.skip (.take (.take (.take (.nil _)))))))), ?_⟩
                refine DW.step (i := 1) (by kernel_rfl) rfl rfl (OpStep.q (v := vo) (OpQ.y (OpY.load1 Tone_22 rfl (Cells.blk (.tail _ (.tail _ (List.Mem.head _))) ⟨rfl, trivial⟩))) ?_)
                refine ⟨(Some'.weak (.skip (.skip (.skip (.take (.take (.take (.nil _)))))))), ?_⟩
                refine DW.step (i := 6) (by kernel_rfl) rfl rfl (OpStep.append (H1 := [.own (.slice (some ⟨b7, 0, none⟩) 1 1) 3 1 1 ([.int .i64 (((thF (nats xs) (nx (nats ys) k) n : Nat) : Int))])]) (H2 := [.blk b4 28 [vo], .blk b3 28 [.slice none 0 0], .blk b2 28 [.slice (some ⟨bb, ob, none⟩) m d], .blk b1 28 [.slice A n c]]) (v := vo) (u := .slice (some ⟨b7, 0, none⟩) 1 1) (n := k) (m := 1) (xs := ints (nl (comp (nats xs) ((nats ys).take k)))) (ys := [.int .i64 (((thF (nats xs) (nx (nats ys) k) n : Nat) : Int))]) Tsl_22 (by decide) rfl rfl rfl rfl (fun w hs => hs.slOwn (.head _)) (by simp [Value.oneCell']) (by omega) (by simp only [maxLen]; omega) fun av3 hnav3 => ?_)
                refine DW.weakS (H' := [.own (.slice (some ⟨b7, 0, none⟩) 1 1) 3 1 1 ([.int .i64 (((thF (nats xs) (nx (nats ys) k) n : Nat) : Int))]), .own av3 3 1 (k + 1) (ints (nl (comp (nats xs) ((nats ys).take (k + 1))))), .blk b4 28 [vo], .blk b3 28 [.slice none 0 0], .blk b2 28 [.slice (some ⟨bb, ob, none⟩) m d], .blk b1 28 [.slice A n c]]) (Some'.weak (.take (.takeEq (by rw [comp_take (by omega), hnl, ints_nl_snoc]) (.take (.take (.take (.take (.nil _)))))))) ?_
                refine ⟨(Some'.weak (.skip (.skip (.skip (.take (.take (.take (.nil _)))))))), ?_⟩
                refine DW.take (i := 7) (v := .pointer (some ⟨b4, 0, none⟩)) rfl (by kernel_rfl) (by kernel_rfl) (by kernel_rfl) (fun _ _ _ h => h) (Some'.weak (.skip (.skip (.skip (.take (.take (.take (.nil _)))))))) rfl (OpY.fieldAddr Tfo_28_0 rfl rfl) ?_
                refine DW.formOwn (.tail _ (List.Mem.head _)) (fun A_av31 c_av31 hv hcapc_av31 hmaxc_av31 => ?_)
                subst hv
                refine DW.step (i := 8) (by kernel_rfl) rfl rfl (OpStep.storeAll (us := [.slice A_av31 (k + 1) c_av31]) Tsize_22 rfl rfl rfl (.there _ (.there _ (.here _))) rfl ?_)
                refine ⟨(Some'.weak (.skip (.skip (.skip (.take (.take (.take (.nil _)))))))), ?_⟩
                refine DW.done (by kernel_rfl) ?_
                refine Run.blockEnd ?_
                refine Run.region ?_
                refine Run.q (v := .int .i64 ((((k : Nat) : Int)) + 1)) rfl (OpQ.y (OpY.add rfl rfl rfl (by omega) (by omega))) ?_
                refine Run.q (v := .int .i64 ((((k : Nat) : Int)) + 1)) rfl (OpQ.y (OpY.pure rfl)) ?_
                refine Run.done ?_
                refine Run.goal ⟨(by repeat (first | exact Same.refl _ _ | refine Same.put rfl ?_ | refine Same.over rfl rfl ?_)), (k + 1, .slice A_av31 (k + 1) c_av31), ?_, ?_, ?_, ?_⟩
                · exact hltk
                · show m - (k + 1) < m - k; omega
                · exact ⟨(by first | rfl | (congr 1; omega) | simp), trivial⟩
                · exact ((((((Weak.front [.own (.slice (some ⟨b7, 0, none⟩) 1 1) 3 1 1 ([.int .i64 (((thF (nats xs) (nx (nats ys) k) n : Nat) : Int))]), .own (.slice A_av31 (k + 1) c_av31) 3 1 (k + 1) (ints (nl (comp (nats xs) ((nats ys).take (k + 1))))), .blk b4 28 [.slice A_av31 (k + 1) c_av31], .blk b3 28 [.slice none 0 0], .blk b2 28 [.slice (some ⟨bb, ob, none⟩) m d]] (.blk b1 28 [.slice A n c]) []).trans (Weak.front [.blk b1 28 [.slice A n c], .own (.slice (some ⟨b7, 0, none⟩) 1 1) 3 1 1 ([.int .i64 (((thF (nats xs) (nx (nats ys) k) n : Nat) : Int))]), .own (.slice A_av31 (k + 1) c_av31) 3 1 (k + 1) (ints (nl (comp (nats xs) ((nats ys).take (k + 1))))), .blk b4 28 [.slice A_av31 (k + 1) c_av31], .blk b3 28 [.slice none 0 0]] (.blk b2 28 [.slice (some ⟨bb, ob, none⟩) m d]) [])).trans (Weak.front [.blk b2 28 [.slice (some ⟨bb, ob, none⟩) m d], .blk b1 28 [.slice A n c], .own (.slice (some ⟨b7, 0, none⟩) 1 1) 3 1 1 ([.int .i64 (((thF (nats xs) (nx (nats ys) k) n : Nat) : Int))]), .own (.slice A_av31 (k + 1) c_av31) 3 1 (k + 1) (ints (nl (comp (nats xs) ((nats ys).take (k + 1))))), .blk b4 28 [.slice A_av31 (k + 1) c_av31]] (.blk b3 28 [.slice none 0 0]) [])).trans (Weak.front [.blk b3 28 [.slice none 0 0], .blk b2 28 [.slice (some ⟨bb, ob, none⟩) m d], .blk b1 28 [.slice A n c], .own (.slice (some ⟨b7, 0, none⟩) 1 1) 3 1 1 ([.int .i64 (((thF (nats xs) (nx (nats ys) k) n : Nat) : Int))]), .own (.slice A_av31 (k + 1) c_av31) 3 1 (k + 1) (ints (nl (comp (nats xs) ((nats ys).take (k + 1)))))] (.blk b4 28 [.slice A_av31 (k + 1) c_av31]) [])).trans (Weak.front [.blk b4 28 [.slice A_av31 (k + 1) c_av31], .blk b3 28 [.slice none 0 0], .blk b2 28 [.slice (some ⟨bb, ob, none⟩) m d], .blk b1 28 [.slice A n c], .own (.slice (some ⟨b7, 0, none⟩) 1 1) 3 1 1 ([.int .i64 (((thF (nats xs) (nx (nats ys) k) n : Nat) : Int))])] (.own (.slice A_av31 (k + 1) c_av31) 3 1 (k + 1) (ints (nl (comp (nats xs) ((nats ys).take (k + 1)))))) [])).trans (Some'.weak (.takeEq (by first | rfl | simp [comp, nl, ints]) (.takeEq (by first | rfl | simp [comp, nl, ints]) (.take (.takeEq (by first | rfl | simp [comp, nl, ints]) (.take (.nil _))))))))
          · have p32 := h32; try simp only [bs] at p32
            have hknk : k = m := by omega
            refine Run.exit rfl ?_
            refine Run.seq ?_
            refine Run.region ?_
            refine Run.q (v := .agg #[vo]) rfl (OpQ.y (OpY.loadN (cs := [vo]) Tagg_28 rfl (Cells.blk (.tail _ (List.Mem.head _)) ⟨rfl, trivial⟩))) ?_
            refine Run.formOwn (.head _) (fun A_vo1 c_vo1 hv hcapc_vo1 hmaxc_vo1 => ?_) (fun _ _ _ => ⟨nofun, nofun, nofun⟩)
            subst hv
            refine Run.step rfl (OpStep.storeAll (us := [.slice A_vo1 k c_vo1]) Tsize_28 rfl rfl rfl (.there _ (.there _ (.here _))) rfl ?_)
            refine Run.q (v := .bool true) rfl (OpQ.y (OpY.pure rfl)) ?_
            refine Run.done ?_
            refine Run.ret ?_
            refine ⟨.tuple #[.agg #[.slice A_vo1 k c_vo1], .bool true], [.own (.slice A_vo1 k c_vo1) 3 1 ((coL n xs m ys).length) (ints (nl (coL n xs m ys)))], Out.cell2 (cs := [.slice A_vo1 k c_vo1]) rfl Tagg_28 rfl (Cells.blk (.tail _ (.tail _ (List.Mem.head _))) ⟨rfl, trivial⟩) rfl, (Some'.weak (.takeEq (by first | (rw [hL]; rfl) | (rw [hL, hknk, List.take_of_length_le (by omega), comp_length, gnl])) (.nil _))), ?_⟩
            exact ⟨_, by rw [hB], rfl⟩

set_option maxHeartbeats 1000000 in
set_option maxRecDepth 20000 in
theorem IdentityLinear_spec {n : Nat} (h1 : 1 ≤ n) (h5 : n ≤ 5) (w : World) : Calls Try.prog 38 #[.int .i64 (n : Nat)] w (Post No w fun v H => ∃ u, v = .tuple #[.agg #[u], .bool true] ∧ H = [.own u 3 1 n (ints (nl (idL n)))]) := by
  refine enter (n := 10) (args := [.int .i64 (((n : Nat) : Int))]) Try.func38 rfl rfl (St.empty _ _) ?_
  refine Run.seq ?_
  refine Run.region ?_
  refine Run.step rfl (OpStep.alloc (zs := [.slice none 0 0]) Tzero_28 fun b1 => ?_)
  refine Run.q (v := .bool false) rfl (OpQ.y (OpY.pure rfl)) ?_
  refine Run.done ?_
  refine Run.seq ?_
  refine Run.seq ?_
  refine Run.region ?_
  refine Run.q (v := .int .i64 (((n : Nat) : Int))) rfl (OpQ.y (OpY.pure rfl)) ?_
  refine Run.q (v := .bool true) rfl (OpQ.call (vs := [.int .i64 (((n : Nat) : Int)), .int .i64 1, .int .i64 5]) (caps := []) Tcall_73 rfl rfl (fun w hs => (by have h := within_spec (n : Int) 1 5 w; rw [show within (n : Int) 1 5 = true from within_iff.2 (by omega)] at h; exact h))) ?_
  refine Run.q (v := .bool false) rfl (OpQ.y (OpY.pure rfl)) ?_
  refine Run.done ?_
  refine Run.cond (b := false) rfl (fun h => nomatch h) (fun _ => ?_)
  refine Run.skip ?_
  refine Run.seq ?_
  refine Run.region ?_
  refine Run.q (v := .int .i64 (((n : Nat) : Int))) rfl (OpQ.y (OpY.pure rfl)) ?_
  refine Run.step rfl (OpStep.call (vs := [.int .i64 (((n : Nat) : Int))]) (caps := []) Tcall_67 rfl rfl (fun w hs => identityLinear_spec h5 w) ?_)
  rintro _ _ ⟨ui, rfl, rfl⟩
  show Run _ _ (putF _ _ _ (.agg #[ui])) [.own ui 3 1 n (ints (nl (idL n))), .blk b1 28 [.slice none 0 0]]
  refine Run.formOwn (.head _) (fun A_ui1 c_ui1 hv hcapc_ui1 hmaxc_ui1 => ?_) (fun _ _ _ => ⟨nofun, nofun, nofun⟩)
  subst hv
  refine Run.step rfl (OpStep.storeAll (us := [.slice A_ui1 n c_ui1]) Tsize_28 rfl rfl rfl (.there _ (.here _)) rfl ?_)
  refine Run.q (v := .bool true) rfl (OpQ.y (OpY.pure rfl)) ?_
  refine Run.done ?_
  refine Run.ret ?_
  refine ⟨.tuple #[.agg #[.slice A_ui1 n c_ui1], .bool true], [.own (.slice A_ui1 n c_ui1) 3 1 n (ints (nl (idL n)))], Out.cell2 (cs := [.slice A_ui1 n c_ui1]) rfl Tagg_28 rfl (Cells.blk (.tail _ (List.Mem.head _)) ⟨rfl, trivial⟩) rfl, (Some'.weak (.take (.nil _))), ?_⟩
  exact ⟨_, rfl, rfl⟩

set_option maxHeartbeats 1000000 in
set_option maxRecDepth 20000 in
theorem rankOfClo_spec (x : Int) (w : World) : Calls Try.prog 79 #[.int .i64 x] w (Post No w fun v _ => v = .bool (!within x 0 1023)) := by
  refine enter (n := 6) (args := [.int .i64 x]) Try.func79 rfl rfl (St.empty _ _) ?_
  refine Run.seq ?_
  refine Run.region ?_
  refine Run.q (v := .bool false) rfl (OpQ.y (OpY.pure rfl)) ?_
  refine Run.done ?_
  refine Run.seq ?_
  refine Run.region ?_
  refine Run.q (v := .int .i64 x) rfl (OpQ.y (OpY.pure rfl)) ?_
  refine Run.q (v := .bool (within x 0 1023)) rfl (OpQ.call (vs := [.int .i64 x, .int .i64 0, .int .i64 1023]) (caps := []) Tcall_73 rfl rfl (fun w hs => within_spec _ _ _ w)) ?_
  refine Run.q (v := .bool (!(within x 0 1023))) rfl (OpQ.y (OpY.pure rfl)) ?_
  refine Run.q (v := .bool (!(within x 0 1023))) rfl (OpQ.y (OpY.pure rfl)) ?_
  refine Run.done ?_
  refine Run.ret ?_
  refine ⟨.bool (!(within x 0 1023)), [], Out.one rfl rfl, (Some'.weak (.nil _)), ?_⟩
  rfl

set_option maxHeartbeats 1000000 in
set_option maxRecDepth 20000 in
theorem IndexFuncRko_spec  {va : Value} {n : Nat} {xs : List Int} {w : World} (ha : Sl w va 1 n (ints xs))  : Calls Try.prog 111 #[va, .func (.func 79) #[] #[]] w (Post No w fun v _ => v = .int .i64 (findI (fun i => !within (ix xs i) 0 1023) n)) := by
  have hxl := ha.len
  have hn := ha.le
  obtain ⟨A, c, rfl, _, _⟩ := ha.form0
  refine enter (n := 19) (args := [.slice A n c, .func (.func 79) #[] #[]]) Try.func111 rfl rfl (St.empty _ _) ?_
  refine Run.seq ?_
  refine Run.region ?_
  refine Run.q (v := .int .i64 0) rfl (OpQ.y (OpY.pure rfl)) ?_
  refine Run.done ?_
  refine Run.seq ?_
  refine Run.seq ?_
  refine Run.region ?_
  refine Run.q (v := .slice A n c) rfl (OpQ.y (OpY.pure rfl)) ?_
  refine Run.q (v := .int .i64 (((n : Nat) : Int))) rfl (OpQ.y (OpY.len Tsl_22 rfl)) ?_
  refine Run.q (v := .int .i64 0) rfl (OpQ.y (OpY.pure rfl)) ?_
  refine Run.done ?_
  refine Run.block ?_
  refine Run.loop (ι := Nat) [4, 5, 8, 9, 10, 11, 12, 13, 14, 15, 16, 17, 18] (fun k => [(8, .int .i64 (((k : Nat) : Int)))]) (fun k => []) (fun k => k ≤ n ∧ (∀ i, i < k → (!within (ix xs i) 0 1023) = false)) (fun k => n - k) 0 ?_ ?_ ?_ ?_
  · exact ⟨Nat.zero_le _, by first | trivial | (intro i hi; omega)⟩
  · exact ⟨rfl, trivial⟩
  · exact (Some'.weak (.nil _))
  · rintro k fr hinv
    show Run _ _ (over _ _ [(8, .int .i64 (((k : Nat) : Int)))] fr) []
    try dsimp only at hinv
    refine Run.seq ?_
    refine Run.region ?_
    refine Run.q (v := .bool (decide ((((k : Nat) : Int)) < (((n : Nat) : Int))))) rfl (OpQ.y (OpY.pure rfl)) ?_
    refine Run.done ?_
    refine Run.seq ?_
    refine Run.cond (b := decide ((((k : Nat) : Int)) < (((n : Nat) : Int)))) rfl (fun h9 => ?_) (fun h9 => ?_)
    · have p9 := h9; try simp only [bs] at p9
      have hltk : k < n := by omega
      obtain ⟨b, o, rfl⟩ := ha.opn (by omega)
      refine Run.skip ?_
      refine Run.seq ?_
      refine Run.block ?_
      refine Run.seq ?_
      refine Run.region ?_
      refine Run.q (v := .int .i64 (((k : Nat) : Int))) rfl (OpQ.y (OpY.pure rfl)) ?_
      refine Run.q (v := .int .i64 (((k : Nat) : Int))) rfl (OpQ.y (OpY.pure rfl)) ?_
      refine Run.done ?_
      refine Run.seq ?_
      refine Run.region ?_
      refine Run.q (v := .func (.func 79) #[] #[]) rfl (OpQ.y (OpY.pure rfl)) ?_
      refine Run.q (v := .slice (some ⟨b, o, none⟩) n c) rfl (OpQ.y (OpY.pure rfl)) ?_
      refine Run.q (v := .int .i64 (((k : Nat) : Int))) rfl (OpQ.y (OpY.pure rfl)) ?_
      refine Run.q (v := .pointer (some ⟨b, o + k, none⟩)) rfl (OpQ.y (OpY.index (kk := k) Tsl_22 rfl rfl (by omega) (by omega) (by first | rfl | omega))) ?_
      refine Run.q (v := .int .i64 (ix xs (k))) rfl (OpQ.y (OpY.load1 Tone_3 rfl (Cells.arg (k := k) ha rfl (by omega) (pre1 (by omega))))) ?_
      refine Run.q (v := .bool (!within (ix xs k) 0 1023)) rfl (OpQ.call (vs := [.int .i64 (ix xs (k))]) (caps := []) Tcall_79 rfl rfl (fun w hs => rankOfClo_spec _ w)) ?_
      refine Run.done ?_
      refine Run.cond (b := !within (ix xs k) 0 1023) rfl (fun h16 => ?_) (fun h16 => ?_)
      · have p16 := h16; try simp only [bs] at p16
        refine Run.seq ?_
        have hres : findI (fun i => !within (ix xs i) 0 1023) n = k := findI_hit hinv.2 h16 hltk
        refine Run.region ?_
        refine Run.q (v := .int .i64 (((k : Nat) : Int))) rfl (OpQ.y (OpY.pure rfl)) ?_
        refine Run.q (v := .int .i64 (((k : Nat) : Int))) rfl (OpQ.y (OpY.pure rfl)) ?_
        refine Run.done ?_
        refine Run.ret ?_
        refine ⟨.int .i64 (((k : Nat) : Int)), [], Out.one rfl rfl, (Some'.weak (.nil _)), ?_⟩
        show _ = _; rw [hres]
      · have p16 := h16; try simp only [bs] at p16
        refine Run.skip ?_
        refine Run.blockEnd ?_
        have hgood : (!within (ix xs k) 0 1023) = false := h16
        refine Run.region ?_
        refine Run.q (v := .int .i64 ((((k : Nat) : Int)) + 1)) rfl (OpQ.y (OpY.add rfl rfl rfl (by omega) (by omega))) ?_
        refine Run.q (v := .int .i64 ((((k : Nat) : Int)) + 1)) rfl (OpQ.y (OpY.pure rfl)) ?_
        refine Run.done ?_
        refine Run.goal ⟨(by repeat (first | exact Same.refl _ _ | refine Same.put rfl ?_ | refine Same.over rfl rfl ?_)), k + 1, ?_, ?_, ?_, ?_⟩
        · refine ⟨by omega, ?_⟩
          intro i hi
          rcases Nat.lt_succ_iff_lt_or_eq.1 hi with h | h
          · exact hinv.2 i h
          · rw [h]; exact hgood
        · omega
        · exact ⟨(by first | rfl | (congr 1; omega) | simp), trivial⟩
        · exact (Some'.weak (.nil _))
    · have p9 := h9; try simp only [bs] at p9
      have hknk : k = n := by omega
      have hres : findI (fun i => !within (ix xs i) 0 1023) n = -1 := by rw [← hknk]; exact findI_none hinv.2
      refine Run.exit rfl ?_
      refine Run.seq ?_
      refine Run.region ?_
      refine Run.q (v := .int .i64 (-1)) rfl (OpQ.y (OpY.pure rfl)) ?_
      refine Run.done ?_
      refine Run.ret ?_
      refine ⟨.int .i64 (-1), [], Out.one rfl rfl, (Some'.weak (.nil _)), ?_⟩
      show _ = _; rw [hres]

set_option maxHeartbeats 1000000 in
set_option maxRecDepth 20000 in
theorem ContainsFuncRko_spec  {va : Value} {n : Nat} {xs : List Int} {w : World} (ha : Sl w va 1 n (ints xs))  : Calls Try.prog 74 #[va, .func (.func 79) #[] #[]] w (Post No w fun v _ => v = .bool (anyI (fun i => !within (ix xs i) 0 1023) n)) := by
  refine enter (n := 9) (args := [va, .func (.func 79) #[] #[]]) Try.func74 rfl rfl (St.empty _ _) ?_
  refine Run.seq ?_
  refine Run.region ?_
  refine Run.q (v := .bool false) rfl (OpQ.y (OpY.pure rfl)) ?_
  refine Run.done ?_
  refine Run.seq ?_
  refine Run.region ?_
  refine Run.q (v := va) rfl (OpQ.y (OpY.pure rfl)) ?_
  refine Run.q (v := .func (.func 79) #[] #[]) rfl (OpQ.y (OpY.pure rfl)) ?_
  refine Run.q (v := .int .i64 (findI (fun i => !within (ix xs i) 0 1023) n)) rfl (OpQ.call (vs := [va, .func (.func 79) #[] #[]]) (caps := []) Tcall_111 rfl rfl (fun w hs => IndexFuncRko_spec (hs.sl ha) )) ?_
  refine Run.q (v := .bool (decide ((findI (fun i => !within (ix xs i) 0 1023) n) ≥ 0))) rfl (OpQ.y (OpY.pure rfl)) ?_
  refine Run.q (v := .bool (decide ((findI (fun i => !within (ix xs i) 0 1023) n) ≥ 0))) rfl (OpQ.y (OpY.pure rfl)) ?_
  refine Run.done ?_
  refine Run.ret ?_
  refine ⟨.bool (decide ((findI (fun i => !within (ix xs i) 0 1023) n) ≥ 0)), [], Out.one rfl rfl, (Some'.weak (.nil _)), ?_⟩
  show _ = _; rw [findI_ge]


theorem rko_none {n : Nat} {xs : List Int} (hl : xs.length = n) (h : linOk xs n = true) : anyI (fun i => !within (ix xs i) 0 1023) n = false := by
  obtain ⟨h1, h5, hnx, hnl, hlt, hin⟩ := lin_facts hl h
  refine anyI_false fun i hi => ?_
  have h3 := lt32 h5 hlt i
  have : within (ix xs i) 0 1023 = true := within_iff.2 (by rw [← hnx, ix_nl]; omega)
  rw [this]; rfl
theorem rk_full {n : Nat} {xs : List Int} (h : linOk xs n = true) : (rkS (nats xs) 10).2 = n := by
  simp only [linOk, Bool.and_eq_true, decide_eq_true_eq] at h; exact h.2

set_option maxHeartbeats 1000000 in
set_option maxRecDepth 20000 in
theorem RankOf_spec {va : Value} {n : Nat} {xs : List Int} {w : World} (hok : linOk xs n = true) (ha : Sl w va 1 n (ints xs)) : Calls Try.prog 39 #[va] w (Post No w fun v _ => v = .tuple #[.int .i64 (n : Nat), .bool true]) := by
  have hxl : xs.length = n := by have := ha.len; omega
  obtain ⟨A, c, rfl, _, _⟩ := ha.form0
  obtain ⟨h1, h5, hnx, hnl, hlt, hin⟩ := lin_facts hxl hok
  have h10 : ∀ x ∈ nats xs, x < 2 ^ 10 := lt_nx fun i _ => Nat.lt_of_lt_of_le (lt32 h5 hlt i) (by decide)
  refine enter (n := 13) (args := [.slice A n c]) Try.func39 rfl rfl (St.empty _ _) ?_
  refine Run.seq ?_
  refine Run.region ?_
  refine Run.q (v := .int .i64 0) rfl (OpQ.y (OpY.pure rfl)) ?_
  refine Run.q (v := .bool false) rfl (OpQ.y (OpY.pure rfl)) ?_
  refine Run.done ?_
  refine Run.seq ?_
  refine Run.seq ?_
  refine Run.region ?_
  refine Run.q (v := .slice A n c) rfl (OpQ.y (OpY.pure rfl)) ?_
  refine Run.q (v := .int .i64 (((n : Nat) : Int))) rfl (OpQ.y (OpY.len Tsl_22 rfl)) ?_
  refine Run.q (v := .bool (decide ((((n : Nat) : Int)) > 64))) rfl (OpQ.y (OpY.pure rfl)) ?_
  rcases Bool.eq_false_or_eq_true (decide ((((n : Nat) : Int)) > 64)) with h7 | h7
  · refine Run.q (v := .bool true) rfl (OpQ.y (OpY.moveB rfl h7)) ?_
    have p7 := h7; try simp only [bs] at p7
    exfalso; omega --DONE
  · refine Run.q (v := .bool false) rfl (OpQ.y (OpY.moveB rfl h7)) ?_
    have p7 := h7; try simp only [bs] at p7
    refine Run.q (v := .slice A n c) rfl (OpQ.y (OpY.pure rfl)) ?_
    refine Run.q (v := .bool false) rfl (OpQ.call (vs := [.slice A n c, .func (.func 79) #[] #[]]) (caps := []) Tcall_74 rfl rfl (fun w hs => (by have h := ContainsFuncRko_spec (hs.sl ha); rw [rko_none hxl hok] at h; exact h))) ?_
    refine Run.q (v := .bool false) rfl (OpQ.y (OpY.pure rfl)) ?_
    refine Run.done ?_
    refine Run.cond (b := false) rfl (fun h => nomatch h) (fun _ => ?_)
    refine Run.skip ?_
    refine Run.seq ?_
    refine Run.region ?_
    refine Run.q (v := .slice A n c) rfl (OpQ.y (OpY.pure rfl)) ?_
    refine Run.q (v := .int .i64 (((n : Nat) : Int))) rfl (OpQ.call (vs := [.slice A n c]) (caps := []) Tcall_76 rfl rfl (fun w hs => (by have h := rankOf_spec (r := nats xs) (by rw [hnl]; omega) (by rw [hnl]; omega) h10 (va := .slice A n c) (by rw [hnl, hnx]; exact hs.sl ha); rw [rk_full hok] at h; exact h))) ?_
    refine Run.q (v := .int .i64 (((n : Nat) : Int))) rfl (OpQ.y (OpY.pure rfl)) ?_
    refine Run.q (v := .bool true) rfl (OpQ.y (OpY.pure rfl)) ?_
    refine Run.done ?_
    refine Run.ret ?_
    refine ⟨.tuple #[.int .i64 (((n : Nat) : Int)), .bool true], [], Out.two rfl rfl rfl, (Some'.weak (.nil _)), ?_⟩
    rfl

end Go.Proofs.Yteehfidjofcfmaa
