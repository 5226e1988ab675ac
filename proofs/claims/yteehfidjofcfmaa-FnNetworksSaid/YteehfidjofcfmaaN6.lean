/- Walks: maps of circuits, inverses, compositions. -/
import Derived.Test.YteehfidjofcfmaaN4
import Derived.Test.YteehfidjofcfmaaN5
import Derived.Test.YteehfidjofcfmaaProg
import Derived.Test.YteehfidjofcfmaaN2
import Derived.Test.YteehfidjofcfmaaN3
import Derived.Test.YteehfidjofcfmaaN1
set_option linter.unusedSimpArgs false
set_option linter.unusedVariables false
namespace Go.Proofs.Yteehfidjofcfmaa
open Go Go.RowKit
namespace LofT
theorem Tagg_28 : aggOf Try.prog 28 = some 1 := by kernel_rfl
theorem Tagg_38 : aggOf Try.prog 38 = some 2 := by kernel_rfl
theorem Tagg_71 : aggOf Try.prog 71 = some 3 := by kernel_rfl
theorem Tcall_109 : callable Try.prog 109 = true := by kernel_rfl
theorem Tcall_111 : callable Try.prog 111 = true := by kernel_rfl
theorem Tcall_35 : callable Try.prog 35 = true := by kernel_rfl
theorem Tcall_66 : callable Try.prog 66 = true := by kernel_rfl
theorem Tcall_67 : callable Try.prog 67 = true := by kernel_rfl
theorem Tcall_68 : callable Try.prog 68 = true := by kernel_rfl
theorem Tcall_70 : callable Try.prog 70 = true := by kernel_rfl
theorem Tcall_71 : callable Try.prog 71 = true := by kernel_rfl
theorem Tcall_73 : callable Try.prog 73 = true := by kernel_rfl
theorem Tcall_74 : callable Try.prog 74 = true := by kernel_rfl
theorem Tcall_76 : callable Try.prog 76 = true := by kernel_rfl
theorem Tcall_77 : callable Try.prog 77 = true := by kernel_rfl
theorem Tcall_78 : callable Try.prog 78 = true := by kernel_rfl
theorem Tcall_98 : callable Try.prog 98 = true := by kernel_rfl
theorem Tfo_28_0 : fieldOff Try.prog 28 0 = some 0 := by kernel_rfl
theorem Tfo_38_0 : fieldOff Try.prog 38 0 = some 0 := by kernel_rfl
theorem Tfo_38_1 : fieldOff Try.prog 38 1 = some 1 := by kernel_rfl
theorem Tfo_71_0 : fieldOff Try.prog 71 0 = some 0 := by kernel_rfl
theorem Tfo_71_1 : fieldOff Try.prog 71 1 = some 1 := by kernel_rfl
theorem Tfo_71_2 : fieldOff Try.prog 71 2 = some 2 := by kernel_rfl
theorem Tone_22 : oneOf Try.prog 22 = true := by kernel_rfl
theorem Tone_3 : oneOf Try.prog 3 = true := by kernel_rfl
theorem Tone_36 : oneOf Try.prog 36 = true := by kernel_rfl
theorem Tsize_22 : (Try.prog.info? 22).map (·.size) = some 1 := by kernel_rfl
theorem Tsize_28 : (Try.prog.info? 28).map (·.size) = some 1 := by kernel_rfl
theorem Tsize_3 : (Try.prog.info? 3).map (·.size) = some 1 := by kernel_rfl
theorem Tsize_71 : (Try.prog.info? 71).map (·.size) = some 3 := by kernel_rfl
theorem Tsl_22 : sliceOf Try.prog 22 = some (3, 1, 8, [.int .i64 0]) := by kernel_rfl
theorem Tsl_36 : sliceOf Try.prog 36 = some (71, 3, 24, [.int .i64 0, .int .i64 0, .int .i64 0]) := by kernel_rfl
theorem Tzero_28 : zeroOf Try.prog 28 = some [.slice none 0 0] := by kernel_rfl
theorem Tzero_71 : zeroOf Try.prog 71 = some [.int .i64 0, .int .i64 0, .int .i64 0] := by kernel_rfl
end LofT
open LofT
theorem l12CX_i {va : Value} {l : List Nat} {n : Nat} {x y : Int} {w : World} (hl : l.length = n) (h5 : n ≤ 5) (hx : 0 ≤ x ∧ x < n) (hy : 0 ≤ y ∧ y < n) (hb : ∀ i, nx l i < 32) (ha : Sl w va 1 n (ints (nl l))) : Calls Try.prog 71 #[.agg #[va], .int .i64 x, .int .i64 y] w (Post No w fun v H => ∃ u, v = .agg #[u] ∧ H = [.own u 3 1 n (ints (nl (cx l (x.toNat, y.toNat))))]) := by
  have h := l12CX_n (a := x.toNat) (b := y.toNat) hl h5 (by omega) (by omega) hb ha
  rwa [Int.toNat_of_nonneg hx.1, Int.toNat_of_nonneg hy.1] at h
theorem lt32 {n : Nat} {l : List Nat} (h5 : n ≤ 5) (h : ∀ i, nx l i < 2 ^ n) : ∀ i, nx l i < 32 := fun i => Nat.lt_of_lt_of_le (h i) (Nat.pow_le_pow_right (n := 2) (by omega) h5)
theorem bitI_nat (x q : Nat) : bitI ((x : Nat) : Int) q = x.testBit q := bitI_nl [x] 0 q
theorem take_gat {gs : List (Nat × Nat)} {k : Nat} (h : k < gs.length) : gs.take (k + 1) = gs.take k ++ [gat gs k] := by rw [List.take_add_one]; simp [gat, List.getD, h]
theorem gat_mem {gs : List (Nat × Nat)} {k : Nat} (h : k < gs.length) : gat gs k ∈ gs := by
  have : gat gs k = gs[k] := by simp [gat, List.getD, h]
  rw [this]; exact List.getElem_mem h
theorem cxs_take {l : List Nat} {gs : List (Nat × Nat)} {k : Nat} (h : k < gs.length) : cxs l (gs.take (k + 1)) = cx (cxs l (gs.take k)) (gat gs k) := by rw [take_gat h, cxs_append]; rfl

set_option maxHeartbeats 1000000 in
set_option maxRecDepth 20000 in
theorem added_n {va : Value} {l : List Nat} {a b n : Nat} {w : World} (hl : l.length = n) (h5 : n ≤ 5) (ha5 : a < n) (hb5 : b < n) (hb : ∀ i, nx l i < 32) (ha : Sl w va 1 n (ints (nl l))) : Calls Try.prog 68 #[.agg #[va], .int .i64 (a : Nat), .int .i64 (b : Nat)] w (Post No w fun v H => ∃ u, v = .agg #[u] ∧ H = [.own u 3 1 n (ints (nl (cx l (a, b))))]) := by
 refine enter (n := 23) (args := [.agg #[va], .int .i64 (((a : Nat) : Int)), .int .i64 (((b : Nat) : Int))]) Try.func68 rfl rfl (St.empty _ _) ?_
 refine Run.sr ?_
 refine Run.step rfl (OpStep.box (us := [va]) rfl fun b1 => ?_)
 refine Run.step rfl (OpStep.alloc (zs := [.slice none 0 0]) Tzero_28 fun b2 => ?_)
 refine Run.dsr ?_
 refine Run.y (.pointer (some ⟨b1, 0, none⟩)) rfl (OpY.fieldAddr Tfo_28_0 rfl rfl) ?_
 refine Run.y (va) rfl (OpY.load1 Tone_22 rfl (Cells.blk (.tail _ (List.Mem.head _)) ⟨rfl, trivial⟩)) ?_
 refine Run.step rfl (OpStep.call (vs := [va]) (caps := []) Tcall_109 rfl rfl (fun w hs => CloneInt_spec (by omega) (by omega) (hs.sl ha)) ?_)
 rintro uo _ rfl
 show Run _ _ (putF _ _ _ uo) [.own uo 3 1 n (ints (nl l)), .blk b2 28 [.slice none 0 0], .blk b1 28 [va]]
 have hll := nl_length l
 have hxa := hb a
 have hxb := hb b
 refine Run.p (uo) rfl rfl ?_
 refine Run.done ?_
 refine Run.seq ?_
 refine Run.openOwn (.head _) (by omega) (fun g cg hvg hcapg _ => ?_) (fun _ _ _ => ⟨nofun, nofun, nofun⟩)
 subst hvg
 refine Run.lastly [10] (by kernel_rfl) ?_
 refine DL.takeP (i := 0) (v := .slice (some ⟨g, 0, none⟩) n cg) rfl (by kernel_rfl) (by kernel_rfl) (by kernel_rfl) (fun _ _ _ h => h) rfl (fun _ => OpY.pure rfl) ?_
 refine DL.takeP (i := 1) (v := .int .i64 (((b : Nat) : Int))) rfl (by kernel_rfl) (by kernel_rfl) (by kernel_rfl) (fun _ _ _ h => h) rfl (fun _ => OpY.pure rfl) ?_
 refine DL.takeP (i := 2) (v := .pointer (some ⟨g, b, none⟩)) rfl (by kernel_rfl) (by kernel_rfl) (by kernel_rfl) (fun _ _ _ h => h) rfl (fun _ => OpY.index (kk := b) Tsl_22 rfl rfl (by omega) (by omega) (by first | rfl | omega)) ?_
 refine DL.take (i := 3) (v := .int .i64 (ix (nl l) (b))) rfl (by kernel_rfl) (by kernel_rfl) (by kernel_rfl) (by kernel_rfl) (fun _ _ _ h => h) (Some'.weak (.take (.take (.take (.nil _))))) rfl (OpY.load1 Tone_3 rfl (Cells.own0 (.head _) (pre1 (by omega)))) ?_
 refine DL.takeP (i := 4) (v := .slice (some ⟨g, 0, none⟩) n cg) rfl (by kernel_rfl) (by kernel_rfl) (by kernel_rfl) (fun _ _ _ h => h) rfl (fun _ => OpY.pure rfl) ?_
 refine DL.takeP (i := 5) (v := .int .i64 (((a : Nat) : Int))) rfl (by kernel_rfl) (by kernel_rfl) (by kernel_rfl) (fun _ _ _ h => h) rfl (fun _ => OpY.pure rfl) ?_
 refine DL.takeP (i := 6) (v := .pointer (some ⟨g, a, none⟩)) rfl (by kernel_rfl) (by kernel_rfl) (by kernel_rfl) (fun _ _ _ h => h) rfl (fun _ => OpY.index (kk := a) Tsl_22 rfl rfl (by omega) (by omega) (by first | rfl | omega)) ?_
 refine DL.take (i := 7) (v := .int .i64 (ix (nl l) (a))) rfl (by kernel_rfl) (by kernel_rfl) (by kernel_rfl) (by kernel_rfl) (fun _ _ _ h => h) (Some'.weak (.take (.take (.take (.nil _))))) rfl (OpY.load1 Tone_3 rfl (Cells.own0 (.head _) (pre1 (by omega)))) ?_
 refine DL.takeP (i := 8) (v := .int .i64 (((nx l b ^^^ nx l a : Nat) : Int))) rfl (by kernel_rfl) (by kernel_rfl) (by kernel_rfl) (fun _ _ _ h => h) rfl (fun _ => OpY.xorNat rfl rfl (ix_nl _ _) (ix_nl _ _) (by omega) (by omega)) ?_
 refine DL.takeP (i := 9) (v := .pointer (some ⟨g, b, none⟩)) rfl (by kernel_rfl) (by kernel_rfl) (by kernel_rfl) (fun _ _ _ h => h) rfl (fun _ => OpY.index (kk := b) Tsl_22 rfl rfl (by omega) (by omega) (by first | rfl | omega)) ?_
 refine DL.step (i := 10) (by kernel_rfl) (by kernel_rfl) rfl rfl (OpStep.storeOwnInt (o := b) (a := ((nx l b ^^^ nx l a : Nat) : Int)) Tsize_3 rfl rfl (.here _) (by omega) ?_)
 refine DL.done (by kernel_rfl) ?_
 refine Run.sr ?_
 refine Run.p (.slice (some ⟨g, 0, none⟩) n cg) rfl rfl ?_
 refine Run.y (.agg #[.slice (some ⟨g, 0, none⟩) n cg]) rfl (OpY.build (cs := [.slice (some ⟨g, 0, none⟩) n cg]) (by kernel_rfl)) ?_
 refine Run.step rfl (OpStep.storeAll (us := [.slice (some ⟨g, 0, none⟩) n cg]) Tsize_28 rfl rfl rfl (.there _ (.here _)) rfl ?_)
 refine Run.done ?_
 refine Run.ret ?_
 refine ⟨.agg #[.slice (some ⟨g, 0, none⟩) n cg], [.own (.slice (some ⟨g, 0, none⟩) n cg) 3 1 n (ints (nl (cx l (a, b))))], Out.cell1 (cs := [.slice (some ⟨g, 0, none⟩) n cg]) rfl Tagg_28 rfl (Cells.blk (.tail _ (List.Mem.head _)) ⟨rfl, trivial⟩), (Some'.weak (.takeEq (by rw [nl_set]; rfl) (.nil _))), ?_⟩
 exact ⟨_, rfl, rfl⟩


theorem added_i {va : Value} {l : List Nat} {n : Nat} {x y : Int} {w : World} (hl : l.length = n) (h5 : n ≤ 5) (hx : 0 ≤ x ∧ x < n) (hy : 0 ≤ y ∧ y < n) (hb : ∀ i, nx l i < 32) (ha : Sl w va 1 n (ints (nl l))) : Calls Try.prog 68 #[.agg #[va], .int .i64 x, .int .i64 y] w (Post No w fun v H => ∃ u, v = .agg #[u] ∧ H = [.own u 3 1 n (ints (nl (cx l (x.toNat, y.toNat))))]) := by
  have h := added_n (a := x.toNat) (b := y.toNat) hl h5 (by omega) (by omega) hb ha
  rwa [Int.toNat_of_nonneg hx.1, Int.toNat_of_nonneg hy.1] at h


theorem cx32 {l : List Nat} (h : ∀ i, nx l i < 32) (e : Nat × Nat) : ∀ i, nx (cx l e) i < 32 := cx_lt (k := 5) h

set_option maxHeartbeats 2000000 in
set_option maxRecDepth 20000 in
theorem LinearOf_spec {N : Int} {va : Value} {n : Nat} {xs : List Int} {w : World} (ha : Sl w va 3 n (ints xs)) : Calls Try.prog 31 #[.agg #[.int .i64 N, va]] w (Post No w fun v H => ∃ u, v = .tuple #[.agg #[u], .bool (loB N xs n)] ∧ H = [.own u 3 1 (loL N xs n).length (ints (nl (loL N xs n)))]) := by
 have hxl := ha.len
 have han := ha.le
 obtain ⟨A, c, rfl, _, _⟩ := ha.form0
 refine enter (n := 58) (args := [.agg #[.int .i64 N, .slice A n c]]) Try.func31 rfl rfl (St.empty _ _) ?_
 refine Run.sr ?_
 refine Run.step rfl (OpStep.box (us := [.int .i64 N, .slice A n c]) rfl fun b1 => ?_)
 refine Run.step rfl (OpStep.alloc (zs := [.slice none 0 0]) Tzero_28 fun b2 => ?_)
 refine Run.p (.bool false) rfl rfl ?_
 refine Run.done ?_
 refine Run.seq ?_
 refine Run.sr ?_
 refine Run.y (.agg #[.int .i64 N, .slice A n c]) rfl (OpY.loadN (cs := [.int .i64 N, .slice A n c]) Tagg_38 rfl (Cells.blk (.tail _ (List.Mem.head _)) ⟨rfl, rfl, trivial⟩)) ?_
 refine Run.q (v := .bool (circOk N xs n)) rfl (OpQ.call (vs := [.agg #[.int .i64 N, .slice A n c]]) (caps := []) Tcall_66 rfl rfl (fun w hs => IsValidCircuit_spec (hs.sl ha))) ?_
 refine Run.p (.bool (!(circOk N xs n))) rfl rfl ?_
 refine Run.done ?_
 refine Run.cond (b := !(circOk N xs n)) rfl (fun h9 => ?_) (fun h9 => ?_)
 ·have p9 := h9; try simp only [bs] at p9
  have hok : circOk N xs n = false := by simpa using p9
  have hB : loB N xs n = false := by rw [loB, hok, Bool.false_and]
  have hL : loL N xs n = [] := by rw [loL, hB]; rfl
  refine Run.sr ?_
  refine Run.y (.agg #[.slice none 0 0]) rfl (OpY.build (cs := [.slice none 0 0]) (by kernel_rfl)) ?_
  refine Run.step rfl (OpStep.storeAll (us := [.slice none 0 0]) Tsize_28 rfl rfl rfl (.here _) rfl ?_)
  refine Run.p (.bool false) rfl rfl ?_
  refine Run.done ?_
  refine Run.ret ?_
  refine ⟨.tuple #[.agg #[.slice none 0 0], .bool false], [.own (.slice none 0 0) 3 1 ((loL N xs n).length) (ints (nl (loL N xs n)))], Out.cell2 (cs := [.slice none 0 0]) rfl Tagg_28 rfl (Cells.blk (.head _) ⟨rfl, trivial⟩) rfl, ((Weak.nilOwn 3 1).trans (Some'.weak (.takeEq (by first | (rw [hL]; done) | (rw [hL]; rfl) | (rw [hL, hll])) (.nil _)))), ?_⟩
  exact ⟨_, by rw [hB], rfl⟩
 ·have p9 := h9; try simp only [bs] at p9
  have hok : circOk N xs n = true := by simpa using p9
  have hN := circOk_N hok
  have hNt : ((N.toNat : Nat) : Int) = N := by omega
  have hokt : circOk ((N.toNat : Nat) : Int) xs n = true := by rw [hNt]; exact hok
  refine Run.skip ?_
  refine Run.sr ?_
  refine Run.y (.pointer (some ⟨b1, 0, none⟩)) rfl (OpY.fieldAddr Tfo_38_0 rfl rfl) ?_
  refine Run.y (.int .i64 N) rfl (OpY.load1 Tone_3 rfl (Cells.blk (.tail _ (List.Mem.head _)) ⟨rfl, trivial⟩)) ?_
  refine Run.step rfl (OpStep.call (vs := [.int .i64 N]) (caps := []) Tcall_67 rfl rfl (fun w hs => (by have h := identityLinear_spec (n := N.toNat) (by omega) w; rw [show ((N.toNat : Nat) : Int) = N by omega] at h; exact h)) ?_)
  rintro _ _ ⟨ui, rfl, rfl⟩
  show Run _ _ (putF _ _ _ (.agg #[ui])) [.own ui 3 1 (N.toNat) (ints (nl (idL N.toNat))), .blk b2 28 [.slice none 0 0], .blk b1 38 [.int .i64 N, .slice A n c]]
  refine Run.step rfl (OpStep.alloc (zs := [.slice none 0 0]) Tzero_28 fun b3 => ?_)
  refine Run.formOwn (.tail _ (List.Mem.head _)) (fun A_ui1 c_ui1 hv hcapc_ui1 hmaxc_ui1 => ?_) (fun _ _ _ => ⟨nofun, nofun, nofun⟩)
  subst hv
  refine Run.step rfl (OpStep.storeAll (us := [.slice A_ui1 (N.toNat) c_ui1]) Tsize_28 rfl rfl rfl (.here _) rfl ?_)
  refine Run.done ?_
  refine Run.seq ?_
  refine Run.sr ?_
  refine Run.y (.pointer (some ⟨b1, 1, none⟩)) rfl (OpY.fieldAddr Tfo_38_1 rfl rfl) ?_
  refine Run.y (.slice A n c) rfl (OpY.load1 Tone_36 rfl (Cells.blk (.tail _ (.tail _ (.tail _ (List.Mem.head _)))) ⟨rfl, trivial⟩)) ?_
  refine Run.y (.int .i64 (((n : Nat) : Int))) rfl (OpY.len Tsl_36 rfl) ?_
  refine Run.p (.int .i64 0) rfl rfl ?_
  refine Run.done ?_
  refine Run.block ?_
  refine Run.loop (ι := Nat × List Nat × Value) [3, 6, 17, 18, 19, 20, 21, 22, 23, 24, 25, 26, 27, 28, 29, 30, 31, 32, 33, 34, 35, 36, 37, 38, 39, 40, 41, 42, 43, 44, 45, 46, 47, 48, 49, 50, 51, 52, 53, 54, 55, 56] (fun ⟨k, l, vr⟩ => [(17, .int .i64 (((k : Nat) : Int)))]) (fun ⟨k, l, vr⟩ => [.own vr 3 1 (N.toNat) (ints (nl l)), .blk b3 28 [vr], .blk b2 28 [.slice none 0 0], .blk b1 38 [.int .i64 N, .slice A n c]]) (fun ⟨k, l, vr⟩ => k ≤ n ∧ loS N.toNat xs k = some l) (fun ⟨k, l, vr⟩ => n - k) (0, idL N.toNat, .slice A_ui1 (N.toNat) c_ui1) ?_ ?_ ?_ ?_
  ·exact ⟨Nat.zero_le _, rfl⟩
  ·exact ⟨rfl, trivial⟩
  ·exact ((Weak.selF [1, 0, 0, 0]).trans (Some'.weak (.takeEq (by first | rfl | (rw [nl_swp]; done) | (rw [hsw]; done)) (.takeEq (by first | rfl | (rw [nl_swp]; done) | (rw [hsw]; done)) (.take (.take (.nil _)))))))
  ·rintro ⟨k, l, vr⟩ fr hinv
   show Run _ _ (over _ _ [(17, .int .i64 (((k : Nat) : Int)))] fr) [.own vr 3 1 (N.toNat) (ints (nl l)), .blk b3 28 [vr], .blk b2 28 [.slice none 0 0], .blk b1 38 [.int .i64 N, .slice A n c]]
   try dsimp only at hinv
   refine Run.sr ?_
   refine Run.p (.bool (decide ((((k : Nat) : Int)) < (((n : Nat) : Int))))) rfl rfl ?_
   refine Run.done ?_
   refine Run.seq ?_
   refine Run.cond (b := decide ((((k : Nat) : Int)) < (((n : Nat) : Int)))) rfl (fun h18 => ?_) (fun h18 => ?_)
   ·have p18 := h18; try simp only [bs] at p18
    have hltk : k < n := by omega
    obtain ⟨b, o, rfl⟩ := ha.opn (by omega)
    have hll := loS_len hinv.2
    have hl32 := lt32 (n := N.toNat) (by omega) (loS_lt hokt (show k ≤ n by omega) hinv.2)
    have hgate := gateOk_split (circOk_gate hok hltk)
    have hnll := nl_length l
    refine Run.skip ?_
    refine Run.seq ?_
    refine Run.block ?_
    refine Run.sr ?_
    refine Run.y (.pointer (some ⟨b, o + k * 3, none⟩)) rfl (OpY.index (kk := k) Tsl_36 rfl rfl (by omega) (by omega) (by first | rfl | omega)) ?_
    refine Run.y (.agg #[.int .i64 (ix xs (k * 3)), .int .i64 (ix xs (k * 3 + 1)), .int .i64 (ix xs (k * 3 + 2))]) rfl (OpY.loadN (cs := [.int .i64 (ix xs (k * 3)), .int .i64 (ix xs (k * 3 + 1)), .int .i64 (ix xs (k * 3 + 2))]) Tagg_71 rfl (Cells.arg (k := k * 3) ha rfl (by omega) (pre3 (by omega)))) ?_
    refine Run.step rfl (OpStep.alloc (zs := [.int .i64 0, .int .i64 0, .int .i64 0]) Tzero_71 fun b4 => ?_)
    refine Run.step rfl (OpStep.storeAll (us := [.int .i64 (ix xs (k * 3)), .int .i64 (ix xs (k * 3 + 1)), .int .i64 (ix xs (k * 3 + 2))]) Tsize_71 rfl rfl rfl (.here _) rfl ?_)
    refine Run.dsr ?_
    refine Run.y (.pointer (some ⟨b4, 0, none⟩)) rfl (OpY.fieldAddr Tfo_71_0 rfl rfl) ?_
    refine Run.y (.int .i64 (ix xs (k * 3))) rfl (OpY.load1 Tone_3 rfl (Cells.blk (.head _) ⟨rfl, trivial⟩)) ?_
    refine Run.done ?_
    refine Run.block ?_
    refine Run.sr ?_
    refine Run.p (.bool ((ix xs (k * 3)) == 9)) rfl rfl ?_
    refine Run.p (.bool ((ix xs (k * 3)) == 9)) rfl rfl ?_
    refine Run.done ?_
    refine Run.cond (b := (ix xs (k * 3)) == 9) rfl (fun h24 => ?_) (fun h24 => ?_)
    ·have p24 := h24; try simp only [bs] at p24
     have hk9 : ix xs (k * 3) = 9 := p24
     have hgs : (0 ≤ ix xs (k * 3 + 1) ∧ ix xs (k * 3 + 1) < (N.toNat : Nat)) ∧ (0 ≤ ix xs (k * 3 + 2) ∧ ix xs (k * 3 + 2) < (N.toNat : Nat)) ∧ ix xs (k * 3 + 1) ≠ ix xs (k * 3 + 2) := by omega
     have ha3 := hgs.1
     have hb3 := hgs.2.1
     have hX : loS N.toNat xs (k + 1) = some (cx l ((ix xs (k * 3 + 1)).toNat, (ix xs (k * 3 + 2)).toNat)) := by rw [loS, hinv.2, Option.bind_some, if_pos hk9]
     refine Run.region ?_
     refine Run.y (.agg #[vr]) rfl (OpY.loadN (cs := [vr]) Tagg_28 rfl (Cells.blk (.tail _ (.tail _ (List.Mem.head _))) ⟨rfl, trivial⟩)) ?_
     refine Run.y (.pointer (some ⟨b4, 1, none⟩)) rfl (OpY.fieldAddr Tfo_71_1 rfl rfl) ?_
     refine Run.y (.int .i64 (ix xs (k * 3 + 1))) rfl (OpY.load1 Tone_3 rfl (Cells.blk (.head _) ⟨rfl, trivial⟩)) ?_
     refine Run.y (.pointer (some ⟨b4, 2, none⟩)) rfl (OpY.fieldAddr Tfo_71_2 rfl rfl) ?_
     refine Run.y (.int .i64 (ix xs (k * 3 + 2))) rfl (OpY.load1 Tone_3 rfl (Cells.blk (.head _) ⟨rfl, trivial⟩)) ?_
     refine Run.step rfl (OpStep.call (vs := [.agg #[vr], .int .i64 (ix xs (k * 3 + 1)), .int .i64 (ix xs (k * 3 + 2))]) (caps := []) Tcall_68 rfl rfl (fun w hs => added_i hll (by omega) ha3 hb3 hl32 (hs.slOwn (.tail _ (List.Mem.head _)))) ?_)
     rintro _ _ ⟨ur1, rfl, rfl⟩
     show Run _ _ (putF _ _ _ (.agg #[ur1])) [.own ur1 3 1 (N.toNat) (ints (nl (cx l ((ix xs (k * 3 + 1)).toNat, (ix xs (k * 3 + 2)).toNat)))), .blk b4 71 [.int .i64 (ix xs (k * 3)), .int .i64 (ix xs (k * 3 + 1)), .int .i64 (ix xs (k * 3 + 2))], .own vr 3 1 (N.toNat) (ints (nl l)), .blk b3 28 [vr], .blk b2 28 [.slice none 0 0], .blk b1 38 [.int .i64 N, .slice (some ⟨b, o, none⟩) n c]]
     refine Run.formOwn (.head _) (fun A_ur11 c_ur11 hv hcapc_ur11 hmaxc_ur11 => ?_) (fun _ _ _ => ⟨nofun, nofun, nofun⟩)
     subst hv
     refine Run.step rfl (OpStep.storeAll (us := [.slice A_ur11 (N.toNat) c_ur11]) Tsize_28 rfl rfl rfl (.there _ (.there _ (.there _ (.here _)))) rfl ?_)
     refine Run.done ?_
     refine Run.blockEnd ?_
     refine Run.blockEnd ?_
     refine Run.region ?_
     refine Run.y (.int .i64 ((((k : Nat) : Int)) + 1)) rfl (OpY.add rfl rfl rfl (by omega) (by omega)) ?_
     refine Run.p (.int .i64 ((((k : Nat) : Int)) + 1)) rfl rfl ?_
     refine Run.done ?_
     refine Run.goal ⟨(by repeat (first | exact Same.refl _ _ | refine Same.put rfl ?_ | refine Same.over rfl rfl ?_)), (k + 1, (cx l ((ix xs (k * 3 + 1)).toNat, (ix xs (k * 3 + 2)).toNat)), .slice A_ur11 (N.toNat) c_ur11), ?_, ?_, ?_, ?_⟩
     ·exact ⟨by omega, hX⟩
     ·show n - (k + 1) < n - k; omega
     ·exact ⟨(by first | rfl | (congr 1; omega) | simp), trivial⟩
     ·exact ((Weak.selF [0, 2, 2, 2]).trans (Some'.weak (.takeEq (by first | rfl | (rw [nl_swp]; done) | (rw [hsw]; done)) (.takeEq (by first | rfl | (rw [nl_swp]; done) | (rw [hsw]; done)) (.take (.takeEq (by first | rfl | (rw [nl_swp]; done) | (rw [hsw]; done)) (.nil _)))))))
    ·have p24 := h24; try simp only [bs] at p24
     refine Run.sr ?_
     refine Run.p (.bool ((ix xs (k * 3)) == 11)) rfl rfl ?_
     refine Run.p (.bool ((ix xs (k * 3)) == 11)) rfl rfl ?_
     refine Run.done ?_
     refine Run.cond (b := (ix xs (k * 3)) == 11) rfl (fun h32 => ?_) (fun h32 => ?_)
     ·have p32 := h32; try simp only [bs] at p32
      have hk11 : ix xs (k * 3) = 11 := p32
      have hgs : (0 ≤ ix xs (k * 3 + 1) ∧ ix xs (k * 3 + 1) < (N.toNat : Nat)) ∧ (0 ≤ ix xs (k * 3 + 2) ∧ ix xs (k * 3 + 2) < (N.toNat : Nat)) ∧ ix xs (k * 3 + 1) ≠ ix xs (k * 3 + 2) := by omega
      have ha3 := hgs.1
      have hb3 := hgs.2.1
      have hsw := swp_cx (l := l) (a := (ix xs (k * 3 + 1)).toNat) (b := (ix xs (k * 3 + 2)).toNat) (by omega) (by omega) (by omega)
      have hX : loS N.toNat xs (k + 1) = some (swp l (ix xs (k * 3 + 1)).toNat (ix xs (k * 3 + 2)).toNat) := by rw [loS, hinv.2, Option.bind_some, if_neg (by omega), if_pos hk11]
      refine Run.openOwn (.tail _ (List.Mem.head _)) (by omega) (fun gs cs hvgs hcapgs _ => ?_) (fun _ _ _ => ⟨nofun, nofun, nofun⟩)
      subst hvgs
      refine Run.heldB (base := [.blk b4 71 [.int .i64 (ix xs (k * 3)), .int .i64 (ix xs (k * 3 + 1)), .int .i64 (ix xs (k * 3 + 2))], .blk b3 28 [.slice (some ⟨gs, 0, none⟩) (N.toNat) cs], .blk b2 28 [.slice none 0 0], .blk b1 38 [.int .i64 N, .slice (some ⟨b, o, none⟩) n c]]) (by kernel_rfl) ?_
      refine DW.take (i := 0) (v := .pointer (some ⟨b3, 0, none⟩)) rfl (by kernel_rfl) (by kernel_rfl) (by kernel_rfl) (fun _ _ _ h => h) (Some'.weak (.take (.skip (.take (.take (.take (.nil _))))))) rfl (OpY.fieldAddr Tfo_28_0 rfl rfl) ?_
      refine DW.take (i := 1) (v := .slice (some ⟨gs, 0, none⟩) (N.toNat) cs) rfl (by kernel_rfl) (by kernel_rfl) (by kernel_rfl) (fun _ _ _ h => h) (Some'.weak (.take (.skip (.take (.take (.take (.nil _))))))) rfl (OpY.load1 Tone_22 rfl (Cells.blk (.tail _ (List.Mem.head _)) ⟨rfl, trivial⟩)) ?_
      refine DW.take (i := 2) (v := .pointer (some ⟨b4, 1, none⟩)) rfl (by kernel_rfl) (by kernel_rfl) (by kernel_rfl) (fun _ _ _ h => h) (Some'.weak (.take (.skip (.take (.take (.take (.nil _))))))) rfl (OpY.fieldAddr Tfo_71_1 rfl rfl) ?_
      refine DW.take (i := 3) (v := .int .i64 (ix xs (k * 3 + 1))) rfl (by kernel_rfl) (by kernel_rfl) (by kernel_rfl) (fun _ _ _ h => h) (Some'.weak (.take (.skip (.take (.take (.take (.nil _))))))) rfl (OpY.load1 Tone_3 rfl (Cells.blk (.head _) ⟨rfl, trivial⟩)) ?_
      refine DW.take (i := 4) (v := .pointer (some ⟨b3, 0, none⟩)) rfl (by kernel_rfl) (by kernel_rfl) (by kernel_rfl) (fun _ _ _ h => h) (Some'.weak (.take (.skip (.take (.take (.take (.nil _))))))) rfl (OpY.fieldAddr Tfo_28_0 rfl rfl) ?_
      refine DW.take (i := 5) (v := .slice (some ⟨gs, 0, none⟩) (N.toNat) cs) rfl (by kernel_rfl) (by kernel_rfl) (by kernel_rfl) (fun _ _ _ h => h) (Some'.weak (.take (.skip (.take (.take (.take (.nil _))))))) rfl (OpY.load1 Tone_22 rfl (Cells.blk (.tail _ (List.Mem.head _)) ⟨rfl, trivial⟩)) ?_
      refine DW.take (i := 6) (v := .pointer (some ⟨b4, 2, none⟩)) rfl (by kernel_rfl) (by kernel_rfl) (by kernel_rfl) (fun _ _ _ h => h) (Some'.weak (.take (.skip (.take (.take (.take (.nil _))))))) rfl (OpY.fieldAddr Tfo_71_2 rfl rfl) ?_
      refine DW.take (i := 7) (v := .int .i64 (ix xs (k * 3 + 2))) rfl (by kernel_rfl) (by kernel_rfl) (by kernel_rfl) (fun _ _ _ h => h) (Some'.weak (.take (.skip (.take (.take (.take (.nil _))))))) rfl (OpY.load1 Tone_3 rfl (Cells.blk (.head _) ⟨rfl, trivial⟩)) ?_
      refine DW.take (i := 8) (v := .pointer (some ⟨b3, 0, none⟩)) rfl (by kernel_rfl) (by kernel_rfl) (by kernel_rfl) (fun _ _ _ h => h) (Some'.weak (.take (.skip (.take (.take (.take (.nil _))))))) rfl (OpY.fieldAddr Tfo_28_0 rfl rfl) ?_
      refine DW.take (i := 9) (v := .slice (some ⟨gs, 0, none⟩) (N.toNat) cs) rfl (by kernel_rfl) (by kernel_rfl) (by kernel_rfl) (fun _ _ _ h => h) (Some'.weak (.take (.skip (.take (.take (.take (.nil _))))))) rfl (OpY.load1 Tone_22 rfl (Cells.blk (.tail _ (List.Mem.head _)) ⟨rfl, trivial⟩)) ?_
      refine DW.take (i := 10) (v := .pointer (some ⟨b4, 2, none⟩)) rfl (by kernel_rfl) (by kernel_rfl) (by kernel_rfl) (fun _ _ _ h => h) (Some'.weak (.take (.skip (.take (.take (.take (.nil _))))))) rfl (OpY.fieldAddr Tfo_71_2 rfl rfl) ?_
      refine DW.take (i := 11) (v := .int .i64 (ix xs (k * 3 + 2))) rfl (by kernel_rfl) (by kernel_rfl) (by kernel_rfl) (fun _ _ _ h => h) (Some'.weak (.take (.skip (.take (.take (.take (.nil _))))))) rfl (OpY.load1 Tone_3 rfl (Cells.blk (.head _) ⟨rfl, trivial⟩)) ?_
      refine DW.take (i := 12) (v := .pointer (some ⟨gs, (ix xs (k * 3 + 2)).toNat, none⟩)) rfl (by kernel_rfl) (by kernel_rfl) (by kernel_rfl) (fun _ _ _ h => h) (Some'.weak (.take (.skip (.take (.take (.take (.nil _))))))) rfl (OpY.index (kk := (ix xs (k * 3 + 2)).toNat) Tsl_22 rfl rfl (by omega) (by omega) (by first | rfl | omega)) ?_
      refine DW.take (i := 14) (v := .pointer (some ⟨b3, 0, none⟩)) rfl (by kernel_rfl) (by kernel_rfl) (by kernel_rfl) (fun _ _ _ h => h) (Some'.weak (.take (.skip (.take (.take (.take (.nil _))))))) rfl (OpY.fieldAddr Tfo_28_0 rfl rfl) ?_
      refine DW.take (i := 15) (v := .slice (some ⟨gs, 0, none⟩) (N.toNat) cs) rfl (by kernel_rfl) (by kernel_rfl) (by kernel_rfl) (fun _ _ _ h => h) (Some'.weak (.take (.skip (.take (.take (.take (.nil _))))))) rfl (OpY.load1 Tone_22 rfl (Cells.blk (.tail _ (List.Mem.head _)) ⟨rfl, trivial⟩)) ?_
      refine DW.take (i := 16) (v := .pointer (some ⟨b4, 1, none⟩)) rfl (by kernel_rfl) (by kernel_rfl) (by kernel_rfl) (fun _ _ _ h => h) (Some'.weak (.take (.skip (.take (.take (.take (.nil _))))))) rfl (OpY.fieldAddr Tfo_71_1 rfl rfl) ?_
      refine DW.take (i := 17) (v := .int .i64 (ix xs (k * 3 + 1))) rfl (by kernel_rfl) (by kernel_rfl) (by kernel_rfl) (fun _ _ _ h => h) (Some'.weak (.take (.skip (.take (.take (.take (.nil _))))))) rfl (OpY.load1 Tone_3 rfl (Cells.blk (.head _) ⟨rfl, trivial⟩)) ?_
      refine DW.take (i := 18) (v := .pointer (some ⟨gs, (ix xs (k * 3 + 1)).toNat, none⟩)) rfl (by kernel_rfl) (by kernel_rfl) (by kernel_rfl) (fun _ _ _ h => h) (Some'.weak (.take (.skip (.take (.take (.take (.nil _))))))) rfl (OpY.index (kk := (ix xs (k * 3 + 1)).toNat) Tsl_22 rfl rfl (by omega) (by omega) (by first | rfl | omega)) ?_
      refine DW.two (i := 13) (j := 19) (by kernel_rfl) rfl rfl rfl rfl ?_ ?_
      ·refine OpStep.q (v := .int .i64 (ix (nl l) ((ix xs (k * 3 + 2)).toNat))) (OpQ.y (OpY.load1 Tone_3 rfl (Cells.own0 (.tail _ (List.Mem.head _)) (pre1 (by first | omega | (simp; omega)))))) ?_
       refine ⟨(Some'.weak (.take (.skip (.take (.take (.take (.nil _))))))), ?_⟩
       refine DW.step (i := 19) (by kernel_rfl) rfl rfl (OpStep.q (v := .int .i64 (ix (nl l) ((ix xs (k * 3 + 1)).toNat))) (OpQ.y (OpY.load1 Tone_3 rfl (Cells.own0 (.tail _ (List.Mem.head _)) (pre1 (by first | omega | (simp; omega)))))) ?_)
       refine ⟨(Some'.weak (.take (.skip (.take (.take (.take (.nil _))))))), ?_⟩
       refine DW.take (i := 20) (v := .pointer (some ⟨gs, (ix xs (k * 3 + 1)).toNat, none⟩)) rfl (by kernel_rfl) (by kernel_rfl) (by kernel_rfl) (fun _ _ _ h => h) (Some'.weak (.take (.skip (.take (.take (.take (.nil _))))))) rfl (OpY.index (kk := (ix xs (k * 3 + 1)).toNat) Tsl_22 rfl rfl (by omega) (by omega) (by first | rfl | omega)) ?_
       refine DW.step (i := 21) (by kernel_rfl) rfl rfl (OpStep.storeOwnInt (o := (ix xs (k * 3 + 1)).toNat) (a := ix (nl l) ((ix xs (k * 3 + 2)).toNat)) Tsize_3 rfl rfl (.there _ (.here _)) (by first | omega | (simp; omega)) ?_)
       refine ⟨(Some'.weak (.take (.skip (.take (.take (.take (.nil _))))))), ?_⟩
       refine DW.take (i := 22) (v := .pointer (some ⟨gs, (ix xs (k * 3 + 2)).toNat, none⟩)) rfl (by kernel_rfl) (by kernel_rfl) (by kernel_rfl) (fun _ _ _ h => h) (Some'.weak (.take (.skip (.take (.take (.take (.nil _))))))) rfl (OpY.index (kk := (ix xs (k * 3 + 2)).toNat) Tsl_22 rfl rfl (by omega) (by omega) (by first | rfl | omega)) ?_
       refine DW.step (i := 23) (by kernel_rfl) rfl rfl (OpStep.storeOwnInt (o := (ix xs (k * 3 + 2)).toNat) (a := ix (nl l) ((ix xs (k * 3 + 1)).toNat)) Tsize_3 rfl rfl (.there _ (.here _)) (by first | omega | (simp; omega)) ?_)
       refine ⟨(Some'.weak (.take (.skip (.take (.take (.take (.nil _))))))), ?_⟩
       refine DW.done (by kernel_rfl) ?_
       refine Run.blockEnd ?_
       refine Run.blockEnd ?_
       refine Run.region ?_
       refine Run.y (.int .i64 ((((k : Nat) : Int)) + 1)) rfl (OpY.add rfl rfl rfl (by omega) (by omega)) ?_
       refine Run.p (.int .i64 ((((k : Nat) : Int)) + 1)) rfl rfl ?_
       refine Run.done ?_
       refine Run.goal ⟨(by repeat (first | exact Same.refl _ _ | refine Same.put rfl ?_ | refine Same.over rfl rfl ?_)), (k + 1, swp l (ix xs (k * 3 + 1)).toNat (ix xs (k * 3 + 2)).toNat, .slice (some ⟨gs, 0, none⟩) (N.toNat) cs), ?_, ?_, ?_, ?_⟩
       ·exact ⟨by omega, hX⟩
       ·show n - (k + 1) < n - k; omega
       ·exact ⟨(by first | rfl | (congr 1; omega) | simp), trivial⟩
       ·exact ((Weak.selF [1, 1, 1, 1]).trans (Some'.weak (.takeEq (by first | rfl | (rw [nl_swp]; done) | (rw [hsw]; done)) (.takeEq (by first | rfl | (rw [nl_swp]; done) | (rw [hsw]; done)) (.take (.takeEq (by first | rfl | (rw [nl_swp]; done) | (rw [hsw]; done)) (.nil _)))))))
      ·refine OpStep.q (v := .int .i64 (ix (nl l) ((ix xs (k * 3 + 1)).toNat))) (OpQ.y (OpY.load1 Tone_3 rfl (Cells.own0 (.tail _ (List.Mem.head _)) (pre1 (by first | omega | (simp; omega)))))) ?_
       refine ⟨(Some'.weak (.take (.skip (.take (.take (.take (.nil _))))))), ?_⟩
       refine DW.step (i := 13) (by kernel_rfl) rfl rfl (OpStep.q (v := .int .i64 (ix (nl l) ((ix xs (k * 3 + 2)).toNat))) (OpQ.y (OpY.load1 Tone_3 rfl (Cells.own0 (.tail _ (List.Mem.head _)) (pre1 (by first | omega | (simp; omega)))))) ?_)
       refine ⟨(Some'.weak (.take (.skip (.take (.take (.take (.nil _))))))), ?_⟩
       refine DW.take (i := 20) (v := .pointer (some ⟨gs, (ix xs (k * 3 + 1)).toNat, none⟩)) rfl (by kernel_rfl) (by kernel_rfl) (by kernel_rfl) (fun _ _ _ h => h) (Some'.weak (.take (.skip (.take (.take (.take (.nil _))))))) rfl (OpY.index (kk := (ix xs (k * 3 + 1)).toNat) Tsl_22 rfl rfl (by omega) (by omega) (by first | rfl | omega)) ?_
       refine DW.step (i := 21) (by kernel_rfl) rfl rfl (OpStep.storeOwnInt (o := (ix xs (k * 3 + 1)).toNat) (a := ix (nl l) ((ix xs (k * 3 + 2)).toNat)) Tsize_3 rfl rfl (.there _ (.here _)) (by first | omega | (simp; omega)) ?_)
       refine ⟨(Some'.weak (.take (.skip (.take (.take (.take (.nil _))))))), ?_⟩
       refine DW.take (i := 22) (v := .pointer (some ⟨gs, (ix xs (k * 3 + 2)).toNat, none⟩)) rfl (by kernel_rfl) (by kernel_rfl) (by kernel_rfl) (fun _ _ _ h => h) (Some'.weak (.take (.skip (.take (.take (.take (.nil _))))))) rfl (OpY.index (kk := (ix xs (k * 3 + 2)).toNat) Tsl_22 rfl rfl (by omega) (by omega) (by first | rfl | omega)) ?_
       refine DW.step (i := 23) (by kernel_rfl) rfl rfl (OpStep.storeOwnInt (o := (ix xs (k * 3 + 2)).toNat) (a := ix (nl l) ((ix xs (k * 3 + 1)).toNat)) Tsize_3 rfl rfl (.there _ (.here _)) (by first | omega | (simp; omega)) ?_)
       refine ⟨(Some'.weak (.take (.skip (.take (.take (.take (.nil _))))))), ?_⟩
       refine DW.done (by kernel_rfl) ?_
       refine Run.blockEnd ?_
       refine Run.blockEnd ?_
       refine Run.region ?_
       refine Run.y (.int .i64 ((((k : Nat) : Int)) + 1)) rfl (OpY.add rfl rfl rfl (by omega) (by omega)) ?_
       refine Run.p (.int .i64 ((((k : Nat) : Int)) + 1)) rfl rfl ?_
       refine Run.done ?_
       refine Run.goal ⟨(by repeat (first | exact Same.refl _ _ | refine Same.put rfl ?_ | refine Same.over rfl rfl ?_)), (k + 1, swp l (ix xs (k * 3 + 1)).toNat (ix xs (k * 3 + 2)).toNat, .slice (some ⟨gs, 0, none⟩) (N.toNat) cs), ?_, ?_, ?_, ?_⟩
       ·exact ⟨by omega, hX⟩
       ·show n - (k + 1) < n - k; omega
       ·exact ⟨(by first | rfl | (congr 1; omega) | simp), trivial⟩
       ·exact ((Weak.selF [1, 1, 1, 1]).trans (Some'.weak (.takeEq (by first | rfl | (rw [nl_swp]; done) | (rw [hsw]; done)) (.takeEq (by first | rfl | (rw [nl_swp]; done) | (rw [hsw]; done)) (.take (.takeEq (by first | rfl | (rw [nl_swp]; done) | (rw [hsw]; done)) (.nil _)))))))
     ·have p32 := h32; try simp only [bs] at p32
      have hno : loS N.toNat xs (k + 1) = none := by rw [loS, hinv.2, Option.bind_some, if_neg (by omega), if_neg (by omega)]
      have hno2 : loS N.toNat xs n = none := by rw [show n = (k + 1) + (n - (k + 1)) by omega]; exact loS_none hno _
      have hB : loB N xs n = false := by rw [loB, hno2, Option.isSome_none, Bool.and_false]
      have hL : loL N xs n = [] := by rw [loL, hB]; rfl
      refine Run.sr ?_
      refine Run.y (.agg #[.slice none 0 0]) rfl (OpY.build (cs := [.slice none 0 0]) (by kernel_rfl)) ?_
      refine Run.step rfl (OpStep.storeAll (us := [.slice none 0 0]) Tsize_28 rfl rfl rfl (.there _ (.there _ (.there _ (.here _)))) rfl ?_)
      refine Run.p (.bool false) rfl rfl ?_
      refine Run.done ?_
      refine Run.ret ?_
      refine ⟨.tuple #[.agg #[.slice none 0 0], .bool false], [.own (.slice none 0 0) 3 1 ((loL N xs n).length) (ints (nl (loL N xs n)))], Out.cell2 (cs := [.slice none 0 0]) rfl Tagg_28 rfl (Cells.blk (.tail _ (.tail _ (.tail _ (List.Mem.head _)))) ⟨rfl, trivial⟩) rfl, ((Weak.nilOwn 3 1).trans (Some'.weak (.takeEq (by first | (rw [hL]; done) | (rw [hL]; rfl) | (rw [hL, hll])) (.nil _)))), ?_⟩
      exact ⟨_, by rw [hB], rfl⟩
   ·have p18 := h18; try simp only [bs] at p18
    have hknk : k = n := by omega
    refine Run.exit rfl ?_
    refine Run.seq ?_
    have hnn : loS N.toNat xs n = some l := by rw [← hknk]; exact hinv.2
    have hB : loB N xs n = true := by rw [loB, hok, hnn]; rfl
    have hL : loL N xs n = l := by rw [loL, if_pos hB, hnn]; rfl
    have hll := loS_len hinv.2
    refine Run.region ?_
    refine Run.y (.agg #[vr]) rfl (OpY.loadN (cs := [vr]) Tagg_28 rfl (Cells.blk (.tail _ (List.Mem.head _)) ⟨rfl, trivial⟩)) ?_
    refine Run.formOwn (.head _) (fun A_vr1 c_vr1 hv hcapc_vr1 hmaxc_vr1 => ?_) (fun _ _ _ => ⟨nofun, nofun, nofun⟩)
    subst hv
    refine Run.step rfl (OpStep.storeAll (us := [.slice A_vr1 (N.toNat) c_vr1]) Tsize_28 rfl rfl rfl (.there _ (.there _ (.here _))) rfl ?_)
    refine Run.p (.bool true) rfl rfl ?_
    refine Run.done ?_
    refine Run.ret ?_
    refine ⟨.tuple #[.agg #[.slice A_vr1 (N.toNat) c_vr1], .bool true], [.own (.slice A_vr1 (N.toNat) c_vr1) 3 1 ((loL N xs n).length) (ints (nl (loL N xs n)))], Out.cell2 (cs := [.slice A_vr1 (N.toNat) c_vr1]) rfl Tagg_28 rfl (Cells.blk (.tail _ (.tail _ (List.Mem.head _))) ⟨rfl, trivial⟩) rfl, (Some'.weak (.takeEq (by first | (rw [hL]; done) | (rw [hL]; rfl) | (rw [hL, hll])) (.nil _))), ?_⟩
    exact ⟨_, by rw [hB], rfl⟩

set_option maxHeartbeats 1000000 in
set_option maxRecDepth 20000 in
theorem inverted_spec {va : Value} {n : Nat} {r : List Nat} {w : World} (hl : r.length = n) (h1 : 1 ≤ n) (h5 : n ≤ 5) (hb : ∀ i, nx r i < 2 ^ n) (ha : Sl w va 1 n (ints (nl r))) : Calls Try.prog 77 #[.agg #[va]] w (Post No w fun v H => ∃ u, v = .agg #[u] ∧ H = [.own u 3 1 n (ints (nl (cxs (idL n) (elW n r))))]) := by
 have hlw := elW_len h5 r
 obtain ⟨A, c, rfl, _, _⟩ := ha.form0
 refine enter (n := 33) (args := [.agg #[.slice A n c]]) Try.func77 rfl rfl (St.empty _ _) ?_
 refine Run.sr ?_
 refine Run.step rfl (OpStep.box (us := [.slice A n c]) rfl fun b1 => ?_)
 refine Run.step rfl (OpStep.alloc (zs := [.slice none 0 0]) Tzero_28 fun b2 => ?_)
 refine Run.dsr ?_
 refine Run.y (.pointer (some ⟨b1, 0, none⟩)) rfl (OpY.fieldAddr Tfo_28_0 rfl rfl) ?_
 refine Run.y (.slice A n c) rfl (OpY.load1 Tone_22 rfl (Cells.blk (.tail _ (List.Mem.head _)) ⟨rfl, trivial⟩)) ?_
 refine Run.y (.int .i64 (((n : Nat) : Int))) rfl (OpY.len Tsl_22 rfl) ?_
 refine Run.step rfl (OpStep.call (vs := [.int .i64 (((n : Nat) : Int))]) (caps := []) Tcall_67 rfl rfl (fun w hs => identityLinear_spec h5 w) ?_)
 rintro _ _ ⟨ui, rfl, rfl⟩
 show Run _ _ (putF _ _ _ (.agg #[ui])) [.own ui 3 1 n (ints (nl (idL n))), .blk b2 28 [.slice none 0 0], .blk b1 28 [.slice A n c]]
 refine Run.step rfl (OpStep.alloc (zs := [.slice none 0 0]) Tzero_28 fun b3 => ?_)
 refine Run.formOwn (.tail _ (List.Mem.head _)) (fun A_ui1 c_ui1 hv hcapc_ui1 hmaxc_ui1 => ?_) (fun _ _ _ => ⟨nofun, nofun, nofun⟩)
 subst hv
 refine Run.step rfl (OpStep.storeAll (us := [.slice A_ui1 n c_ui1]) Tsize_28 rfl rfl rfl (.here _) rfl ?_)
 refine Run.done ?_
 refine Run.seq ?_
 refine Run.sr ?_
 refine Run.y (.agg #[.slice A n c]) rfl (OpY.loadN (cs := [.slice A n c]) Tagg_28 rfl (Cells.blk (.tail _ (.tail _ (.tail _ (List.Mem.head _)))) ⟨rfl, trivial⟩)) ?_
 refine Run.step rfl (OpStep.call (vs := [.agg #[.slice A n c]]) (caps := []) Tcall_98 rfl rfl (fun w hs => eliminated_spec hl h1 h5 hb (hs.sl ha)) ?_)
 rintro ue _ rfl
 show Run _ _ (putF _ _ _ ue) [.own ue 71 3 ((elW n r).length) (ints (flCX (elW n r))), .blk b3 28 [.slice A_ui1 n c_ui1], .own (.slice A_ui1 n c_ui1) 3 1 n (ints (nl (idL n))), .blk b2 28 [.slice none 0 0], .blk b1 28 [.slice A n c]]
 refine Run.formOwn (.head _) (fun A_ue1 c_ue1 hv hcapc_ue1 hmaxc_ue1 => ?_) (fun _ _ _ => ⟨nofun, nofun, nofun⟩)
 subst hv
 refine Run.y (.int .i64 ((((elW n r).length : Nat) : Int))) rfl (OpY.len Tsl_36 rfl) ?_
 refine Run.p (.int .i64 0) rfl rfl ?_
 refine Run.done ?_
 refine Run.block ?_
 refine Run.loop (ι := Nat) [5, 13, 14, 15, 16, 17, 18, 19, 20, 21, 22, 23, 24, 25, 26, 27, 28, 29, 30, 31] (fun k => [(13, .int .i64 (((k : Nat) : Int)))]) (fun k => [.own (.slice A_ue1 ((elW n r).length) c_ue1) 71 3 ((elW n r).length) (ints (flCX (elW n r))), .blk b3 28 [.slice A_ui1 n c_ui1], .own (.slice A_ui1 n c_ui1) 3 1 n (ints (nl (cxs (idL n) ((elW n r).take k)))), .blk b2 28 [.slice none 0 0], .blk b1 28 [.slice A n c]]) (fun k => k ≤ (elW n r).length) (fun k => (elW n r).length - k) 0 ?_ ?_ ?_ ?_
 ·exact Nat.zero_le _
 ·exact ⟨rfl, trivial⟩
 ·exact (Some'.weak (.take (.take (.takeEq (by first | rfl | (rw [nl_set, ← hX])) (.take (.take (.nil _)))))))
 ·rintro k fr hinv
  show Run _ _ (over _ _ [(13, .int .i64 (((k : Nat) : Int)))] fr) [.own (.slice A_ue1 ((elW n r).length) c_ue1) 71 3 ((elW n r).length) (ints (flCX (elW n r))), .blk b3 28 [.slice A_ui1 n c_ui1], .own (.slice A_ui1 n c_ui1) 3 1 n (ints (nl (cxs (idL n) ((elW n r).take k)))), .blk b2 28 [.slice none 0 0], .blk b1 28 [.slice A n c]]
  try dsimp only at hinv
  refine Run.sr ?_
  refine Run.p (.bool (decide ((((k : Nat) : Int)) < ((((elW n r).length : Nat) : Int))))) rfl rfl ?_
  refine Run.done ?_
  refine Run.seq ?_
  refine Run.cond (b := decide ((((k : Nat) : Int)) < ((((elW n r).length : Nat) : Int)))) rfl (fun h14 => ?_) (fun h14 => ?_)
  ·have p14 := h14; try simp only [bs] at p14
   have hkl : k < (elW n r).length := by omega
   have hfl := flCX_length (elW n r)
   have hg := flCX_ix3 hkl
   have hwk := elW_ok n r _ (gat_mem hkl)
   have hcl : (cxs (idL n) ((elW n r).take k)).length = n := by rw [cxs_length]; simp
   have hnc := nl_length (cxs (idL n) ((elW n r).take k))
   have h32 := lt32 h5 (cxs_lt ((elW n r).take k) _ (idL_lt n))
   have hxa := h32 (gat (elW n r) k).1
   have hxb := h32 (gat (elW n r) k).2
   have hX : cxs (idL n) ((elW n r).take (k + 1)) = (cxs (idL n) ((elW n r).take k)).set (gat (elW n r) k).2 (nx (cxs (idL n) ((elW n r).take k)) (gat (elW n r) k).2 ^^^ nx (cxs (idL n) ((elW n r).take k)) (gat (elW n r) k).1) := by rw [cxs_take hkl]; rfl
   refine Run.openOwn (.head _) (by omega) (fun gg cg hvgg hcapgg _ => ?_) (fun _ _ _ => ⟨nofun, nofun, nofun⟩)
   injection hvgg with hAgg _ hcgg; subst hAgg; subst hcgg
   refine Run.openOwn (.tail _ (.tail _ (List.Mem.head _))) (by omega) (fun gr cr hvgr hcapgr _ => ?_) (fun _ _ _ => ⟨nofun, nofun, nofun⟩)
   injection hvgr with hAgr _ hcgr; subst hAgr; subst hcgr
   refine Run.skip ?_
   refine Run.seq ?_
   refine Run.block ?_
   refine Run.sr ?_
   refine Run.y (.pointer (some ⟨gg, k * 3, none⟩)) rfl (OpY.index (kk := k) Tsl_36 rfl rfl (by omega) (by omega) (by first | rfl | omega)) ?_
   refine Run.y (.agg #[.int .i64 (ix (flCX (elW n r)) (k * 3)), .int .i64 (ix (flCX (elW n r)) (k * 3 + 1)), .int .i64 (ix (flCX (elW n r)) (k * 3 + 2))]) rfl (OpY.loadN (cs := [.int .i64 (ix (flCX (elW n r)) (k * 3)), .int .i64 (ix (flCX (elW n r)) (k * 3 + 1)), .int .i64 (ix (flCX (elW n r)) (k * 3 + 2))]) Tagg_71 rfl (Cells.own0 (.head _) (pre3 (by first | omega | (simp; omega))))) ?_
   refine Run.step rfl (OpStep.alloc (zs := [.int .i64 0, .int .i64 0, .int .i64 0]) Tzero_71 fun b4 => ?_)
   refine Run.step rfl (OpStep.storeAll (us := [.int .i64 (ix (flCX (elW n r)) (k * 3)), .int .i64 (ix (flCX (elW n r)) (k * 3 + 1)), .int .i64 (ix (flCX (elW n r)) (k * 3 + 2))]) Tsize_71 rfl rfl rfl (.here _) rfl ?_)
   refine Run.done ?_
   refine Run.lastly [14] (by kernel_rfl) ?_
   refine DL.takeP (i := 0) (v := .pointer (some ⟨b3, 0, none⟩)) rfl (by kernel_rfl) (by kernel_rfl) (by kernel_rfl) (fun _ _ _ h => h) rfl (fun _ => OpY.fieldAddr Tfo_28_0 rfl rfl) ?_
   refine DL.take (i := 1) (v := .slice (some ⟨gr, 0, none⟩) n c_ui1) rfl (by kernel_rfl) (by kernel_rfl) (by kernel_rfl) (by kernel_rfl) (fun _ _ _ h => h) (Some'.weak (.take (.take (.take (.take (.take (.take (.nil _)))))))) rfl (OpY.load1 Tone_22 rfl (Cells.blk (.tail _ (.tail _ (List.Mem.head _))) ⟨rfl, trivial⟩)) ?_
   refine DL.takeP (i := 2) (v := .pointer (some ⟨b4, 2, none⟩)) rfl (by kernel_rfl) (by kernel_rfl) (by kernel_rfl) (fun _ _ _ h => h) rfl (fun _ => OpY.fieldAddr Tfo_71_2 rfl rfl) ?_
   refine DL.take (i := 3) (v := .int .i64 (ix (flCX (elW n r)) (k * 3 + 2))) rfl (by kernel_rfl) (by kernel_rfl) (by kernel_rfl) (by kernel_rfl) (fun _ _ _ h => h) (Some'.weak (.take (.take (.take (.take (.take (.take (.nil _)))))))) rfl (OpY.load1 Tone_3 rfl (Cells.blk (.head _) ⟨rfl, trivial⟩)) ?_
   refine DL.takeP (i := 4) (v := .pointer (some ⟨gr, (gat (elW n r) k).2, none⟩)) rfl (by kernel_rfl) (by kernel_rfl) (by kernel_rfl) (fun _ _ _ h => h) rfl (fun _ => OpY.index (kk := (gat (elW n r) k).2) Tsl_22 rfl rfl (by omega) (by omega) (by first | rfl | omega)) ?_
   refine DL.take (i := 5) (v := .int .i64 (ix (nl (cxs (idL n) ((elW n r).take k))) ((gat (elW n r) k).2))) rfl (by kernel_rfl) (by kernel_rfl) (by kernel_rfl) (by kernel_rfl) (fun _ _ _ h => h) (Some'.weak (.take (.take (.take (.take (.take (.take (.nil _)))))))) rfl (OpY.load1 Tone_3 rfl (Cells.own0 (.tail _ (.tail _ (.tail _ (List.Mem.head _)))) (pre1 (by first | omega | (simp; omega))))) ?_
   refine DL.takeP (i := 6) (v := .pointer (some ⟨b3, 0, none⟩)) rfl (by kernel_rfl) (by kernel_rfl) (by kernel_rfl) (fun _ _ _ h => h) rfl (fun _ => OpY.fieldAddr Tfo_28_0 rfl rfl) ?_
   refine DL.take (i := 7) (v := .slice (some ⟨gr, 0, none⟩) n c_ui1) rfl (by kernel_rfl) (by kernel_rfl) (by kernel_rfl) (by kernel_rfl) (fun _ _ _ h => h) (Some'.weak (.take (.take (.take (.take (.take (.take (.nil _)))))))) rfl (OpY.load1 Tone_22 rfl (Cells.blk (.tail _ (.tail _ (List.Mem.head _))) ⟨rfl, trivial⟩)) ?_
   refine DL.takeP (i := 8) (v := .pointer (some ⟨b4, 1, none⟩)) rfl (by kernel_rfl) (by kernel_rfl) (by kernel_rfl) (fun _ _ _ h => h) rfl (fun _ => OpY.fieldAddr Tfo_71_1 rfl rfl) ?_
   refine DL.take (i := 9) (v := .int .i64 (ix (flCX (elW n r)) (k * 3 + 1))) rfl (by kernel_rfl) (by kernel_rfl) (by kernel_rfl) (by kernel_rfl) (fun _ _ _ h => h) (Some'.weak (.take (.take (.take (.take (.take (.take (.nil _)))))))) rfl (OpY.load1 Tone_3 rfl (Cells.blk (.head _) ⟨rfl, trivial⟩)) ?_
   refine DL.takeP (i := 10) (v := .pointer (some ⟨gr, (gat (elW n r) k).1, none⟩)) rfl (by kernel_rfl) (by kernel_rfl) (by kernel_rfl) (fun _ _ _ h => h) rfl (fun _ => OpY.index (kk := (gat (elW n r) k).1) Tsl_22 rfl rfl (by omega) (by omega) (by first | rfl | omega)) ?_
   refine DL.take (i := 11) (v := .int .i64 (ix (nl (cxs (idL n) ((elW n r).take k))) ((gat (elW n r) k).1))) rfl (by kernel_rfl) (by kernel_rfl) (by kernel_rfl) (by kernel_rfl) (fun _ _ _ h => h) (Some'.weak (.take (.take (.take (.take (.take (.take (.nil _)))))))) rfl (OpY.load1 Tone_3 rfl (Cells.own0 (.tail _ (.tail _ (.tail _ (List.Mem.head _)))) (pre1 (by first | omega | (simp; omega))))) ?_
   refine DL.takeP (i := 12) (v := .int .i64 (((nx (cxs (idL n) ((elW n r).take k)) (gat (elW n r) k).2 ^^^ nx (cxs (idL n) ((elW n r).take k)) (gat (elW n r) k).1 : Nat) : Int))) rfl (by kernel_rfl) (by kernel_rfl) (by kernel_rfl) (fun _ _ _ h => h) rfl (fun _ => OpY.xorNat rfl rfl (ix_nl _ _) (ix_nl _ _) (by omega) (by omega)) ?_
   refine DL.takeP (i := 13) (v := .pointer (some ⟨gr, (gat (elW n r) k).2, none⟩)) rfl (by kernel_rfl) (by kernel_rfl) (by kernel_rfl) (fun _ _ _ h => h) rfl (fun _ => OpY.index (kk := (gat (elW n r) k).2) Tsl_22 rfl rfl (by omega) (by omega) (by first | rfl | omega)) ?_
   refine DL.step (i := 14) (by kernel_rfl) (by kernel_rfl) rfl rfl (OpStep.storeOwnInt (o := (gat (elW n r) k).2) (a := ((nx (cxs (idL n) ((elW n r).take k)) (gat (elW n r) k).2 ^^^ nx (cxs (idL n) ((elW n r).take k)) (gat (elW n r) k).1 : Nat) : Int)) Tsize_3 rfl rfl (.there _ (.there _ (.there _ (.here _)))) (by first | omega | (simp; omega)) ?_)
   refine DL.done (by kernel_rfl) ?_
   refine Run.blockEnd ?_
   refine Run.region ?_
   refine Run.y (.int .i64 ((((k : Nat) : Int)) + 1)) rfl (OpY.add rfl rfl rfl (by omega) (by omega)) ?_
   refine Run.p (.int .i64 ((((k : Nat) : Int)) + 1)) rfl rfl ?_
   refine Run.done ?_
   refine Run.goal ⟨(by repeat (first | exact Same.refl _ _ | refine Same.put rfl ?_ | refine Same.over rfl rfl ?_)), k + 1, ?_, ?_, ?_, ?_⟩
   ·exact hkl
   ·omega
   ·exact ⟨(by first | rfl | (congr 1; omega) | simp), trivial⟩
   ·exact (Some'.weak (.skip (.takeEq (by first | rfl | (rw [nl_set, ← hX])) (.takeEq (by first | rfl | (rw [nl_set, ← hX])) (.takeEq (by first | rfl | (rw [nl_set, ← hX])) (.take (.take (.nil _))))))))
  ·have p14 := h14; try simp only [bs] at p14
   have hkl : k = (elW n r).length := by omega
   refine Run.exit rfl ?_
   refine Run.sr ?_
   refine Run.y (.agg #[.slice A_ui1 n c_ui1]) rfl (OpY.loadN (cs := [.slice A_ui1 n c_ui1]) Tagg_28 rfl (Cells.blk (.tail _ (List.Mem.head _)) ⟨rfl, trivial⟩)) ?_
   refine Run.step rfl (OpStep.storeAll (us := [.slice A_ui1 n c_ui1]) Tsize_28 rfl rfl rfl (.there _ (.there _ (.there _ (.here _)))) rfl ?_)
   refine Run.done ?_
   refine Run.ret ?_
   refine ⟨.agg #[.slice A_ui1 n c_ui1], [.own (.slice A_ui1 n c_ui1) 3 1 n (ints (nl (cxs (idL n) (elW n r))))], Out.cell1 (cs := [.slice A_ui1 n c_ui1]) rfl Tagg_28 rfl (Cells.blk (.tail _ (.tail _ (.tail _ (List.Mem.head _)))) ⟨rfl, trivial⟩), (Some'.weak (.skip (.skip (.takeEq (by rw [hkl, List.take_length]) (.nil _))))), ?_⟩
   exact ⟨_, rfl, rfl⟩


/-- The inverse of a valid map. -/
def inL (n : Nat) (xs : List Int) : List Nat := if linOk xs n then cxs (idL n) (elW n (nats xs)) else []
theorem inL_facts {n : Nat} {xs : List Int} (hl : xs.length = n) (h : linOk xs n = true) : inL n xs = cxs (idL n) (elW n (nats xs)) ∧ (inL n xs).length = n ∧ linOk (nl (inL n xs)) n = true := by
  obtain ⟨h1, h5, hnx, hnl, hlt, hin⟩ := lin_facts hl h
  have e : inL n xs = cxs (idL n) (elW n (nats xs)) := if_pos h
  rw [e]
  refine ⟨rfl, by rw [cxs_length]; simp, linOk_of h1 h5 (by rw [cxs_length]; simp) (cxs_lt _ _ (idL_lt n)) (inv_ok hnl hlt hin)⟩
def coB (n : Nat) (xs : List Int) (m : Nat) (ys : List Int) : Bool := (linOk xs n && linOk ys m) && decide (n = m)
def coL (n : Nat) (xs : List Int) (m : Nat) (ys : List Int) : List Nat := if coB n xs m ys then comp (nats xs) (nats ys) else []
theorem comp_take {m l : List Nat} {k : Nat} (h : k < l.length) : comp m (l.take (k + 1)) = comp m (l.take k) ++ [thF m (nx l k) m.length] := by
  have e : l.take (k + 1) = l.take k ++ [nx l k] := by rw [List.take_add_one]; simp [nx, List.getD, h]
  rw [e]; simp [comp]
theorem ints_nl_snoc (l : List Nat) (x : Nat) : ints (nl l) ++ [.int .i64 (x : Int)] = ints (nl (l ++ [x])) := by simp [nl, ints]

set_option maxHeartbeats 1000000 in
set_option maxRecDepth 20000 in
theorem InvertLinear_spec {va : Value} {n : Nat} {xs : List Int} {w : World} (ha : Sl w va 1 n (ints xs)) : Calls Try.prog 36 #[.agg #[va]] w (Post No w fun v H => ∃ u, v = .tuple #[.agg #[u], .bool (linOk xs n)] ∧ H = [.own u 3 1 (inL n xs).length (ints (nl (inL n xs)))]) := by
 have hxl : xs.length = n := by have := ha.len; omega
 obtain ⟨A, c, rfl, _, _⟩ := ha.form0
 refine enter (n := 10) (args := [.agg #[.slice A n c]]) Try.func36 rfl rfl (St.empty _ _) ?_
 refine Run.sr ?_
 refine Run.step rfl (OpStep.box (us := [.slice A n c]) rfl fun b1 => ?_)
 refine Run.step rfl (OpStep.alloc (zs := [.slice none 0 0]) Tzero_28 fun b2 => ?_)
 refine Run.p (.bool false) rfl rfl ?_
 refine Run.done ?_
 refine Run.seq ?_
 refine Run.sr ?_
 refine Run.y (.agg #[.slice A n c]) rfl (OpY.loadN (cs := [.slice A n c]) Tagg_28 rfl (Cells.blk (.tail _ (List.Mem.head _)) ⟨rfl, trivial⟩)) ?_
 refine Run.q (v := .bool (linOk xs n)) rfl (OpQ.call (vs := [.agg #[.slice A n c]]) (caps := []) Tcall_35 rfl rfl (fun w hs => IsValidLinear_spec (hs.sl ha))) ?_
 refine Run.p (.bool (!(linOk xs n))) rfl rfl ?_
 refine Run.done ?_
 refine Run.cond (b := !(linOk xs n)) rfl (fun h6 => ?_) (fun h6 => ?_)
 ·have p6 := h6; try simp only [bs] at p6
  have hok : linOk xs n = false := by simpa using p6
  have e1 : inL n xs = [] := by rw [inL, hok]; rfl
  refine Run.sr ?_
  refine Run.y (.agg #[.slice none 0 0]) rfl (OpY.build (cs := [.slice none 0 0]) (by kernel_rfl)) ?_
  refine Run.step rfl (OpStep.storeAll (us := [.slice none 0 0]) Tsize_28 rfl rfl rfl (.here _) rfl ?_)
  refine Run.p (.bool false) rfl rfl ?_
  refine Run.done ?_
  refine Run.ret ?_
  refine ⟨.tuple #[.agg #[.slice none 0 0], .bool false], [.own (.slice none 0 0) 3 1 ((inL n xs).length) (ints (nl (inL n xs)))], Out.cell2 (cs := [.slice none 0 0]) rfl Tagg_28 rfl (Cells.blk (.head _) ⟨rfl, trivial⟩) rfl, ((Weak.nilOwn 3 1).trans (Some'.weak (.takeEq (by first | (rw [e2, e1]; done) | (rw [e1]; rfl)) (.nil _)))), ?_⟩
  exact ⟨_, by rw [hok], rfl⟩
 ·have p6 := h6; try simp only [bs] at p6
  have hok : linOk xs n = true := by simpa using p6
  obtain ⟨h1, h5, hnx, hnl, hlt, hin⟩ := lin_facts hxl hok
  obtain ⟨e1, e2, e3⟩ := inL_facts hxl hok
  have ha2 : Sl w (.slice A n c) 1 n (ints (nl (nats xs))) := by rw [hnx]; exact ha
  refine Run.skip ?_
  refine Run.sr ?_
  refine Run.y (.agg #[.slice A n c]) rfl (OpY.loadN (cs := [.slice A n c]) Tagg_28 rfl (Cells.blk (.tail _ (List.Mem.head _)) ⟨rfl, trivial⟩)) ?_
  refine Run.step rfl (OpStep.call (vs := [.agg #[.slice A n c]]) (caps := []) Tcall_77 rfl rfl (fun w hs => inverted_spec hnl h1 h5 hlt (hs.sl ha2)) ?_)
  rintro _ _ ⟨ui, rfl, rfl⟩
  show Run _ _ (putF _ _ _ (.agg #[ui])) [.own ui 3 1 n (ints (nl (cxs (idL n) (elW n (nats xs))))), .blk b2 28 [.slice none 0 0], .blk b1 28 [.slice A n c]]
  refine Run.formOwn (.head _) (fun A_ui1 c_ui1 hv hcapc_ui1 hmaxc_ui1 => ?_) (fun _ _ _ => ⟨nofun, nofun, nofun⟩)
  subst hv
  refine Run.step rfl (OpStep.storeAll (us := [.slice A_ui1 n c_ui1]) Tsize_28 rfl rfl rfl (.there _ (.here _)) rfl ?_)
  refine Run.p (.bool true) rfl rfl ?_
  refine Run.done ?_
  refine Run.ret ?_
  refine ⟨.tuple #[.agg #[.slice A_ui1 n c_ui1], .bool true], [.own (.slice A_ui1 n c_ui1) 3 1 ((inL n xs).length) (ints (nl (inL n xs)))], Out.cell2 (cs := [.slice A_ui1 n c_ui1]) rfl Tagg_28 rfl (Cells.blk (.tail _ (List.Mem.head _)) ⟨rfl, trivial⟩) rfl, (Some'.weak (.takeEq (by first | (rw [e2, e1]; done) | (rw [e1]; rfl)) (.nil _))), ?_⟩
  exact ⟨_, by rw [hok], rfl⟩

set_option maxHeartbeats 1000000 in
set_option maxRecDepth 20000 in
theorem through_spec {va : Value} {n x : Nat} {r : List Nat} {w : World} (hl : r.length = n) (h5 : n ≤ 5) (hb : ∀ i, nx r i < 32) (ha : Sl w va 1 n (ints (nl r))) : Calls Try.prog 78 #[.agg #[va], .int .i64 (x : Nat)] w (Post No w fun v _ => v = .int .i64 ((thF r x n : Nat) : Int)) := by
 have hnl := nl_length r
 obtain ⟨A, c, rfl, _, _⟩ := ha.form0
 refine enter (n := 26) (args := [.agg #[.slice A n c], .int .i64 (((x : Nat) : Int))]) Try.func78 rfl rfl (St.empty _ _) ?_
 refine Run.sr ?_
 refine Run.step rfl (OpStep.box (us := [.slice A n c]) rfl fun b1 => ?_)
 refine Run.p (.int .i64 0) rfl rfl ?_
 refine Run.dsr ?_
 refine Run.p (.int .i64 0) rfl rfl ?_
 refine Run.done ?_
 refine Run.seq ?_
 refine Run.sr ?_
 refine Run.y (.pointer (some ⟨b1, 0, none⟩)) rfl (OpY.fieldAddr Tfo_28_0 rfl rfl) ?_
 refine Run.y (.slice A n c) rfl (OpY.load1 Tone_22 rfl (Cells.blk (.head _) ⟨rfl, trivial⟩)) ?_
 refine Run.y (.int .i64 (((n : Nat) : Int))) rfl (OpY.len Tsl_22 rfl) ?_
 refine Run.p (.int .i64 0) rfl rfl ?_
 refine Run.done ?_
 refine Run.block ?_
 refine Run.loop (ι := Nat) [5, 6, 7, 11, 12, 13, 14, 15, 16, 17, 18, 19, 20, 21, 22, 23, 24] (fun q => [(5, .int .i64 (((thF r x q : Nat) : Int))), (11, .int .i64 (((q : Nat) : Int)))]) (fun q => [.blk b1 28 [.slice A n c]]) (fun q => q ≤ n ∧ (True)) (fun q => n - q) 0 ?_ ?_ ?_ ?_
 ·exact ⟨Nat.zero_le _, by first | trivial | (intro i hi; omega)⟩
 ·exact ⟨rfl, rfl, trivial⟩
 ·exact (Some'.weak (.take (.nil _)))
 ·rintro q fr hinv
  show Run _ _ (over _ _ [(5, .int .i64 (((thF r x q : Nat) : Int))), (11, .int .i64 (((q : Nat) : Int)))] fr) [.blk b1 28 [.slice A n c]]
  try dsimp only at hinv
  refine Run.sr ?_
  refine Run.p (.bool (decide ((((q : Nat) : Int)) < (((n : Nat) : Int))))) rfl rfl ?_
  refine Run.done ?_
  refine Run.seq ?_
  refine Run.cond (b := decide ((((q : Nat) : Int)) < (((n : Nat) : Int)))) rfl (fun h12 => ?_) (fun h12 => ?_)
  ·have p12 := h12; try simp only [bs] at p12
   have hltq : q < n := by omega
   obtain ⟨b, o, rfl⟩ := ha.opn (by omega)
   have hbt := thF_lt (k := 5) hb x q
   have hbq := hb q
   refine Run.skip ?_
   refine Run.seq ?_
   refine Run.block ?_
   refine Run.sr ?_
   refine Run.p (.int .i64 (((q : Nat) : Int))) rfl rfl ?_
   refine Run.y (.pointer (some ⟨b, o + q, none⟩)) rfl (OpY.index (kk := q) Tsl_22 rfl rfl (by omega) (by omega) (by first | rfl | omega)) ?_
   refine Run.y (.int .i64 (ix (nl r) (q))) rfl (OpY.load1 Tone_3 rfl (Cells.arg (k := q) ha rfl (by omega) (pre1 (by omega)))) ?_
   refine Run.p (.int .i64 (((q : Nat) : Int))) rfl rfl ?_
   refine Run.p (.int .i64 (ix (nl r) (q))) rfl rfl ?_
   refine Run.dsr ?_
   refine Run.p (.int .i64 (((x : Nat) : Int))) rfl rfl ?_
   refine Run.p (.int .i64 (((q : Nat) : Int))) rfl rfl ?_
   refine Run.y (.int .i64 ((((x : Nat) : Int)) >>> q)) rfl (OpY.shr rfl rfl (by first | rfl | omega) (by omega)) ?_
   refine Run.y (.int .i64 (((((x : Nat) : Int)) >>> q) % 2)) rfl (OpY.and1 rfl rfl) ?_
   refine Run.p (.bool ((((((x : Nat) : Int)) >>> q) % 2) == 1)) rfl rfl ?_
   refine Run.done ?_
   refine Run.cond (b := (((((x : Nat) : Int)) >>> q) % 2) == 1) rfl (fun h20 => ?_) (fun h20 => ?_)
   ·have p20 := h20; try simp only [bs] at p20
    refine Run.region ?_
    refine Run.p (.int .i64 (((thF r x q : Nat) : Int))) rfl rfl ?_
    refine Run.p (.int .i64 (ix (nl r) (q))) rfl rfl ?_
    refine Run.y (.int .i64 (((thF r x q ^^^ nx r q : Nat) : Int))) rfl (OpY.xorNat rfl rfl rfl (ix_nl _ _) (by omega) (by omega)) ?_
    refine Run.p (.int .i64 (((thF r x q ^^^ nx r q : Nat) : Int))) rfl rfl ?_
    refine Run.done ?_
    refine Run.blockEnd ?_
    refine Run.region ?_
    refine Run.y (.int .i64 ((((q : Nat) : Int)) + 1)) rfl (OpY.add rfl rfl rfl (by omega) (by omega)) ?_
    refine Run.p (.int .i64 ((((q : Nat) : Int)) + 1)) rfl rfl ?_
    refine Run.done ?_
    refine Run.goal ⟨(by repeat (first | exact Same.refl _ _ | refine Same.put rfl ?_ | refine Same.over rfl rfl ?_)), q + 1, ?_, ?_, ?_, ?_⟩
    ·refine ⟨by omega, ?_⟩
     trivial
    ·omega
    ·exact ⟨(by show Value.int _ _ = Value.int _ _; first | rw [thF, if_pos (by rw [← bitI_nat]; exact bitI_true p20)] | rw [thF, if_neg (by rw [← bitI_nat, bitI_ne1 p20]; decide)]), (by first | rfl | (congr 1; omega) | simp), trivial⟩
    ·exact (Some'.weak (.takeEq (by first | rfl | simp) (.nil _)))
   ·have p20 := h20; try simp only [bs] at p20
    refine Run.skip ?_
    refine Run.blockEnd ?_
    refine Run.region ?_
    refine Run.y (.int .i64 ((((q : Nat) : Int)) + 1)) rfl (OpY.add rfl rfl rfl (by omega) (by omega)) ?_
    refine Run.p (.int .i64 ((((q : Nat) : Int)) + 1)) rfl rfl ?_
    refine Run.done ?_
    refine Run.goal ⟨(by repeat (first | exact Same.refl _ _ | refine Same.put rfl ?_ | refine Same.over rfl rfl ?_)), q + 1, ?_, ?_, ?_, ?_⟩
    ·refine ⟨by omega, ?_⟩
     trivial
    ·omega
    ·exact ⟨(by show Value.int _ _ = Value.int _ _; first | rw [thF, if_pos (by rw [← bitI_nat]; exact bitI_true p20)] | rw [thF, if_neg (by rw [← bitI_nat, bitI_ne1 p20]; decide)]), (by first | rfl | (congr 1; omega) | simp), trivial⟩
    ·exact (Some'.weak (.takeEq (by first | rfl | simp) (.nil _)))
  ·have p12 := h12; try simp only [bs] at p12
   have hknq : q = n := by omega
   refine Run.exit rfl ?_
   refine Run.sr ?_
   refine Run.p (.int .i64 (((thF r x q : Nat) : Int))) rfl rfl ?_
   refine Run.p (.int .i64 (((thF r x q : Nat) : Int))) rfl rfl ?_
   refine Run.done ?_
   refine Run.ret ?_
   refine ⟨.int .i64 (((thF r x q : Nat) : Int)), [], Out.one rfl rfl, (Some'.weak (.nil _)), ?_⟩
   show _ = _; rw [hknq]

set_option maxHeartbeats 2000000 in
set_option maxRecDepth 20000 in
theorem ComposeLinear_spec {va vb : Value} {n m : Nat} {xs ys : List Int} {w : World} (ha : Sl w va 1 n (ints xs)) (hb : Sl w vb 1 m (ints ys)) : Calls Try.prog 37 #[.agg #[va], .agg #[vb]] w (Post No w fun v H => ∃ u, v = .tuple #[.agg #[u], .bool (coB n xs m ys)] ∧ H = [.own u 3 1 (coL n xs m ys).length (ints (nl (coL n xs m ys)))]) := by
 have hxl : xs.length = n := by have := ha.len; omega
 have hyl : ys.length = m := by have := hb.len; omega
 obtain ⟨A, c, rfl, _, _⟩ := ha.form0
 obtain ⟨B, d, rfl, _, _⟩ := hb.form0
 refine enter (n := 45) (args := [.agg #[.slice A n c], .agg #[.slice B m d]]) Try.func37 rfl rfl (St.empty _ _) ?_
 refine Run.sr ?_
 refine Run.step rfl (OpStep.box (us := [.slice A n c]) rfl fun b1 => ?_)
 refine Run.step rfl (OpStep.box (us := [.slice B m d]) rfl fun b2 => ?_)
 refine Run.step rfl (OpStep.alloc (zs := [.slice none 0 0]) Tzero_28 fun b3 => ?_)
 refine Run.p (.bool false) rfl rfl ?_
 refine Run.done ?_
 refine Run.seq ?_
 refine Run.sr ?_
 refine Run.y (.agg #[.slice A n c]) rfl (OpY.loadN (cs := [.slice A n c]) Tagg_28 rfl (Cells.blk (.tail _ (.tail _ (List.Mem.head _))) ⟨rfl, trivial⟩)) ?_
 refine Run.q (v := .bool (linOk xs n)) rfl (OpQ.call (vs := [.agg #[.slice A n c]]) (caps := []) Tcall_35 rfl rfl (fun w hs => IsValidLinear_spec (hs.sl ha))) ?_
 refine Run.p (.bool (!(linOk xs n))) rfl rfl ?_
 rcases Bool.eq_false_or_eq_true (!(linOk xs n)) with h12 | h12
 ·refine Run.q (v := .bool true) rfl (OpQ.y (OpY.moveB rfl h12)) ?_
  have p12 := h12; try simp only [bs] at p12
  refine Run.pass rfl ?_
  refine Run.pass rfl ?_
  refine Run.pass rfl ?_
  refine Run.p (.bool true) rfl rfl ?_
  refine Run.p (.bool true) rfl rfl ?_
  refine Run.pass rfl ?_
  refine Run.pass rfl ?_
  refine Run.pass rfl ?_
  refine Run.pass rfl ?_
  refine Run.pass rfl ?_
  refine Run.pass rfl ?_
  refine Run.pass rfl ?_
  refine Run.p (.bool true) rfl rfl ?_
  refine Run.done ?_
  refine Run.cond (b := true) rfl (fun _ => ?_) (fun h => nomatch h)
  refine Run.seq ?_
  have hB : coB n xs m ys = false := by unfold coB; simp_all <;> omega
  have hL : coL n xs m ys = [] := by rw [coL, hB]; rfl
  refine Run.region ?_
  refine Run.y (.agg #[.slice none 0 0]) rfl (OpY.build (cs := [.slice none 0 0]) (by kernel_rfl)) ?_
  refine Run.step rfl (OpStep.storeAll (us := [.slice none 0 0]) Tsize_28 rfl rfl rfl (.here _) rfl ?_)
  refine Run.p (.bool false) rfl rfl ?_
  refine Run.done ?_
  refine Run.ret ?_
  refine ⟨.tuple #[.agg #[.slice none 0 0], .bool false], [.own (.slice none 0 0) 3 1 ((coL n xs m ys).length) (ints (nl (coL n xs m ys)))], Out.cell2 (cs := [.slice none 0 0]) rfl Tagg_28 rfl (Cells.blk (.head _) ⟨rfl, trivial⟩) rfl, ((Weak.nilOwn 3 1).trans (Some'.weak (.takeEq (by first | (rw [hL]; rfl) | (rw [hL, hknk, List.take_of_length_le (by omega), comp_length, gnl])) (.nil _)))), ?_⟩
  exact ⟨_, by rw [hB], rfl⟩
 ·refine Run.q (v := .bool false) rfl (OpQ.y (OpY.moveB rfl h12)) ?_
  have p12 := h12; try simp only [bs] at p12
  refine Run.y (.agg #[.slice B m d]) rfl (OpY.loadN (cs := [.slice B m d]) Tagg_28 rfl (Cells.blk (.tail _ (List.Mem.head _)) ⟨rfl, trivial⟩)) ?_
  refine Run.q (v := .bool (linOk ys m)) rfl (OpQ.call (vs := [.agg #[.slice B m d]]) (caps := []) Tcall_35 rfl rfl (fun w hs => IsValidLinear_spec (hs.sl hb))) ?_
  refine Run.p (.bool (!(linOk ys m))) rfl rfl ?_
  refine Run.p (.bool (!(linOk ys m))) rfl rfl ?_
  rcases Bool.eq_false_or_eq_true (!(linOk ys m)) with h17 | h17
  ·refine Run.q (v := .bool true) rfl (OpQ.y (OpY.moveB rfl h17)) ?_
   have p17 := h17; try simp only [bs] at p17
   refine Run.pass rfl ?_
   refine Run.pass rfl ?_
   refine Run.pass rfl ?_
   refine Run.pass rfl ?_
   refine Run.pass rfl ?_
   refine Run.pass rfl ?_
   refine Run.pass rfl ?_
   refine Run.p (.bool true) rfl rfl ?_
   refine Run.done ?_
   refine Run.cond (b := true) rfl (fun _ => ?_) (fun h => nomatch h)
   refine Run.seq ?_
   have hB : coB n xs m ys = false := by unfold coB; simp_all <;> omega
   have hL : coL n xs m ys = [] := by rw [coL, hB]; rfl
   refine Run.region ?_
   refine Run.y (.agg #[.slice none 0 0]) rfl (OpY.build (cs := [.slice none 0 0]) (by kernel_rfl)) ?_
   refine Run.step rfl (OpStep.storeAll (us := [.slice none 0 0]) Tsize_28 rfl rfl rfl (.here _) rfl ?_)
   refine Run.p (.bool false) rfl rfl ?_
   refine Run.done ?_
   refine Run.ret ?_
   refine ⟨.tuple #[.agg #[.slice none 0 0], .bool false], [.own (.slice none 0 0) 3 1 ((coL n xs m ys).length) (ints (nl (coL n xs m ys)))], Out.cell2 (cs := [.slice none 0 0]) rfl Tagg_28 rfl (Cells.blk (.head _) ⟨rfl, trivial⟩) rfl, ((Weak.nilOwn 3 1).trans (Some'.weak (.takeEq (by first | (rw [hL]; rfl) | (rw [hL, hknk, List.take_of_length_le (by omega), comp_length, gnl])) (.nil _)))), ?_⟩
   exact ⟨_, by rw [hB], rfl⟩
  ·refine Run.q (v := .bool false) rfl (OpQ.y (OpY.moveB rfl h17)) ?_
   have p17 := h17; try simp only [bs] at p17
   refine Run.y (.pointer (some ⟨b1, 0, none⟩)) rfl (OpY.fieldAddr Tfo_28_0 rfl rfl) ?_
   refine Run.y (.slice A n c) rfl (OpY.load1 Tone_22 rfl (Cells.blk (.tail _ (.tail _ (List.Mem.head _))) ⟨rfl, trivial⟩)) ?_
   refine Run.y (.int .i64 (((n : Nat) : Int))) rfl (OpY.len Tsl_22 rfl) ?_
   refine Run.y (.pointer (some ⟨b2, 0, none⟩)) rfl (OpY.fieldAddr Tfo_28_0 rfl rfl) ?_
   refine Run.y (.slice B m d) rfl (OpY.load1 Tone_22 rfl (Cells.blk (.tail _ (List.Mem.head _)) ⟨rfl, trivial⟩)) ?_
   refine Run.y (.int .i64 (((m : Nat) : Int))) rfl (OpY.len Tsl_22 rfl) ?_
   refine Run.p (.bool ((((n : Nat) : Int)) != (((m : Nat) : Int)))) rfl rfl ?_
   refine Run.p (.bool ((((n : Nat) : Int)) != (((m : Nat) : Int)))) rfl rfl ?_
   refine Run.done ?_
   refine Run.cond (b := (((n : Nat) : Int)) != (((m : Nat) : Int))) rfl (fun h25 => ?_) (fun h25 => ?_)
   ·have p25 := h25; try simp only [bs] at p25
    refine Run.seq ?_
    have hB : coB n xs m ys = false := by unfold coB; simp_all <;> omega
    have hL : coL n xs m ys = [] := by rw [coL, hB]; rfl
    refine Run.region ?_
    refine Run.y (.agg #[.slice none 0 0]) rfl (OpY.build (cs := [.slice none 0 0]) (by kernel_rfl)) ?_
    refine Run.step rfl (OpStep.storeAll (us := [.slice none 0 0]) Tsize_28 rfl rfl rfl (.here _) rfl ?_)
    refine Run.p (.bool false) rfl rfl ?_
    refine Run.done ?_
    refine Run.ret ?_
    refine ⟨.tuple #[.agg #[.slice none 0 0], .bool false], [.own (.slice none 0 0) 3 1 ((coL n xs m ys).length) (ints (nl (coL n xs m ys)))], Out.cell2 (cs := [.slice none 0 0]) rfl Tagg_28 rfl (Cells.blk (.head _) ⟨rfl, trivial⟩) rfl, ((Weak.nilOwn 3 1).trans (Some'.weak (.takeEq (by first | (rw [hL]; rfl) | (rw [hL, hknk, List.take_of_length_le (by omega), comp_length, gnl])) (.nil _)))), ?_⟩
    exact ⟨_, by rw [hB], rfl⟩
   ·have p25 := h25; try simp only [bs] at p25
    have hok1 : linOk xs n = true := by simp_all
    have hok2 : linOk ys m = true := by simp_all
    have hnm : n = m := by simp_all <;> omega
    obtain ⟨h1, h5, hnx, hnl, hlt, hin⟩ := lin_facts hxl hok1
    obtain ⟨g1, g5, gnx, gnl, glt, gin⟩ := lin_facts hyl hok2
    have hx32 := lt32 h5 hlt
    have hB : coB n xs m ys = true := by rw [coB, hok1, hok2, decide_eq_true hnm]; rfl
    have hL : coL n xs m ys = comp (nats xs) (nats ys) := if_pos hB
    have ha2 : Sl w (.slice A n c) 1 n (ints (nl (nats xs))) := by rw [hnx]; exact ha
    refine Run.skip ?_
    refine Run.sr ?_
    refine Run.y (.agg #[.slice none 0 0]) rfl (OpY.build (cs := [.slice none 0 0]) (by kernel_rfl)) ?_
    refine Run.step rfl (OpStep.alloc (zs := [.slice none 0 0]) Tzero_28 fun b4 => ?_)
    refine Run.step rfl (OpStep.storeAll (us := [.slice none 0 0]) Tsize_28 rfl rfl rfl (.here _) rfl ?_)
    refine Run.done ?_
    refine Run.weak (H' := [.own (.slice none 0 0) 3 1 0 ([]), .blk b4 28 [.slice none 0 0], .blk b3 28 [.slice none 0 0], .blk b2 28 [.slice B m d], .blk b1 28 [.slice A n c]]) (Weak.nilOwn _ _) ?_ ⟨_, _, rfl, fun _ => nofun, fun _ => nofun⟩
    refine Run.seq ?_
    refine Run.sr ?_
    refine Run.y (.pointer (some ⟨b2, 0, none⟩)) rfl (OpY.fieldAddr Tfo_28_0 rfl rfl) ?_
    refine Run.y (.slice B m d) rfl (OpY.load1 Tone_22 rfl (Cells.blk (.tail _ (.tail _ (.tail _ (List.Mem.head _)))) ⟨rfl, trivial⟩)) ?_
    refine Run.y (.int .i64 (((m : Nat) : Int))) rfl (OpY.len Tsl_22 rfl) ?_
    refine Run.p (.int .i64 0) rfl rfl ?_
    refine Run.done ?_
    refine Run.block ?_
    refine Run.loop (ι := Nat × Value) [8, 31, 32, 33, 34, 35, 36, 37, 38, 39, 40, 41, 42, 43] (fun ⟨k, vo⟩ => [(31, .int .i64 (((k : Nat) : Int)))]) (fun ⟨k, vo⟩ => [.own vo 3 1 k (ints (nl (comp (nats xs) ((nats ys).take k)))), .blk b4 28 [vo], .blk b3 28 [.slice none 0 0], .blk b2 28 [.slice B m d], .blk b1 28 [.slice A n c]]) (fun ⟨k, vo⟩ => k ≤ m) (fun ⟨k, vo⟩ => m - k) (0, .slice none 0 0) ?_ ?_ ?_ ?_
    ·exact Nat.zero_le _
    ·exact ⟨rfl, trivial⟩
    ·exact ((Weak.refl _).trans (Some'.weak (.takeEq (by first | rfl | simp [comp, nl, ints]) (.takeEq (by first | rfl | simp [comp, nl, ints]) (.take (.take (.take (.nil _))))))))
    ·rintro ⟨k, vo⟩ fr hinv
     show Run _ _ (over _ _ [(31, .int .i64 (((k : Nat) : Int)))] fr) [.own vo 3 1 k (ints (nl (comp (nats xs) ((nats ys).take k)))), .blk b4 28 [vo], .blk b3 28 [.slice none 0 0], .blk b2 28 [.slice B m d], .blk b1 28 [.slice A n c]]
     try dsimp only at hinv
     refine Run.sr ?_
     refine Run.p (.bool (decide ((((k : Nat) : Int)) < (((m : Nat) : Int))))) rfl rfl ?_
     refine Run.done ?_
     refine Run.seq ?_
     refine Run.cond (b := decide ((((k : Nat) : Int)) < (((m : Nat) : Int)))) rfl (fun h32 => ?_) (fun h32 => ?_)
     ·have p32 := h32; try simp only [bs] at p32
      have hltk : k < m := by omega
      obtain ⟨bb, ob, rfl⟩ := hb.opn (by omega)
      have hyk : ix ys k = ((nx (nats ys) k : Nat) : Int) := by rw [← ix_nl, gnx]
      refine Run.skip ?_
      refine Run.seq ?_
      refine Run.block ?_
      refine Run.sr ?_
      refine Run.y (.pointer (some ⟨bb, ob + k, none⟩)) rfl (OpY.index (kk := k) Tsl_22 rfl rfl (by omega) (by omega) (by first | rfl | omega)) ?_
      refine Run.y (.int .i64 (ix ys (k))) rfl (OpY.load1 Tone_3 rfl (Cells.arg (k := k) hb rfl (by omega) (pre1 (by omega)))) ?_
      refine Run.p (.int .i64 (ix ys (k))) rfl rfl ?_
      refine Run.done ?_
      refine Run.heldB (base := [.blk b3 28 [.slice none 0 0], .blk b2 28 [.slice (some ⟨bb, ob, none⟩) m d], .blk b1 28 [.slice A n c]]) (by kernel_rfl) ?_
      refine DW.take (i := 0) (v := .pointer (some ⟨b4, 0, none⟩)) rfl (by kernel_rfl) (by kernel_rfl) (by kernel_rfl) (fun _ _ _ h => h) (Some'.weak (.skip (.skip (.take (.take (.take (.nil _))))))) rfl (OpY.fieldAddr Tfo_28_0 rfl rfl) ?_
      refine DW.take (i := 2) (v := .agg #[.slice A n c]) rfl (by kernel_rfl) (by kernel_rfl) (by kernel_rfl) (fun _ _ _ h => h) (Some'.weak (.skip (.skip (.take (.take (.take (.nil _))))))) rfl (OpY.loadN (cs := [.slice A n c]) Tagg_28 rfl (Cells.blk (.tail _ (.tail _ (List.Mem.head _))) ⟨rfl, trivial⟩)) ?_
      refine DW.take (i := 3) (v := .int .i64 (ix ys (k))) rfl (by kernel_rfl) (by kernel_rfl) (by kernel_rfl) (fun _ _ _ h => h) (Some'.weak (.skip (.skip (.take (.take (.take (.nil _))))))) rfl (OpY.pure rfl) ?_
      refine DW.two (i := 1) (j := 4) (by kernel_rfl) rfl rfl rfl rfl ?_ ?_
      ·refine OpStep.q (v := vo) (OpQ.y (OpY.load1 Tone_22 rfl (Cells.blk (.tail _ (List.Mem.head _)) ⟨rfl, trivial⟩))) ?_
       refine ⟨(Some'.weak (.skip (.skip (.take (.take (.take (.nil _))))))), ?_⟩
       refine DW.step (i := 4) (by kernel_rfl) rfl rfl (OpStep.q (v := .int .i64 (((thF (nats xs) (nx (nats ys) k) n : Nat) : Int))) (OpQ.call (vs := [.agg #[.slice A n c], .int .i64 (ix ys (k))]) (caps := []) Tcall_78 rfl rfl (fun w hs => (by have h := through_spec (x := nx (nats ys) k) hnl h5 hx32 (hs.sl ha2); rw [← hyk] at h; exact h))) ?_)
       refine ⟨(Some'.weak (.skip (.skip (.take (.take (.take (.nil _))))))), ?_⟩
       refine DW.step (i := 5) (by kernel_rfl) rfl rfl (OpStep.buildSlice (us := [.int .i64 (((thF (nats xs) (nx (nats ys) k) n : Nat) : Int))]) Tsl_22 (by decide) (by decide) ⟨rfl, [.int .i64 (((thF (nats xs) (nx (nats ys) k) n : Nat) : Int))], _, rfl, rfl, rfl, rfl⟩ rfl fun b5 => ?_)
       refine ⟨(Some'.weak (.skip (.skip (.skip (.take (.take (.take (.nil _)))))))), ?_⟩
       refine DW.step (i := 6) (by kernel_rfl) rfl rfl (OpStep.append (H1 := [.own (.slice (some ⟨b5, 0, none⟩) 1 1) 3 1 1 ([.int .i64 (((thF (nats xs) (nx (nats ys) k) n : Nat) : Int))])]) (H2 := [.blk b4 28 [vo], .blk b3 28 [.slice none 0 0], .blk b2 28 [.slice (some ⟨bb, ob, none⟩) m d], .blk b1 28 [.slice A n c]]) (v := vo) (u := .slice (some ⟨b5, 0, none⟩) 1 1) (n := k) (m := 1) (xs := ints (nl (comp (nats xs) ((nats ys).take k)))) (ys := [.int .i64 (((thF (nats xs) (nx (nats ys) k) n : Nat) : Int))]) Tsl_22 (by decide) rfl rfl rfl rfl (fun w hs => hs.slOwn (.head _)) (by simp [Value.oneCell']) (by omega) (by simp only [maxLen]; omega) fun av1 hnav1 => ?_)
       refine DW.weakS (H' := [.own (.slice (some ⟨b5, 0, none⟩) 1 1) 3 1 1 ([.int .i64 (((thF (nats xs) (nx (nats ys) k) n : Nat) : Int))]), .own av1 3 1 (k + 1) (ints (nl (comp (nats xs) ((nats ys).take (k + 1))))), .blk b4 28 [vo], .blk b3 28 [.slice none 0 0], .blk b2 28 [.slice (some ⟨bb, ob, none⟩) m d], .blk b1 28 [.slice A n c]]) (Some'.weak (.take (.takeEq (by rw [comp_take (by omega), hnl, ints_nl_snoc]) (.take (.take (.take (.take (.nil _)))))))) ?_
       refine ⟨(Some'.weak (.skip (.skip (.skip (.take (.take (.take (.nil _)))))))), ?_⟩
       refine DW.take (i := 7) (v := .pointer (some ⟨b4, 0, none⟩)) rfl (by kernel_rfl) (by kernel_rfl) (by kernel_rfl) (fun _ _ _ h => h) (Some'.weak (.skip (.skip (.skip (.take (.take (.take (.nil _)))))))) rfl (OpY.fieldAddr Tfo_28_0 rfl rfl) ?_
       refine DW.formOwn (.tail _ (List.Mem.head _)) (fun A_av11 c_av11 hv hcapc_av11 hmaxc_av11 => ?_)
       subst hv
       refine DW.step (i := 8) (by kernel_rfl) rfl rfl (OpStep.storeAll (us := [.slice A_av11 (k + 1) c_av11]) Tsize_22 rfl rfl rfl (.there _ (.there _ (.here _))) rfl ?_)
       refine ⟨(Some'.weak (.skip (.skip (.skip (.take (.take (.take (.nil _)))))))), ?_⟩
       refine DW.done (by kernel_rfl) ?_
       refine Run.blockEnd ?_
       refine Run.region ?_
       refine Run.y (.int .i64 ((((k : Nat) : Int)) + 1)) rfl (OpY.add rfl rfl rfl (by omega) (by omega)) ?_
       refine Run.p (.int .i64 ((((k : Nat) : Int)) + 1)) rfl rfl ?_
       refine Run.done ?_
       refine Run.goal ⟨(by repeat (first | exact Same.refl _ _ | refine Same.put rfl ?_ | refine Same.over rfl rfl ?_)), (k + 1, .slice A_av11 (k + 1) c_av11), ?_, ?_, ?_, ?_⟩
       ·exact hltk
       ·show m - (k + 1) < m - k; omega
       ·exact ⟨(by first | rfl | (congr 1; omega) | simp), trivial⟩
       ·exact ((Weak.selF [1, 1, 1, 1, 1]).trans (Some'.weak (.takeEq (by first | rfl | simp [comp, nl, ints]) (.takeEq (by first | rfl | simp [comp, nl, ints]) (.take (.takeEq (by first | rfl | simp [comp, nl, ints]) (.take (.nil _))))))))
      ·refine OpStep.q (v := .int .i64 (((thF (nats xs) (nx (nats ys) k) n : Nat) : Int))) (OpQ.call (vs := [.agg #[.slice A n c], .int .i64 (ix ys (k))]) (caps := []) Tcall_78 rfl rfl (fun w hs => (by have h := through_spec (x := nx (nats ys) k) hnl h5 hx32 (hs.sl ha2); rw [← hyk] at h; exact h))) ?_
       refine ⟨(Some'.weak (.skip (.skip (.take (.take (.take (.nil _))))))), ?_⟩
       refine DW.two (i := 1) (j := 5) (by kernel_rfl) rfl rfl rfl rfl ?_ ?_
       ·refine OpStep.q (v := vo) (OpQ.y (OpY.load1 Tone_22 rfl (Cells.blk (.tail _ (List.Mem.head _)) ⟨rfl, trivial⟩))) ?_
        refine ⟨(Some'.weak (.skip (.skip (.take (.take (.take (.nil _))))))), ?_⟩
        refine DW.step (i := 5) (by kernel_rfl) rfl rfl (OpStep.buildSlice (us := [.int .i64 (((thF (nats xs) (nx (nats ys) k) n : Nat) : Int))]) Tsl_22 (by decide) (by decide) ⟨rfl, [.int .i64 (((thF (nats xs) (nx (nats ys) k) n : Nat) : Int))], _, rfl, rfl, rfl, rfl⟩ rfl fun b6 => ?_)
        refine ⟨(Some'.weak (.skip (.skip (.skip (.take (.take (.take (.nil _)))))))), ?_⟩
        refine DW.step (i := 6) (by kernel_rfl) rfl rfl (OpStep.append (H1 := [.own (.slice (some ⟨b6, 0, none⟩) 1 1) 3 1 1 ([.int .i64 (((thF (nats xs) (nx (nats ys) k) n : Nat) : Int))])]) (H2 := [.blk b4 28 [vo], .blk b3 28 [.slice none 0 0], .blk b2 28 [.slice (some ⟨bb, ob, none⟩) m d], .blk b1 28 [.slice A n c]]) (v := vo) (u := .slice (some ⟨b6, 0, none⟩) 1 1) (n := k) (m := 1) (xs := ints (nl (comp (nats xs) ((nats ys).take k)))) (ys := [.int .i64 (((thF (nats xs) (nx (nats ys) k) n : Nat) : Int))]) Tsl_22 (by decide) rfl rfl rfl rfl (fun w hs => hs.slOwn (.head _)) (by simp [Value.oneCell']) (by omega) (by simp only [maxLen]; omega) fun av2 hnav2 => ?_)
        refine DW.weakS (H' := [.own (.slice (some ⟨b6, 0, none⟩) 1 1) 3 1 1 ([.int .i64 (((thF (nats xs) (nx (nats ys) k) n : Nat) : Int))]), .own av2 3 1 (k + 1) (ints (nl (comp (nats xs) ((nats ys).take (k + 1))))), .blk b4 28 [vo], .blk b3 28 [.slice none 0 0], .blk b2 28 [.slice (some ⟨bb, ob, none⟩) m d], .blk b1 28 [.slice A n c]]) (Some'.weak (.take (.takeEq (by rw [comp_take (by omega), hnl, ints_nl_snoc]) (.take (.take (.take (.take (.nil _)))))))) ?_
        refine ⟨(Some'.weak (.skip (.skip (.skip (.take (.take (.take (.nil _)))))))), ?_⟩
        refine DW.take (i := 7) (v := .pointer (some ⟨b4, 0, none⟩)) rfl (by kernel_rfl) (by kernel_rfl) (by kernel_rfl) (fun _ _ _ h => h) (Some'.weak (.skip (.skip (.skip (.take (.take (.take (.nil _)))))))) rfl (OpY.fieldAddr Tfo_28_0 rfl rfl) ?_
        refine DW.formOwn (.tail _ (List.Mem.head _)) (fun A_av21 c_av21 hv hcapc_av21 hmaxc_av21 => ?_)
        subst hv
        refine DW.step (i := 8) (by kernel_rfl) rfl rfl (OpStep.storeAll (us := [.slice A_av21 (k + 1) c_av21]) Tsize_22 rfl rfl rfl (.there _ (.there _ (.here _))) rfl ?_)
        refine ⟨(Some'.weak (.skip (.skip (.skip (.take (.take (.take (.nil _)))))))), ?_⟩
        refine DW.done (by kernel_rfl) ?_
        refine Run.blockEnd ?_
        refine Run.region ?_
        refine Run.y (.int .i64 ((((k : Nat) : Int)) + 1)) rfl (OpY.add rfl rfl rfl (by omega) (by omega)) ?_
        refine Run.p (.int .i64 ((((k : Nat) : Int)) + 1)) rfl rfl ?_
        refine Run.done ?_
        refine Run.goal ⟨(by repeat (first | exact Same.refl _ _ | refine Same.put rfl ?_ | refine Same.over rfl rfl ?_)), (k + 1, .slice A_av21 (k + 1) c_av21), ?_, ?_, ?_, ?_⟩
        ·exact hltk
        ·show m - (k + 1) < m - k; omega
        ·exact ⟨(by first | rfl | (congr 1; omega) | simp), trivial⟩
        ·exact ((Weak.selF [1, 1, 1, 1, 1]).trans (Some'.weak (.takeEq (by first | rfl | simp [comp, nl, ints]) (.takeEq (by first | rfl | simp [comp, nl, ints]) (.take (.takeEq (by first | rfl | simp [comp, nl, ints]) (.take (.nil _))))))))
       ·refine OpStep.buildSlice (us := [.int .i64 (((thF (nats xs) (nx (nats ys) k) n : Nat) : Int))]) Tsl_22 (by decide) (by decide) ⟨rfl, [.int .i64 (((thF (nats xs) (nx (nats ys) k) n : Nat) : Int))], _, rfl, rfl, rfl, rfl⟩ rfl fun b7 => ?_
        refine ⟨(Some'.weak (.skip (.skip (.skip (.take (.take (.take (.nil _)))))))), ?_⟩
        refine DW.step (i := 1) (by kernel_rfl) rfl rfl (OpStep.q (v := vo) (OpQ.y (OpY.load1 Tone_22 rfl (Cells.blk (.tail _ (.tail _ (List.Mem.head _))) ⟨rfl, trivial⟩))) ?_)
        refine ⟨(Some'.weak (.skip (.skip (.skip (.take (.take (.take (.nil _)))))))), ?_⟩
        refine DW.step (i := 6) (by kernel_rfl) rfl rfl (OpStep.append (H1 := [.own (.slice (some ⟨b7, 0, none⟩) 1 1) 3 1 1 ([.int .i64 (((thF (nats xs) (nx (nats ys) k) n : Nat) : Int))])]) (H2 := [.blk b4 28 [vo], .blk b3 28 [.slice none 0 0], .blk b2 28 [.slice (some ⟨bb, ob, none⟩) m d], .blk b1 28 [.slice A n c]]) (v := vo) (u := .slice (some ⟨b7, 0, none⟩) 1 1) (n := k) (m := 1) (xs := ints (nl (comp (nats xs) ((nats ys).take k)))) (ys := [.int .i64 (((thF (nats xs) (nx (nats ys) k) n : Nat) : Int))]) Tsl_22 (by decide) rfl rfl rfl rfl (fun w hs => hs.slOwn (.head _)) (by simp [Value.oneCell']) (by omega) (by simp only [maxLen]; omega) fun av3 hnav3 => ?_)
        refine DW.weakS (H' := [.own (.slice (some ⟨b7, 0, none⟩) 1 1) 3 1 1 ([.int .i64 (((thF (nats xs) (nx (nats ys) k) n : Nat) : Int))]), .own av3 3 1 (k + 1) (ints (nl (comp (nats xs) ((nats ys).take (k + 1))))), .blk b4 28 [vo], .blk b3 28 [.slice none 0 0], .blk b2 28 [.slice (some ⟨bb, ob, none⟩) m d], .blk b1 28 [.slice A n c]]) (Some'.weak (.take (.takeEq (by rw [comp_take (by omega), hnl, ints_nl_snoc]) (.take (.take (.take (.take (.nil _)))))))) ?_
        refine ⟨(Some'.weak (.skip (.skip (.skip (.take (.take (.take (.nil _)))))))), ?_⟩
        refine DW.take (i := 7) (v := .pointer (some ⟨b4, 0, none⟩)) rfl (by kernel_rfl) (by kernel_rfl) (by kernel_rfl) (fun _ _ _ h => h) (Some'.weak (.skip (.skip (.skip (.take (.take (.take (.nil _)))))))) rfl (OpY.fieldAddr Tfo_28_0 rfl rfl) ?_
        refine DW.formOwn (.tail _ (List.Mem.head _)) (fun A_av31 c_av31 hv hcapc_av31 hmaxc_av31 => ?_)
        subst hv
        refine DW.step (i := 8) (by kernel_rfl) rfl rfl (OpStep.storeAll (us := [.slice A_av31 (k + 1) c_av31]) Tsize_22 rfl rfl rfl (.there _ (.there _ (.here _))) rfl ?_)
        refine ⟨(Some'.weak (.skip (.skip (.skip (.take (.take (.take (.nil _)))))))), ?_⟩
        refine DW.done (by kernel_rfl) ?_
        refine Run.blockEnd ?_
        refine Run.region ?_
        refine Run.y (.int .i64 ((((k : Nat) : Int)) + 1)) rfl (OpY.add rfl rfl rfl (by omega) (by omega)) ?_
        refine Run.p (.int .i64 ((((k : Nat) : Int)) + 1)) rfl rfl ?_
        refine Run.done ?_
        refine Run.goal ⟨(by repeat (first | exact Same.refl _ _ | refine Same.put rfl ?_ | refine Same.over rfl rfl ?_)), (k + 1, .slice A_av31 (k + 1) c_av31), ?_, ?_, ?_, ?_⟩
        ·exact hltk
        ·show m - (k + 1) < m - k; omega
        ·exact ⟨(by first | rfl | (congr 1; omega) | simp), trivial⟩
        ·exact ((Weak.selF [1, 1, 1, 1, 1]).trans (Some'.weak (.takeEq (by first | rfl | simp [comp, nl, ints]) (.takeEq (by first | rfl | simp [comp, nl, ints]) (.take (.takeEq (by first | rfl | simp [comp, nl, ints]) (.take (.nil _))))))))
     ·have p32 := h32; try simp only [bs] at p32
      have hknk : k = m := by omega
      refine Run.exit rfl ?_
      refine Run.sr ?_
      refine Run.y (.agg #[vo]) rfl (OpY.loadN (cs := [vo]) Tagg_28 rfl (Cells.blk (.tail _ (List.Mem.head _)) ⟨rfl, trivial⟩)) ?_
      refine Run.formOwn (.head _) (fun A_vo1 c_vo1 hv hcapc_vo1 hmaxc_vo1 => ?_) (fun _ _ _ => ⟨nofun, nofun, nofun⟩)
      subst hv
      refine Run.step rfl (OpStep.storeAll (us := [.slice A_vo1 k c_vo1]) Tsize_28 rfl rfl rfl (.there _ (.there _ (.here _))) rfl ?_)
      refine Run.p (.bool true) rfl rfl ?_
      refine Run.done ?_
      refine Run.ret ?_
      refine ⟨.tuple #[.agg #[.slice A_vo1 k c_vo1], .bool true], [.own (.slice A_vo1 k c_vo1) 3 1 ((coL n xs m ys).length) (ints (nl (coL n xs m ys)))], Out.cell2 (cs := [.slice A_vo1 k c_vo1]) rfl Tagg_28 rfl (Cells.blk (.tail _ (.tail _ (List.Mem.head _))) ⟨rfl, trivial⟩) rfl, (Some'.weak (.takeEq (by first | (rw [hL]; rfl) | (rw [hL, hknk, List.take_of_length_le (by omega), comp_length, gnl])) (.nil _))), ?_⟩
      exact ⟨_, by rw [hB], rfl⟩

end Go.Proofs.Yteehfidjofcfmaa
/- Walks: parities of a network; the Gray network of both sides. -/
set_option linter.unusedSimpArgs false
set_option linter.unusedVariables false
namespace Go.Proofs.Yteehfidjofcfmaa
open Go Go.RowKit
namespace GqnT
theorem Tagg_38 : aggOf Try.prog 38 = some 2 := by kernel_rfl
theorem Tagg_71 : aggOf Try.prog 71 = some 3 := by kernel_rfl
theorem Tcall_106 : callable Try.prog 106 = true := by kernel_rfl
theorem Tcall_109 : callable Try.prog 109 = true := by kernel_rfl
theorem Tcall_111 : callable Try.prog 111 = true := by kernel_rfl
theorem Tcall_124 : callable Try.prog 124 = true := by kernel_rfl
theorem Tcall_129 : callable Try.prog 129 = true := by kernel_rfl
theorem Tcall_133 : callable Try.prog 133 = true := by kernel_rfl
theorem Tcall_52 : callable Try.prog 52 = true := by kernel_rfl
theorem Tcall_57 : callable Try.prog 57 = true := by kernel_rfl
theorem Tcall_66 : callable Try.prog 66 = true := by kernel_rfl
theorem Tcall_67 : callable Try.prog 67 = true := by kernel_rfl
theorem Tcall_74 : callable Try.prog 74 = true := by kernel_rfl
theorem Tcall_82 : callable Try.prog 82 = true := by kernel_rfl
theorem Tcall_83 : callable Try.prog 83 = true := by kernel_rfl
theorem Tcall_84 : callable Try.prog 84 = true := by kernel_rfl
theorem Tcall_87 : callable Try.prog 87 = true := by kernel_rfl
theorem Tcall_88 : callable Try.prog 88 = true := by kernel_rfl
theorem Tcall_89 : callable Try.prog 89 = true := by kernel_rfl
theorem Tfo_38_0 : fieldOff Try.prog 38 0 = some 0 := by kernel_rfl
theorem Tfo_38_1 : fieldOff Try.prog 38 1 = some 1 := by kernel_rfl
theorem Tfo_71_0 : fieldOff Try.prog 71 0 = some 0 := by kernel_rfl
theorem Tfo_71_1 : fieldOff Try.prog 71 1 = some 1 := by kernel_rfl
theorem Tfo_71_2 : fieldOff Try.prog 71 2 = some 2 := by kernel_rfl
theorem Tone_22 : oneOf Try.prog 22 = true := by kernel_rfl
theorem Tone_3 : oneOf Try.prog 3 = true := by kernel_rfl
theorem Tone_36 : oneOf Try.prog 36 = true := by kernel_rfl
theorem Tsize_22 : (Try.prog.info? 22).map (·.size) = some 1 := by kernel_rfl
theorem Tsize_3 : (Try.prog.info? 3).map (·.size) = some 1 := by kernel_rfl
theorem Tsize_38 : (Try.prog.info? 38).map (·.size) = some 2 := by kernel_rfl
theorem Tsize_71 : (Try.prog.info? 71).map (·.size) = some 3 := by kernel_rfl
theorem Tsl_22 : sliceOf Try.prog 22 = some (3, 1, 8, [.int .i64 0]) := by kernel_rfl
theorem Tsl_36 : sliceOf Try.prog 36 = some (71, 3, 24, [.int .i64 0, .int .i64 0, .int .i64 0]) := by kernel_rfl
theorem Tzero_22 : zeroOf Try.prog 22 = some [.slice none 0 0] := by kernel_rfl
theorem Tzero_38 : zeroOf Try.prog 38 = some [.int .i64 0, .slice none 0 0] := by kernel_rfl
theorem Tzero_71 : zeroOf Try.prog 71 = some [.int .i64 0, .int .i64 0, .int .i64 0] := by kernel_rfl
end GqnT
open GqnT
theorem has_nl (l : List Nat) (x : Nat) : hasI (nl l) ((x : Nat) : Int) l.length = decide (x ∈ l) := by
  rw [Bool.eq_iff_iff, hasI_rows, decide_eq_true_eq]
  constructor
  · rintro ⟨j, hj, he⟩
    have e : nx l j = l[j] := by simp [nx, List.getD, hj]
    have : l[j] = x := by omega
    rw [← this]; exact List.getElem_mem hj
  · intro h
    obtain ⟨j, hj, he⟩ := nx_mem h
    exact ⟨j, hj, by rw [he]⟩
/-- The parities that appear in a network. -/
def parO (n : Nat) (G : List (Nat × Nat)) : Nat → List Nat
  | 0 => idL n
  | k + 1 => if nx (cxs (idL n) (G.take (k + 1))) (gat G k).2 ∈ parO n G k then parO n G k else parO n G k ++ [nx (cxs (idL n) (G.take (k + 1))) (gat G k).2]
theorem parO_len (n : Nat) (G : List (Nat × Nat)) : ∀ k, (parO n G k).length ≤ n + k
  | 0 => by simp [parO, idL]
  | k + 1 => by
    have := parO_len n G k
    rw [parO]; split
    · omega
    · rw [List.length_append]; simp only [List.length_cons, List.length_nil]; omega
theorem parO_sub (n : Nat) (G : List (Nat × Nat)) (k : Nat) {x : Nat} (h : x ∈ parO n G k) : x ∈ parO n G (k + 1) := by
  rw [parO]; split
  · exact h
  · exact List.mem_append_left _ h
theorem parO_new (n : Nat) (G : List (Nat × Nat)) (k : Nat) : nx (cxs (idL n) (G.take (k + 1))) (gat G k).2 ∈ parO n G (k + 1) := by
  rw [parO]; split
  · assumption
  · simp
theorem parO_mono (n : Nat) (G : List (Nat × Nat)) {x : Nat} {k : Nat} (h : x ∈ parO n G k) : ∀ d, x ∈ parO n G (k + d)
  | 0 => h
  | d + 1 => parO_sub n G (k + d) (parO_mono n G h d)
theorem parO_row (n : Nat) (G : List (Nat × Nat)) (hG : WOk n G) : ∀ k, k ≤ G.length → ∀ q, q < n → nx (cxs (idL n) (G.take k)) q ∈ parO n G k
  | 0, _, q, hq => by
    rw [List.take_zero]
    show nx (idL n) q ∈ idL n
    have hl : (idL n).length = n := by simp [idL]
    have e : nx (idL n) q = (idL n)[q] := by simp [nx, List.getD, hl, hq]
    rw [e]; exact List.getElem_mem _
  | k + 1, hk, q, hq => by
    have ih := parO_row n G hG k (by omega) q hq
    by_cases e : q = (gat G k).2
    · subst e; exact parO_new n G k
    · have h2 : (gat G k).2 < (cxs (idL n) (G.take k)).length := by rw [rows_len]; exact (hG _ (gat_mem (by omega))).2.1
      have h3 : nx (cxs (idL n) (G.take (k + 1))) q = nx (cxs (idL n) (G.take k)) q := by
        rw [cxs_take (by omega)]
        have h4 := nx_cx' (R := cxs (idL n) (G.take k)) (j := (gat G k).1) (t := (gat G k).2) q h2
        rw [if_neg e] at h4; exact h4
      rw [h3]; exact parO_sub n G k ih
theorem parO_app {n : Nat} {G : List (Nat × Nat)} (hG : WOk n G) {m : Nat} (h : App n G m) : m ∈ parO n G G.length := by
  obtain ⟨k, q, h1, h2, h3⟩ := h
  have h4 := parO_row n G hG k h1 q h2
  rw [h3] at h4
  have h5 := parO_mono n G h4 (G.length - k)
  rwa [show k + (G.length - k) = G.length by omega] at h5
noncomputable def gnG (n : Nat) (ms : List Int) : List (Nat × Nat) := if mskOk n ms ms.length = true then gG n (nats ms) else []
def gnN (n : Nat) (ms : List Int) : Int := if mskOk n ms ms.length = true then n else 0
structure GnOk (n : Nat) (ms : List Int) : Prop where
  n1 : 1 ≤ n
  n5 : n ≤ 5
  nn : nl (nats ms) = ms
  len : (nats ms).length = ms.length
  l32 : ms.length ≤ 32
  bd : ∀ m ∈ nats ms, 1 ≤ m ∧ m < 2 ^ n
  gG : gnG n ms = gG n (nats ms)
  gN : gnN n ms = n
  wok : WOk n (gnG n ms)
  gl : (gnG n ms).length ≤ 252
  app : ∀ i, i < ms.length → App n (gnG n ms) (ix ms i).toNat
theorem gn_ok {n : Nat} {ms : List Int} (h : mskOk n ms ms.length = true) : GnOk n ms := by
  have hw : within (n : Int) 1 5 = true := by simp only [mskOk, Bool.and_eq_true] at h; exact h.1
  have hn := within_iff.1 hw
  have hpos : ∀ x ∈ ms, 0 ≤ x := by
    intro x hx
    obtain ⟨i, hi, rfl⟩ := List.getElem_of_mem hx
    have := (msk_at h hi).1
    rw [show ix ms i = ms[i] by simp [ix, List.getD, hi]] at this
    omega
  have hbd : ∀ m ∈ nats ms, 1 ≤ m ∧ m < 2 ^ n := by
    intro m hm
    obtain ⟨x, hx, rfl⟩ := List.mem_map.1 hm
    obtain ⟨i, hi, rfl⟩ := List.getElem_of_mem hx
    have := msk_at h hi
    rw [show ix ms i = ms[i] by simp [ix, List.getD, hi]] at this
    omega
  have hl := msk_len h
  have hp : 2 ^ n ≤ 32 := Nat.le_trans (Nat.pow_le_pow_right (by omega) (show n ≤ 5 by omega)) (by decide)
  have hg : gnG n ms = gG n (nats ms) := if_pos h
  obtain ⟨g1, g2, g3⟩ := gG_ok hbd (show n ≤ 5 by omega)
  refine ⟨by omega, by omega, nl_nats hpos, by simp [nats], by omega, hbd, hg, if_pos h, by rw [hg]; exact g1, by rw [hg]; exact g2, fun i hi => ?_⟩
  rw [hg]
  refine g3 _ (List.mem_map.2 ⟨ms[i], List.getElem_mem hi, ?_⟩)
  rw [show ix ms i = ms[i] by simp [ix, List.getD, hi]]
theorem gn_bad {n : Nat} {ms : List Int} (h : mskOk n ms ms.length = false) : gnG n ms = [] ∧ gnN n ms = 0 := by simp [gnG, gnN, h]
theorem gn_len (n : Nat) (ms : List Int) : (gnG n ms).length ≤ 252 := by
  cases h : mskOk n ms ms.length with
  | true => exact (gn_ok h).gl
  | false => rw [(gn_bad h).1]; simp
theorem all9 (G : List (Nat × Nat)) : anyI (fun i => ix (flCX G) (i * 3) != 9) G.length = false := anyI_false fun i hi => by rw [(flCX_ix3 hi).1]; rfl

set_option maxHeartbeats 1000000 in
set_option maxRecDepth 20000 in
theorem isNetClo_spec (a b c : Int) (w : World) : Calls Try.prog 133 #[.agg #[.int .i64 a, .int .i64 b, .int .i64 c]] w (Post No w fun v _ => v = .bool (a != 9)) := by
 refine enter (n := 6) (args := [.agg #[.int .i64 a, .int .i64 b, .int .i64 c]]) Try.func133 rfl rfl (St.empty _ _) ?_
 refine Run.sr ?_
 refine Run.step rfl (OpStep.box (us := [.int .i64 a, .int .i64 b, .int .i64 c]) rfl fun b1 => ?_)
 refine Run.p (.bool false) rfl rfl ?_
 refine Run.dsr ?_
 refine Run.y (.pointer (some ⟨b1, 0, none⟩)) rfl (OpY.fieldAddr Tfo_71_0 rfl rfl) ?_
 refine Run.y (.int .i64 a) rfl (OpY.load1 Tone_3 rfl (Cells.blk (.head _) ⟨rfl, trivial⟩)) ?_
 refine Run.p (.bool (a != 9)) rfl rfl ?_
 refine Run.p (.bool (a != 9)) rfl rfl ?_
 refine Run.done ?_
 refine Run.ret ?_
 refine ⟨.bool (a != 9), [], Out.one rfl rfl, (Some'.weak (.nil _)), ?_⟩
 rfl

set_option maxHeartbeats 1000000 in
set_option maxRecDepth 20000 in
theorem IndexFuncNetw_spec  {va : Value} {n : Nat} {xs : List Int} {w : World} (ha : Sl w va 3 n (ints xs))  : Calls Try.prog 129 #[va, .func (.func 133) #[] #[]] w (Post No w fun v _ => v = .int .i64 (findI (fun i => ix xs (i * 3) != 9) n)) := by
 have hxl := ha.len
 have hn := ha.le
 obtain ⟨A, c, rfl, _, _⟩ := ha.form0
 refine enter (n := 19) (args := [.slice A n c, .func (.func 133) #[] #[]]) Try.func129 rfl rfl (St.empty _ _) ?_
 refine Run.sr ?_
 refine Run.p (.int .i64 0) rfl rfl ?_
 refine Run.done ?_
 refine Run.seq ?_
 refine Run.sr ?_
 refine Run.p (.slice A n c) rfl rfl ?_
 refine Run.y (.int .i64 (((n : Nat) : Int))) rfl (OpY.len Tsl_36 rfl) ?_
 refine Run.p (.int .i64 0) rfl rfl ?_
 refine Run.done ?_
 refine Run.block ?_
 refine Run.loop (ι := Nat) [4, 5, 8, 9, 10, 11, 12, 13, 14, 15, 16, 17, 18] (fun k => [(8, .int .i64 (((k : Nat) : Int)))]) (fun k => []) (fun k => k ≤ n ∧ (∀ i, i < k → (ix xs (i * 3) != 9) = false)) (fun k => n - k) 0 ?_ ?_ ?_ ?_
 ·exact ⟨Nat.zero_le _, by first | trivial | (intro i hi; omega)⟩
 ·exact ⟨rfl, trivial⟩
 ·exact (Some'.weak (.nil _))
 ·rintro k fr hinv
  show Run _ _ (over _ _ [(8, .int .i64 (((k : Nat) : Int)))] fr) []
  try dsimp only at hinv
  refine Run.sr ?_
  refine Run.p (.bool (decide ((((k : Nat) : Int)) < (((n : Nat) : Int))))) rfl rfl ?_
  refine Run.done ?_
  refine Run.seq ?_
  refine Run.cond (b := decide ((((k : Nat) : Int)) < (((n : Nat) : Int)))) rfl (fun h9 => ?_) (fun h9 => ?_)
  ·have p9 := h9; try simp only [bs] at p9
   have hltk : k < n := by omega
   obtain ⟨b, o, rfl⟩ := ha.opn (by omega)
   refine Run.skip ?_
   refine Run.seq ?_
   refine Run.block ?_
   refine Run.sr ?_
   refine Run.p (.int .i64 (((k : Nat) : Int))) rfl rfl ?_
   refine Run.p (.int .i64 (((k : Nat) : Int))) rfl rfl ?_
   refine Run.dsr ?_
   refine Run.p (.func (.func 133) #[] #[]) rfl rfl ?_
   refine Run.p (.slice (some ⟨b, o, none⟩) n c) rfl rfl ?_
   refine Run.p (.int .i64 (((k : Nat) : Int))) rfl rfl ?_
   refine Run.y (.pointer (some ⟨b, o + k * 3, none⟩)) rfl (OpY.index (kk := k) Tsl_36 rfl rfl (by omega) (by omega) (by first | rfl | omega)) ?_
   refine Run.y (.agg #[.int .i64 (ix xs (k * 3)), .int .i64 (ix xs (k * 3 + 1)), .int .i64 (ix xs (k * 3 + 2))]) rfl (OpY.loadN (cs := [.int .i64 (ix xs (k * 3)), .int .i64 (ix xs (k * 3 + 1)), .int .i64 (ix xs (k * 3 + 2))]) Tagg_71 rfl (Cells.arg (k := k * 3) ha rfl (by omega) (pre3 (by omega)))) ?_
   refine Run.q (v := .bool (ix xs (k * 3) != 9)) rfl (OpQ.call (vs := [.agg #[.int .i64 (ix xs (k * 3)), .int .i64 (ix xs (k * 3 + 1)), .int .i64 (ix xs (k * 3 + 2))]]) (caps := []) Tcall_133 rfl rfl (fun w hs => isNetClo_spec _ _ _ w)) ?_
   refine Run.done ?_
   refine Run.cond (b := ix xs (k * 3) != 9) rfl (fun h16 => ?_) (fun h16 => ?_)
   ·have p16 := h16; try simp only [bs] at p16
    refine Run.seq ?_
    have hres : findI (fun i => ix xs (i * 3) != 9) n = k := findI_hit hinv.2 h16 hltk
    refine Run.region ?_
    refine Run.p (.int .i64 (((k : Nat) : Int))) rfl rfl ?_
    refine Run.p (.int .i64 (((k : Nat) : Int))) rfl rfl ?_
    refine Run.done ?_
    refine Run.ret ?_
    refine ⟨.int .i64 (((k : Nat) : Int)), [], Out.one rfl rfl, (Some'.weak (.nil _)), ?_⟩
    show _ = _; rw [hres]
   ·have p16 := h16; try simp only [bs] at p16
    refine Run.skip ?_
    refine Run.blockEnd ?_
    have hgood : (ix xs (k * 3) != 9) = false := h16
    refine Run.region ?_
    refine Run.y (.int .i64 ((((k : Nat) : Int)) + 1)) rfl (OpY.add rfl rfl rfl (by omega) (by omega)) ?_
    refine Run.p (.int .i64 ((((k : Nat) : Int)) + 1)) rfl rfl ?_
    refine Run.done ?_
    refine Run.goal ⟨(by repeat (first | exact Same.refl _ _ | refine Same.put rfl ?_ | refine Same.over rfl rfl ?_)), k + 1, ?_, ?_, ?_, ?_⟩
    ·refine ⟨by omega, ?_⟩
     intro i hi
     rcases Nat.lt_succ_iff_lt_or_eq.1 hi with h | h
     ·exact hinv.2 i h
     ·rw [h]; exact hgood
    ·omega
    ·exact ⟨(by first | rfl | (congr 1; omega) | simp), trivial⟩
    ·exact (Some'.weak (.nil _))
  ·have p9 := h9; try simp only [bs] at p9
   have hknk : k = n := by omega
   have hres : findI (fun i => ix xs (i * 3) != 9) n = -1 := by rw [← hknk]; exact findI_none hinv.2
   refine Run.exit rfl ?_
   refine Run.sr ?_
   refine Run.p (.int .i64 (-1)) rfl rfl ?_
   refine Run.done ?_
   refine Run.ret ?_
   refine ⟨.int .i64 (-1), [], Out.one rfl rfl, (Some'.weak (.nil _)), ?_⟩
   show _ = _; rw [hres]

set_option maxHeartbeats 1000000 in
set_option maxRecDepth 20000 in
theorem ContainsFuncNetw_spec  {va : Value} {n : Nat} {xs : List Int} {w : World} (ha : Sl w va 3 n (ints xs))  : Calls Try.prog 106 #[va, .func (.func 133) #[] #[]] w (Post No w fun v _ => v = .bool (anyI (fun i => ix xs (i * 3) != 9) n)) := by
 refine enter (n := 9) (args := [va, .func (.func 133) #[] #[]]) Try.func106 rfl rfl (St.empty _ _) ?_
 refine Run.sr ?_
 refine Run.p (.bool false) rfl rfl ?_
 refine Run.dsr ?_
 refine Run.p (va) rfl rfl ?_
 refine Run.p (.func (.func 133) #[] #[]) rfl rfl ?_
 refine Run.q (v := .int .i64 (findI (fun i => ix xs (i * 3) != 9) n)) rfl (OpQ.call (vs := [va, .func (.func 133) #[] #[]]) (caps := []) Tcall_129 rfl rfl (fun w hs => IndexFuncNetw_spec (hs.sl ha) )) ?_
 refine Run.p (.bool (decide ((findI (fun i => ix xs (i * 3) != 9) n) ≥ 0))) rfl rfl ?_
 refine Run.p (.bool (decide ((findI (fun i => ix xs (i * 3) != 9) n) ≥ 0))) rfl rfl ?_
 refine Run.done ?_
 refine Run.ret ?_
 refine ⟨.bool (decide ((findI (fun i => ix xs (i * 3) != 9) n) ≥ 0)), [], Out.one rfl rfl, (Some'.weak (.nil _)), ?_⟩
 show _ = _; rw [findI_ge]

set_option maxHeartbeats 1000000 in
set_option maxRecDepth 20000 in
theorem isNetwork_spec {va : Value} {n : Nat} {G : List (Nat × Nat)} {w : World} (h15 : 1 ≤ n ∧ n ≤ 5) (hG : WOk n G) (hl : G.length ≤ 300) (ha : Sl w va 3 G.length (ints (flCX G))) : Calls Try.prog 124 #[.agg #[.int .i64 (n : Int), va]] w (Post No w fun v _ => v = .bool true) := by
 refine enter (n := 11) (args := [.agg #[.int .i64 (((n : Nat) : Int)), va]]) Try.func124 rfl rfl (St.empty _ _) ?_
 refine Run.sr ?_
 refine Run.step rfl (OpStep.box (us := [.int .i64 (((n : Nat) : Int)), va]) rfl fun b1 => ?_)
 refine Run.p (.bool false) rfl rfl ?_
 refine Run.dsr ?_
 refine Run.y (.agg #[.int .i64 (((n : Nat) : Int)), va]) rfl (OpY.loadN (cs := [.int .i64 (((n : Nat) : Int)), va]) Tagg_38 rfl (Cells.blk (.head _) ⟨rfl, rfl, trivial⟩)) ?_
 refine Run.q (v := .bool true) rfl (OpQ.call (vs := [.agg #[.int .i64 (((n : Nat) : Int)), va]]) (caps := []) Tcall_66 rfl rfl (fun w hs => (by have h := IsValidCircuit_spec (N := (n : Int)) (hs.sl ha); rw [circ_cx h15 hG (by omega)] at h; exact h))) ?_
 refine Run.p (.bool true) rfl rfl ?_
 refine Run.y (.pointer (some ⟨b1, 1, none⟩)) rfl (OpY.fieldAddr Tfo_38_1 rfl rfl) ?_
 refine Run.y (va) rfl (OpY.load1 Tone_36 rfl (Cells.blk (.head _) ⟨rfl, trivial⟩)) ?_
 refine Run.q (v := .bool false) rfl (OpQ.call (vs := [va, .func (.func 133) #[] #[]]) (caps := []) Tcall_106 rfl rfl (fun w hs => (by have h := ContainsFuncNetw_spec (hs.sl ha); rw [all9] at h; exact h))) ?_
 refine Run.p (.bool true) rfl rfl ?_
 refine Run.p (.bool true) rfl rfl ?_
 refine Run.p (.bool true) rfl rfl ?_
 refine Run.done ?_
 refine Run.ret ?_
 refine ⟨.bool true, [], Out.one rfl rfl, (Some'.weak (.nil _)), ?_⟩
 rfl

set_option maxHeartbeats 2000000 in
set_option maxRecDepth 20000 in
theorem ParitiesOf_spec {va : Value} {n : Nat} {G : List (Nat × Nat)} {w : World} (h15 : 1 ≤ n ∧ n ≤ 5) (hG : WOk n G) (hl : G.length ≤ 300) (ha : Sl w va 3 G.length (ints (flCX G))) : Calls Try.prog 87 #[.agg #[.int .i64 (n : Int), va]] w (Post No w fun v H => ∃ u, v = .tuple #[u, .bool true] ∧ H = [.own u 3 1 (parO n G G.length).length (ints (nl (parO n G G.length)))]) := by
 have hfl := flCX_length G
 obtain ⟨A, c, rfl, _, _⟩ := ha.form0
 have h32 : 2 ^ n ≤ 32 := Nat.le_trans (Nat.pow_le_pow_right (by omega) h15.2) (by decide)
 refine enter (n := 54) (args := [.agg #[.int .i64 (((n : Nat) : Int)), .slice A (G.length) c]]) Try.func87 rfl rfl (St.empty _ _) ?_
 refine Run.sr ?_
 refine Run.step rfl (OpStep.box (us := [.int .i64 (((n : Nat) : Int)), .slice A (G.length) c]) rfl fun b1 => ?_)
 refine Run.p (.slice none 0 0) rfl rfl ?_
 refine Run.p (.bool false) rfl rfl ?_
 refine Run.done ?_
 refine Run.seq ?_
 refine Run.sr ?_
 refine Run.y (.agg #[.int .i64 (((n : Nat) : Int)), .slice A (G.length) c]) rfl (OpY.loadN (cs := [.int .i64 (((n : Nat) : Int)), .slice A (G.length) c]) Tagg_38 rfl (Cells.blk (.head _) ⟨rfl, rfl, trivial⟩)) ?_
 refine Run.q (v := .bool true) rfl (OpQ.call (vs := [.agg #[.int .i64 (((n : Nat) : Int)), .slice A (G.length) c]]) (caps := []) Tcall_124 rfl rfl (fun w hs => isNetwork_spec h15 hG hl (hs.sl ha))) ?_
 refine Run.p (.bool false) rfl rfl ?_
 refine Run.done ?_
 refine Run.cond (b := false) rfl (fun h => nomatch h) (fun _ => ?_)
 refine Run.skip ?_
 refine Run.sr ?_
 refine Run.y (.pointer (some ⟨b1, 0, none⟩)) rfl (OpY.fieldAddr Tfo_38_0 rfl rfl) ?_
 refine Run.y (.int .i64 (((n : Nat) : Int))) rfl (OpY.load1 Tone_3 rfl (Cells.blk (.head _) ⟨rfl, trivial⟩)) ?_
 refine Run.step rfl (OpStep.call (vs := [.int .i64 (((n : Nat) : Int))]) (caps := []) Tcall_67 rfl rfl (fun w hs => identityLinear_spec h15.2 w) ?_)
 rintro _ _ ⟨ui, rfl, rfl⟩
 show Run _ _ (putF _ _ _ (.agg #[ui])) [.own ui 3 1 n (ints (nl (idL n))), .blk b1 38 [.int .i64 (((n : Nat) : Int)), .slice A (G.length) c]]
 refine Run.y (ui) rfl (OpY.run (by intro w; kernel_rfl)) ?_
 refine Run.p (ui) rfl rfl ?_
 refine Run.dsr ?_
 refine Run.p (ui) rfl rfl ?_
 refine Run.step rfl (OpStep.call (vs := [ui]) (caps := []) Tcall_109 rfl rfl (fun w hs => CloneAny_spec (by omega) (hs.slOwn (.head _))) ?_)
 rintro uc _ rfl
 show Run _ _ (putF _ _ _ uc) [.own uc 3 1 n (ints (nl (idL n))), .own ui 3 1 n (ints (nl (idL n))), .blk b1 38 [.int .i64 (((n : Nat) : Int)), .slice A (G.length) c]]
 refine Run.p (uc) rfl rfl ?_
 refine Run.done ?_
 refine Run.weak (H' := [.own uc 3 1 ((parO n G 0).length) (ints (nl (parO n G 0))), .own ui 3 1 n (ints (nl (cxs (idL n) (G.take 0)))), .blk b1 38 [.int .i64 (((n : Nat) : Int)), .slice A (G.length) c]]) ((Weak.refl _).trans (Some'.weak (.takeEq (by show Res.own _ _ _ _ _ = Res.own _ _ _ (idL n).length _; rw [idL_length]; rfl) (.takeEq (by rw [List.take_zero]; rfl) (.take (.nil _)))))) ?_ ⟨_, _, rfl, fun _ => nofun, fun _ => nofun⟩
 refine Run.seq ?_
 refine Run.sr ?_
 refine Run.y (.pointer (some ⟨b1, 1, none⟩)) rfl (OpY.fieldAddr Tfo_38_1 rfl rfl) ?_
 refine Run.y (.slice A (G.length) c) rfl (OpY.load1 Tone_36 rfl (Cells.blk (.tail _ (.tail _ (List.Mem.head _))) ⟨rfl, trivial⟩)) ?_
 refine Run.y (.int .i64 (((G.length : Nat) : Int))) rfl (OpY.len Tsl_36 rfl) ?_
 refine Run.p (.int .i64 0) rfl rfl ?_
 refine Run.done ?_
 refine Run.block ?_
 refine Run.loop (ι := Nat × Value) [5, 7, 20, 21, 22, 23, 24, 25, 26, 27, 28, 29, 30, 31, 32, 33, 34, 35, 36, 37, 38, 39, 40, 41, 42, 43, 44, 45, 46, 47, 48, 49, 50, 51, 52] (fun ⟨k, vp⟩ => [(5, vp), (20, .int .i64 (((k : Nat) : Int)))]) (fun ⟨k, vp⟩ => [.own vp 3 1 ((parO n G k).length) (ints (nl (parO n G k))), .own ui 3 1 n (ints (nl (cxs (idL n) (G.take k)))), .blk b1 38 [.int .i64 (((n : Nat) : Int)), .slice A (G.length) c]]) (fun ⟨k, vp⟩ => k ≤ G.length ∧ (True)) (fun ⟨k, vp⟩ => G.length - k) (0, uc) ?_ ?_ ?_ ?_
 ·exact ⟨Nat.zero_le _, by first | trivial | (intro i hi; omega)⟩
 ·exact ⟨rfl, rfl, trivial⟩
 ·exact ((Weak.refl _).trans (Some'.weak (.takeEq (by first | rfl | (rw [hold])) (.takeEq (by first | rfl | (rw [hold])) (.take (.nil _))))))
 ·rintro ⟨k, vp⟩ fr hinv
  show Run _ _ (over _ _ [(5, vp), (20, .int .i64 (((k : Nat) : Int)))] fr) [.own vp 3 1 ((parO n G k).length) (ints (nl (parO n G k))), .own ui 3 1 n (ints (nl (cxs (idL n) (G.take k)))), .blk b1 38 [.int .i64 (((n : Nat) : Int)), .slice A (G.length) c]]
  try dsimp only at hinv
  refine Run.sr ?_
  refine Run.p (.bool (decide ((((k : Nat) : Int)) < (((G.length : Nat) : Int))))) rfl rfl ?_
  refine Run.done ?_
  refine Run.seq ?_
  refine Run.cond (b := decide ((((k : Nat) : Int)) < (((G.length : Nat) : Int)))) rfl (fun h21 => ?_) (fun h21 => ?_)
  ·have p21 := h21; try simp only [bs] at p21
   have hltk : k < G.length := by omega
   obtain ⟨b, o, rfl⟩ := ha.opn (by omega)
   obtain ⟨ga, gb, hgab⟩ : ∃ a b, gat G k = (a, b) := ⟨_, _, rfl⟩
   have hgm := hG _ (gat_mem (show k < G.length by omega))
   rw [hgab] at hgm
   have hpl := parO_len n G k
   have hrl := rows_len n (G.take k)
   have hrl2 := rows_len n (G.take (k + 1))
   have hlt1 : ∀ j, nx (cxs (idL n) (G.take k)) j < 32 := fun j => Nat.lt_of_lt_of_le (cxs_lt (k := n) (G.take k) (idL n) (idL_lt n) j) h32
   have hxa := hlt1 ga
   have hxb := hlt1 gb
   refine Run.skip ?_
   refine Run.seq ?_
   refine Run.block ?_
   refine Run.sr ?_
   refine Run.y (.pointer (some ⟨b, o + k * 3, none⟩)) rfl (OpY.index (kk := k) Tsl_36 rfl rfl (by omega) (by omega) (by first | rfl | omega)) ?_
   refine Run.y (.agg #[.int .i64 9, .int .i64 (((ga : Nat) : Int)), .int .i64 (((gb : Nat) : Int))]) rfl (OpY.loadN (cs := [.int .i64 9, .int .i64 (((ga : Nat) : Int)), .int .i64 (((gb : Nat) : Int))]) Tagg_71 rfl (by have h := preCX (l := G) (k := k) (by omega); rw [gatI, hgab] at h; exact Cells.arg (k := k * 3) ha rfl (by omega) h)) ?_
   refine Run.step rfl (OpStep.alloc (zs := [.int .i64 0, .int .i64 0, .int .i64 0]) Tzero_71 fun b2 => ?_)
   refine Run.step rfl (OpStep.storeAll (us := [.int .i64 9, .int .i64 (((ga : Nat) : Int)), .int .i64 (((gb : Nat) : Int))]) Tsize_71 rfl rfl rfl (.here _) rfl ?_)
   refine Run.done ?_
   refine Run.seq ?_
   refine Run.openOwn (.tail _ (.tail _ (List.Mem.head _))) (by omega) (fun gr cr hvgr hcapgr _ => ?_) (fun _ _ _ => ⟨nofun, nofun, nofun⟩)
   subst hvgr
   refine Run.lastly [12] (by kernel_rfl) ?_
   refine DL.takeP (i := 0) (v := .slice (some ⟨gr, 0, none⟩) n cr) rfl (by kernel_rfl) (by kernel_rfl) (by kernel_rfl) (fun _ _ _ h => h) rfl (fun _ => OpY.pure rfl) ?_
   refine DL.takeP (i := 1) (v := .pointer (some ⟨b2, 2, none⟩)) rfl (by kernel_rfl) (by kernel_rfl) (by kernel_rfl) (fun _ _ _ h => h) rfl (fun _ => OpY.fieldAddr Tfo_71_2 rfl rfl) ?_
   refine DL.take (i := 2) (v := .int .i64 (((gb : Nat) : Int))) rfl (by kernel_rfl) (by kernel_rfl) (by kernel_rfl) (by kernel_rfl) (fun _ _ _ h => h) (Some'.weak (.take (.take (.take (.take (.nil _)))))) rfl (OpY.load1 Tone_3 rfl (Cells.blk (.head _) ⟨rfl, trivial⟩)) ?_
   refine DL.takeP (i := 3) (v := .pointer (some ⟨gr, gb, none⟩)) rfl (by kernel_rfl) (by kernel_rfl) (by kernel_rfl) (fun _ _ _ h => h) rfl (fun _ => OpY.index (kk := gb) Tsl_22 rfl rfl (by omega) (by omega) (by first | rfl | omega)) ?_
   refine DL.take (i := 4) (v := .int .i64 (ix (nl (cxs (idL n) (G.take k))) (gb))) rfl (by kernel_rfl) (by kernel_rfl) (by kernel_rfl) (by kernel_rfl) (fun _ _ _ h => h) (Some'.weak (.take (.take (.take (.take (.nil _)))))) rfl (OpY.load1 Tone_3 rfl (Cells.own0 (.tail _ (.tail _ (List.Mem.head _))) (pre1 (by first | omega | (simp only [ints_length, nl_length, cxs_length, idL_length]; omega) | (rw [nl_length, rows_len]; omega))))) ?_
   refine DL.takeP (i := 5) (v := .slice (some ⟨gr, 0, none⟩) n cr) rfl (by kernel_rfl) (by kernel_rfl) (by kernel_rfl) (fun _ _ _ h => h) rfl (fun _ => OpY.pure rfl) ?_
   refine DL.takeP (i := 6) (v := .pointer (some ⟨b2, 1, none⟩)) rfl (by kernel_rfl) (by kernel_rfl) (by kernel_rfl) (fun _ _ _ h => h) rfl (fun _ => OpY.fieldAddr Tfo_71_1 rfl rfl) ?_
   refine DL.take (i := 7) (v := .int .i64 (((ga : Nat) : Int))) rfl (by kernel_rfl) (by kernel_rfl) (by kernel_rfl) (by kernel_rfl) (fun _ _ _ h => h) (Some'.weak (.take (.take (.take (.take (.nil _)))))) rfl (OpY.load1 Tone_3 rfl (Cells.blk (.head _) ⟨rfl, trivial⟩)) ?_
   refine DL.takeP (i := 8) (v := .pointer (some ⟨gr, ga, none⟩)) rfl (by kernel_rfl) (by kernel_rfl) (by kernel_rfl) (fun _ _ _ h => h) rfl (fun _ => OpY.index (kk := ga) Tsl_22 rfl rfl (by omega) (by omega) (by first | rfl | omega)) ?_
   refine DL.take (i := 9) (v := .int .i64 (ix (nl (cxs (idL n) (G.take k))) (ga))) rfl (by kernel_rfl) (by kernel_rfl) (by kernel_rfl) (by kernel_rfl) (fun _ _ _ h => h) (Some'.weak (.take (.take (.take (.take (.nil _)))))) rfl (OpY.load1 Tone_3 rfl (Cells.own0 (.tail _ (.tail _ (List.Mem.head _))) (pre1 (by first | omega | (simp only [ints_length, nl_length, cxs_length, idL_length]; omega) | (rw [nl_length, rows_len]; omega))))) ?_
   refine DL.takeP (i := 10) (v := .int .i64 (((nx (cxs (idL n) (G.take k)) gb ^^^ nx (cxs (idL n) (G.take k)) ga : Nat) : Int))) rfl (by kernel_rfl) (by kernel_rfl) (by kernel_rfl) (fun _ _ _ h => h) rfl (fun _ => OpY.xorNat rfl rfl (ix_nl _ _) (ix_nl _ _) (by omega) (by omega)) ?_
   refine DL.takeP (i := 11) (v := .pointer (some ⟨gr, gb, none⟩)) rfl (by kernel_rfl) (by kernel_rfl) (by kernel_rfl) (fun _ _ _ h => h) rfl (fun _ => OpY.index (kk := gb) Tsl_22 rfl rfl (by omega) (by omega) (by first | rfl | omega)) ?_
   refine DL.step (i := 12) (by kernel_rfl) (by kernel_rfl) rfl rfl (OpStep.storeOwnInt (o := gb) (a := ((nx (cxs (idL n) (G.take k)) gb ^^^ nx (cxs (idL n) (G.take k)) ga : Nat) : Int)) Tsize_3 rfl rfl (.there _ (.there _ (.here _))) (by first | omega | (simp only [ints_length, nl_length, cxs_length, idL_length]; omega) | (rw [nl_length, rows_len]; omega)) ?_)
   refine DL.done (by kernel_rfl) ?_
   refine Run.weak (H' := [.own (.slice (some ⟨gr, 0, none⟩) n cr) 3 1 n (ints (nl (cxs (idL n) (G.take (k + 1))))), .blk b2 71 [.int .i64 9, .int .i64 (((ga : Nat) : Int)), .int .i64 (((gb : Nat) : Int))], .own vp 3 1 ((parO n G k).length) (ints (nl (parO n G k))), .blk b1 38 [.int .i64 (((n : Nat) : Int)), .slice (some ⟨b, o, none⟩) (G.length) c]]) ((Weak.selF [2]).trans (Some'.weak (.takeEq (by rw [nl_set, cxs_take (by omega), hgab]; rfl) (.take (.take (.take (.nil _))))))) ?_ ⟨_, _, rfl, fun _ => nofun, fun _ => nofun⟩
   refine Run.sr ?_
   refine Run.p (vp) rfl rfl ?_
   refine Run.p (.slice (some ⟨gr, 0, none⟩) n cr) rfl rfl ?_
   refine Run.y (.pointer (some ⟨b2, 2, none⟩)) rfl (OpY.fieldAddr Tfo_71_2 rfl rfl) ?_
   refine Run.y (.int .i64 (((gb : Nat) : Int))) rfl (OpY.load1 Tone_3 rfl (Cells.blk (.tail _ (List.Mem.head _)) ⟨rfl, trivial⟩)) ?_
   refine Run.y (.pointer (some ⟨gr, gb, none⟩)) rfl (OpY.index (kk := gb) Tsl_22 rfl rfl (by omega) (by omega) (by first | rfl | omega)) ?_
   refine Run.y (.int .i64 (ix (nl (cxs (idL n) (G.take (k + 1)))) (gb))) rfl (OpY.load1 Tone_3 rfl (Cells.own0 (.head _) (pre1 (by first | omega | (simp only [ints_length, nl_length, cxs_length, idL_length]; omega) | (rw [nl_length, rows_len]; omega))))) ?_
   refine Run.q (v := .bool (decide (nx (cxs (idL n) (G.take (k + 1))) gb ∈ parO n G k))) rfl (OpQ.call (vs := [vp, .int .i64 (ix (nl (cxs (idL n) (G.take (k + 1)))) (gb))]) (caps := []) Tcall_89 rfl rfl (fun w hs => (by have h := ContainsInt_spec (x := ix (nl (cxs (idL n) (G.take (k + 1)))) (gb)) (hs.slOwn (.tail _ (.tail _ (List.Mem.head _)))); rw [ix_nl, has_nl] at h; rw [ix_nl]; exact h))) ?_
   refine Run.p (.bool (!(decide (nx (cxs (idL n) (G.take (k + 1))) gb ∈ parO n G k)))) rfl rfl ?_
   refine Run.done ?_
   refine Run.cond (b := !(decide (nx (cxs (idL n) (G.take (k + 1))) gb ∈ parO n G k))) rfl (fun h43 => ?_) (fun h43 => ?_)
   ·have p43 := h43; try simp only [bs] at p43
    have hnew : parO n G (k + 1) = parO n G k ++ [nx (cxs (idL n) (G.take (k + 1))) gb] := by rw [parO, hgab, if_neg (by simpa using h43)]
    refine Run.region ?_
    refine Run.p (vp) rfl rfl ?_
    refine Run.p (.slice (some ⟨gr, 0, none⟩) n cr) rfl rfl ?_
    refine Run.y (.pointer (some ⟨b2, 2, none⟩)) rfl (OpY.fieldAddr Tfo_71_2 rfl rfl) ?_
    refine Run.y (.int .i64 (((gb : Nat) : Int))) rfl (OpY.load1 Tone_3 rfl (Cells.blk (.tail _ (List.Mem.head _)) ⟨rfl, trivial⟩)) ?_
    refine Run.y (.pointer (some ⟨gr, gb, none⟩)) rfl (OpY.index (kk := gb) Tsl_22 rfl rfl (by omega) (by omega) (by first | rfl | omega)) ?_
    refine Run.y (.int .i64 (ix (nl (cxs (idL n) (G.take (k + 1)))) (gb))) rfl (OpY.load1 Tone_3 rfl (Cells.own0 (.head _) (pre1 (by first | omega | (simp only [ints_length, nl_length, cxs_length, idL_length]; omega) | (rw [nl_length, rows_len]; omega))))) ?_
    refine Run.step rfl (OpStep.buildSlice (us := [.int .i64 (ix (nl (cxs (idL n) (G.take (k + 1)))) (gb))]) Tsl_22 (by decide) (by decide) ⟨rfl, [.int .i64 (ix (nl (cxs (idL n) (G.take (k + 1)))) (gb))], _, rfl, rfl, rfl, rfl⟩ rfl fun b3 => ?_)
    refine Run.step rfl (OpStep.append (H1 := [.own (.slice (some ⟨b3, 0, none⟩) 1 1) 3 1 1 ([.int .i64 (ix (nl (cxs (idL n) (G.take (k + 1)))) (gb))]), .own (.slice (some ⟨gr, 0, none⟩) n cr) 3 1 n (ints (nl (cxs (idL n) (G.take (k + 1))))), .blk b2 71 [.int .i64 9, .int .i64 (((ga : Nat) : Int)), .int .i64 (((gb : Nat) : Int))]]) (H2 := [.blk b1 38 [.int .i64 (((n : Nat) : Int)), .slice (some ⟨b, o, none⟩) (G.length) c]]) (v := vp) (u := .slice (some ⟨b3, 0, none⟩) 1 1) (n := (parO n G k).length) (m := 1) (xs := ints (nl (parO n G k))) (ys := [.int .i64 (ix (nl (cxs (idL n) (G.take (k + 1)))) (gb))]) Tsl_22 (by decide) rfl rfl rfl rfl (fun w hs => hs.slOwn (.head _)) (by simp [Value.oneCell']) (by omega) (by simp only [maxLen]; omega) fun av1 hnav1 => ?_)
    refine Run.weak (H' := [.own (.slice (some ⟨b3, 0, none⟩) 1 1) 3 1 1 ([.int .i64 (ix (nl (cxs (idL n) (G.take (k + 1)))) (gb))]), .own (.slice (some ⟨gr, 0, none⟩) n cr) 3 1 n (ints (nl (cxs (idL n) (G.take (k + 1))))), .blk b2 71 [.int .i64 9, .int .i64 (((ga : Nat) : Int)), .int .i64 (((gb : Nat) : Int))], .own av1 3 1 ((parO n G (k + 1)).length) (ints (nl (parO n G (k + 1)))), .blk b1 38 [.int .i64 (((n : Nat) : Int)), .slice (some ⟨b, o, none⟩) (G.length) c]]) (Some'.weak (.take (.take (.take (.takeEq (by rw [hnew, nl_snoc, ints_append, List.length_append, ix_nl]; rfl) (.take (.nil _))))))) ?_ ⟨_, _, rfl, fun _ => nofun, fun _ => nofun⟩
    refine Run.p (av1) rfl rfl ?_
    refine Run.done ?_
    refine Run.blockEnd ?_
    refine Run.region ?_
    refine Run.y (.int .i64 ((((k : Nat) : Int)) + 1)) rfl (OpY.add rfl rfl rfl (by omega) (by omega)) ?_
    refine Run.p (.int .i64 ((((k : Nat) : Int)) + 1)) rfl rfl ?_
    refine Run.done ?_
    refine Run.goal ⟨(by repeat (first | exact Same.refl _ _ | refine Same.put rfl ?_ | refine Same.over rfl rfl ?_)), (k + 1, av1), ?_, ?_, ?_, ?_⟩
    ·refine ⟨by omega, ?_⟩
     trivial
    ·show G.length - (k + 1) < G.length - k; omega
    ·exact ⟨(by first | rfl | (congr 1; omega) | simp), (by first | rfl | (congr 1; omega) | simp), trivial⟩
    ·exact ((Weak.selF [3, 1, 2]).trans (Some'.weak (.takeEq (by first | rfl | (rw [hold])) (.takeEq (by first | rfl | (rw [hold])) (.takeEq (by first | rfl | (rw [hold])) (.nil _))))))
   ·have p43 := h43; try simp only [bs] at p43
    have hold : parO n G (k + 1) = parO n G k := by rw [parO, hgab, if_pos (by simpa using h43)]
    refine Run.skip ?_
    refine Run.blockEnd ?_
    refine Run.region ?_
    refine Run.y (.int .i64 ((((k : Nat) : Int)) + 1)) rfl (OpY.add rfl rfl rfl (by omega) (by omega)) ?_
    refine Run.p (.int .i64 ((((k : Nat) : Int)) + 1)) rfl rfl ?_
    refine Run.done ?_
    refine Run.goal ⟨(by repeat (first | exact Same.refl _ _ | refine Same.put rfl ?_ | refine Same.over rfl rfl ?_)), (k + 1, vp), ?_, ?_, ?_, ?_⟩
    ·refine ⟨by omega, ?_⟩
     trivial
    ·show G.length - (k + 1) < G.length - k; omega
    ·exact ⟨(by first | rfl | (congr 1; omega) | simp), (by first | rfl | (congr 1; omega) | simp), trivial⟩
    ·exact ((Weak.selF [2, 0, 1]).trans (Some'.weak (.takeEq (by first | rfl | (rw [hold])) (.takeEq (by first | rfl | (rw [hold])) (.takeEq (by first | rfl | (rw [hold])) (.nil _))))))
  ·have p21 := h21; try simp only [bs] at p21
   have hknk : k = G.length := by omega
   refine Run.exit rfl ?_
   refine Run.sr ?_
   refine Run.p (vp) rfl rfl ?_
   refine Run.p (vp) rfl rfl ?_
   refine Run.p (.bool true) rfl rfl ?_
   refine Run.done ?_
   refine Run.ret ?_
   refine ⟨.tuple #[vp, .bool true], [.own vp 3 1 ((parO n G k).length) (ints (nl (parO n G k)))], Out.two rfl rfl rfl, (Some'.weak (.take (.nil _))), ?_⟩
   exact ⟨_, rfl, by rw [hknk]⟩

set_option maxHeartbeats 1000000 in
set_option maxRecDepth 20000 in
theorem isParClo_spec {x : Int} {P : List Nat} {AP : Option Addr} {cP p : Nat} {w : World} (hP : Sl w (.slice AP P.length cP) 1 P.length (ints (nl P))) (hc : Sl w (.slice (some ⟨p, 0, none⟩) 1 1) 1 1 [.slice AP P.length cP]) : Calls Try.prog 88 #[.int .i64 x, .pointer (some ⟨p, 0, none⟩)] w (Post No w fun v _ => v = .bool (!hasI (nl P) x P.length)) := by
 refine enter (n := 8) (args := [.int .i64 x, .pointer (some ⟨p, 0, none⟩)]) Try.func88 rfl rfl (St.empty _ _) ?_
 refine Run.sr ?_
 refine Run.p (.bool false) rfl rfl ?_
 refine Run.dsr ?_
 refine Run.y (.slice AP (P.length) cP) rfl (OpY.load1 Tone_22 rfl (Cells.env (k := 0) hc rfl (by decide) ⟨rfl, trivial⟩)) ?_
 refine Run.p (.int .i64 x) rfl rfl ?_
 refine Run.q (v := .bool (hasI (nl P) x P.length)) rfl (OpQ.call (vs := [.slice AP (P.length) cP, .int .i64 x]) (caps := []) Tcall_89 rfl rfl (fun w hs => ContainsInt_spec (hs.sl hP))) ?_
 refine Run.p (.bool (!(hasI (nl P) x P.length))) rfl rfl ?_
 refine Run.p (.bool (!(hasI (nl P) x P.length))) rfl rfl ?_
 refine Run.done ?_
 refine Run.ret ?_
 refine ⟨.bool (!(hasI (nl P) x P.length)), [], Out.one rfl rfl, (Some'.weak (.nil _)), ?_⟩
 rfl

set_option maxHeartbeats 1000000 in
set_option maxRecDepth 20000 in
theorem IndexFuncPar_spec {P : List Nat} {AP : Option Addr} {cP p : Nat} {va : Value} {n : Nat} {xs : List Int} {w : World} (ha : Sl w va 1 n (ints xs)) (hP : Sl w (.slice AP P.length cP) 1 P.length (ints (nl P))) (hc : Sl w (.slice (some ⟨p, 0, none⟩) 1 1) 1 1 [.slice AP P.length cP]) : Calls Try.prog 111 #[va, .func (.func 88) #[] #[.pointer (some ⟨p, 0, none⟩)]] w (Post No w fun v _ => v = .int .i64 (findI (fun i => !hasI (nl P) (ix xs i) P.length) n)) := by
 have hxl := ha.len
 have hn := ha.le
 obtain ⟨A, c, rfl, _, _⟩ := ha.form0
 refine enter (n := 19) (args := [.slice A n c, .func (.func 88) #[] #[.pointer (some ⟨p, 0, none⟩)]]) Try.func111 rfl rfl (St.empty _ _) ?_
 refine Run.sr ?_
 refine Run.p (.int .i64 0) rfl rfl ?_
 refine Run.done ?_
 refine Run.seq ?_
 refine Run.sr ?_
 refine Run.p (.slice A n c) rfl rfl ?_
 refine Run.y (.int .i64 (((n : Nat) : Int))) rfl (OpY.len Tsl_22 rfl) ?_
 refine Run.p (.int .i64 0) rfl rfl ?_
 refine Run.done ?_
 refine Run.block ?_
 refine Run.loop (ι := Nat) [4, 5, 8, 9, 10, 11, 12, 13, 14, 15, 16, 17, 18] (fun k => [(8, .int .i64 (((k : Nat) : Int)))]) (fun k => []) (fun k => k ≤ n ∧ (∀ i, i < k → (!hasI (nl P) (ix xs i) P.length) = false)) (fun k => n - k) 0 ?_ ?_ ?_ ?_
 ·exact ⟨Nat.zero_le _, by first | trivial | (intro i hi; omega)⟩
 ·exact ⟨rfl, trivial⟩
 ·exact (Some'.weak (.nil _))
 ·rintro k fr hinv
  show Run _ _ (over _ _ [(8, .int .i64 (((k : Nat) : Int)))] fr) []
  try dsimp only at hinv
  refine Run.sr ?_
  refine Run.p (.bool (decide ((((k : Nat) : Int)) < (((n : Nat) : Int))))) rfl rfl ?_
  refine Run.done ?_
  refine Run.seq ?_
  refine Run.cond (b := decide ((((k : Nat) : Int)) < (((n : Nat) : Int)))) rfl (fun h9 => ?_) (fun h9 => ?_)
  ·have p9 := h9; try simp only [bs] at p9
   have hltk : k < n := by omega
   obtain ⟨b, o, rfl⟩ := ha.opn (by omega)
   refine Run.skip ?_
   refine Run.seq ?_
   refine Run.block ?_
   refine Run.sr ?_
   refine Run.p (.int .i64 (((k : Nat) : Int))) rfl rfl ?_
   refine Run.p (.int .i64 (((k : Nat) : Int))) rfl rfl ?_
   refine Run.dsr ?_
   refine Run.p (.func (.func 88) #[] #[.pointer (some ⟨p, 0, none⟩)]) rfl rfl ?_
   refine Run.p (.slice (some ⟨b, o, none⟩) n c) rfl rfl ?_
   refine Run.p (.int .i64 (((k : Nat) : Int))) rfl rfl ?_
   refine Run.y (.pointer (some ⟨b, o + k, none⟩)) rfl (OpY.index (kk := k) Tsl_22 rfl rfl (by omega) (by omega) (by first | rfl | omega)) ?_
   refine Run.y (.int .i64 (ix xs (k))) rfl (OpY.load1 Tone_3 rfl (Cells.arg (k := k) ha rfl (by omega) (pre1 (by omega)))) ?_
   refine Run.q (v := .bool (!hasI (nl P) (ix xs k) P.length)) rfl (OpQ.call (vs := [.int .i64 (ix xs (k)), .pointer (some ⟨p, 0, none⟩)]) (caps := [.pointer (some ⟨p, 0, none⟩)]) Tcall_88 rfl rfl (fun w hs => isParClo_spec (hs.sl hP) (hs.sl hc))) ?_
   refine Run.done ?_
   refine Run.cond (b := !hasI (nl P) (ix xs k) P.length) rfl (fun h16 => ?_) (fun h16 => ?_)
   ·have p16 := h16; try simp only [bs] at p16
    refine Run.seq ?_
    have hres : findI (fun i => !hasI (nl P) (ix xs i) P.length) n = k := findI_hit hinv.2 h16 hltk
    refine Run.region ?_
    refine Run.p (.int .i64 (((k : Nat) : Int))) rfl rfl ?_
    refine Run.p (.int .i64 (((k : Nat) : Int))) rfl rfl ?_
    refine Run.done ?_
    refine Run.ret ?_
    refine ⟨.int .i64 (((k : Nat) : Int)), [], Out.one rfl rfl, (Some'.weak (.nil _)), ?_⟩
    show _ = _; rw [hres]
   ·have p16 := h16; try simp only [bs] at p16
    refine Run.skip ?_
    refine Run.blockEnd ?_
    have hgood : (!hasI (nl P) (ix xs k) P.length) = false := h16
    refine Run.region ?_
    refine Run.y (.int .i64 ((((k : Nat) : Int)) + 1)) rfl (OpY.add rfl rfl rfl (by omega) (by omega)) ?_
    refine Run.p (.int .i64 ((((k : Nat) : Int)) + 1)) rfl rfl ?_
    refine Run.done ?_
    refine Run.goal ⟨(by repeat (first | exact Same.refl _ _ | refine Same.put rfl ?_ | refine Same.over rfl rfl ?_)), k + 1, ?_, ?_, ?_, ?_⟩
    ·refine ⟨by omega, ?_⟩
     intro i hi
     rcases Nat.lt_succ_iff_lt_or_eq.1 hi with h | h
     ·exact hinv.2 i h
     ·rw [h]; exact hgood
    ·omega
    ·exact ⟨(by first | rfl | (congr 1; omega) | simp), trivial⟩
    ·exact (Some'.weak (.nil _))
  ·have p9 := h9; try simp only [bs] at p9
   have hknk : k = n := by omega
   have hres : findI (fun i => !hasI (nl P) (ix xs i) P.length) n = -1 := by rw [← hknk]; exact findI_none hinv.2
   refine Run.exit rfl ?_
   refine Run.sr ?_
   refine Run.p (.int .i64 (-1)) rfl rfl ?_
   refine Run.done ?_
   refine Run.ret ?_
   refine ⟨.int .i64 (-1), [], Out.one rfl rfl, (Some'.weak (.nil _)), ?_⟩
   show _ = _; rw [hres]

set_option maxHeartbeats 1000000 in
set_option maxRecDepth 20000 in
theorem ContainsFuncPar_spec {P : List Nat} {AP : Option Addr} {cP p : Nat} {va : Value} {n : Nat} {xs : List Int} {w : World} (ha : Sl w va 1 n (ints xs)) (hP : Sl w (.slice AP P.length cP) 1 P.length (ints (nl P))) (hc : Sl w (.slice (some ⟨p, 0, none⟩) 1 1) 1 1 [.slice AP P.length cP]) : Calls Try.prog 74 #[va, .func (.func 88) #[] #[.pointer (some ⟨p, 0, none⟩)]] w (Post No w fun v _ => v = .bool (anyI (fun i => !hasI (nl P) (ix xs i) P.length) n)) := by
 refine enter (n := 9) (args := [va, .func (.func 88) #[] #[.pointer (some ⟨p, 0, none⟩)]]) Try.func74 rfl rfl (St.empty _ _) ?_
 refine Run.sr ?_
 refine Run.p (.bool false) rfl rfl ?_
 refine Run.dsr ?_
 refine Run.p (va) rfl rfl ?_
 refine Run.p (.func (.func 88) #[] #[.pointer (some ⟨p, 0, none⟩)]) rfl rfl ?_
 refine Run.q (v := .int .i64 (findI (fun i => !hasI (nl P) (ix xs i) P.length) n)) rfl (OpQ.call (vs := [va, .func (.func 88) #[] #[.pointer (some ⟨p, 0, none⟩)]]) (caps := []) Tcall_111 rfl rfl (fun w hs => IndexFuncPar_spec (hs.sl ha) (hs.sl hP) (hs.sl hc))) ?_
 refine Run.p (.bool (decide ((findI (fun i => !hasI (nl P) (ix xs i) P.length) n) ≥ 0))) rfl rfl ?_
 refine Run.p (.bool (decide ((findI (fun i => !hasI (nl P) (ix xs i) P.length) n) ≥ 0))) rfl rfl ?_
 refine Run.done ?_
 refine Run.ret ?_
 refine ⟨.bool (decide ((findI (fun i => !hasI (nl P) (ix xs i) P.length) n) ≥ 0)), [], Out.one rfl rfl, (Some'.weak (.nil _)), ?_⟩
 show _ = _; rw [findI_ge]

set_option maxHeartbeats 1000000 in
set_option maxRecDepth 20000 in
theorem IsParityNetwork_spec {va : Value} {n : Nat} {G : List (Nat × Nat)} {w : World} (h15 : 1 ≤ n ∧ n ≤ 5) (hG : WOk n G) (hl : G.length ≤ 300) (ha : Sl w va 3 G.length (ints (flCX G))) {vm : Value} {mn : Nat} {ms : List Int} (hms : Sl w vm 1 mn (ints ms)) (hok : mskOk n ms mn = true) (happ : ∀ i, i < mn → App n G (ix ms i).toNat) : Calls Try.prog 44 #[.agg #[.int .i64 (n : Int), va], vm] w (Post No w fun v _ => v = .tuple #[.bool true, .bool true]) := by
 have hany : anyI (fun i => !hasI (nl (parO n G G.length)) (ix ms i) (parO n G G.length).length) mn = false := anyI_false fun i hi => by
  have h1 := (msk_at hok hi).1
  have h2 := parO_app hG (happ i hi)
  rw [show ix ms i = (((ix ms i).toNat : Nat) : Int) by omega, has_nl, decide_eq_true h2]; rfl
 refine enter (n := 26) (args := [.agg #[.int .i64 (((n : Nat) : Int)), va], vm]) Try.func44 rfl rfl (St.empty _ _) ?_
 refine Run.sr ?_
 refine Run.step rfl (OpStep.box (us := [.int .i64 (((n : Nat) : Int)), va]) rfl fun b1 => ?_)
 refine Run.p (.bool false) rfl rfl ?_
 refine Run.p (.bool false) rfl rfl ?_
 refine Run.dsr ?_
 refine Run.y (.agg #[.int .i64 (((n : Nat) : Int)), va]) rfl (OpY.loadN (cs := [.int .i64 (((n : Nat) : Int)), va]) Tagg_38 rfl (Cells.blk (.head _) ⟨rfl, rfl, trivial⟩)) ?_
 refine Run.step rfl (OpStep.call (vs := [.agg #[.int .i64 (((n : Nat) : Int)), va]]) (caps := []) Tcall_87 rfl rfl (fun w hs => ParitiesOf_spec h15 hG hl (hs.sl ha)) ?_)
 rintro _ _ ⟨up, rfl, rfl⟩
 show Run _ _ (putF _ _ _ (.tuple #[up, .bool true])) [.own up 3 1 ((parO n G G.length).length) (ints (nl (parO n G G.length))), .blk b1 38 [.int .i64 (((n : Nat) : Int)), va]]
 refine Run.p (.tuple #[up, .bool true]) rfl rfl ?_
 refine Run.p (up) rfl rfl ?_
 refine Run.p (.bool true) rfl rfl ?_
 refine Run.step rfl (OpStep.alloc (zs := [.slice none 0 0]) Tzero_22 fun b2 => ?_)
 refine Run.formOwn (.tail _ (List.Mem.head _)) (fun A_up1 c_up1 hv hcapc_up1 hmaxc_up1 => ?_) (fun _ _ _ => ⟨nofun, nofun, nofun⟩)
 subst hv
 refine Run.step rfl (OpStep.storeAll (us := [.slice A_up1 ((parO n G G.length).length) c_up1]) Tsize_22 rfl rfl rfl (.here _) rfl ?_)
 refine Run.p (.bool true) rfl rfl ?_
 refine Run.done ?_
 refine Run.seq ?_
 refine Run.sr ?_
 refine Run.p (.bool true) rfl rfl ?_
 refine Run.p (.bool false) rfl rfl ?_
 refine Run.p (.bool false) rfl rfl ?_
 refine Run.y (.pointer (some ⟨b1, 0, none⟩)) rfl (OpY.fieldAddr Tfo_38_0 rfl rfl) ?_
 refine Run.y (.int .i64 (((n : Nat) : Int))) rfl (OpY.load1 Tone_3 rfl (Cells.blk (.tail _ (.tail _ (List.Mem.head _))) ⟨rfl, trivial⟩)) ?_
 refine Run.p (vm) rfl rfl ?_
 refine Run.q (v := .bool true) rfl (OpQ.call (vs := [.int .i64 (((n : Nat) : Int)), vm]) (caps := []) Tcall_57 rfl rfl (fun w hs => (by have h := areMasks_spec (n := n) (hs.sl hms); rw [hok] at h; exact h))) ?_
 refine Run.p (.bool false) rfl rfl ?_
 refine Run.p (.bool false) rfl rfl ?_
 refine Run.done ?_
 refine Run.cond (b := false) rfl (fun h => nomatch h) (fun _ => ?_)
 refine Run.skip ?_
 refine Run.sr ?_
 refine Run.p (vm) rfl rfl ?_
 refine Run.y (.func (.func 88) #[] #[.pointer (some ⟨b2, 0, none⟩)]) rfl (OpY.makeFunc (caps := [.pointer (some ⟨b2, 0, none⟩)]) rfl) ?_
 refine Run.q (v := .bool false) rfl (OpQ.call (vs := [vm, .func (.func 88) #[] #[.pointer (some ⟨b2, 0, none⟩)]]) (caps := []) Tcall_74 rfl rfl (fun w hs => (by have h := ContainsFuncPar_spec (hs.sl hms) (hs.slOwn (.tail _ (List.Mem.head _))) (hs.slBlk (.head _)); rw [hany] at h; exact h))) ?_
 refine Run.p (.bool true) rfl rfl ?_
 refine Run.p (.bool true) rfl rfl ?_
 refine Run.p (.bool true) rfl rfl ?_
 refine Run.done ?_
 refine Run.ret ?_
 refine ⟨.tuple #[.bool true, .bool true], [], Out.two rfl rfl rfl, (Some'.weak (.nil _)), ?_⟩
 rfl

set_option maxHeartbeats 1000000 in
set_option maxRecDepth 20000 in
theorem GrayNetwork_spec {vm : Value} {n : Nat} {ms : List Int} {w : World} (hms : Sl w vm 1 ms.length (ints ms)) : Calls Try.prog 41 #[.int .i64 (n : Int), vm] w (Post No w fun v H => ∃ u, v = .tuple #[.agg #[.int .i64 (gnN n ms), u], .bool (mskOk n ms ms.length)] ∧ H = [.own u 71 3 (gnG n ms).length (ints (flCX (gnG n ms)))]) := by
 refine enter (n := 18) (args := [.int .i64 (((n : Nat) : Int)), vm]) Try.func41 rfl rfl (St.empty _ _) ?_
 refine Run.sr ?_
 refine Run.step rfl (OpStep.alloc (zs := [.int .i64 0, .slice none 0 0]) Tzero_38 fun b1 => ?_)
 refine Run.p (.bool false) rfl rfl ?_
 refine Run.done ?_
 refine Run.seq ?_
 refine Run.sr ?_
 refine Run.p (.int .i64 (((n : Nat) : Int))) rfl rfl ?_
 refine Run.p (vm) rfl rfl ?_
 refine Run.q (v := .bool (mskOk n ms ms.length)) rfl (OpQ.call (vs := [.int .i64 (((n : Nat) : Int)), vm]) (caps := []) Tcall_57 rfl rfl (fun w hs => areMasks_spec (hs.sl hms))) ?_
 refine Run.p (.bool (!(mskOk n ms ms.length))) rfl rfl ?_
 refine Run.done ?_
 refine Run.cond (b := !(mskOk n ms ms.length)) rfl (fun h9 => ?_) (fun h9 => ?_)
 ·have p9 := h9; try simp only [bs] at p9
  have hbad : mskOk n ms ms.length = false := by simpa using h9
  refine Run.sr ?_
  refine Run.y (.agg #[.int .i64 0, .slice none 0 0]) rfl (OpY.build (cs := [.int .i64 0, .slice none 0 0]) (by kernel_rfl)) ?_
  refine Run.step rfl (OpStep.storeAll (us := [.int .i64 0, .slice none 0 0]) Tsize_38 rfl rfl rfl (.here _) rfl ?_)
  refine Run.p (.bool false) rfl rfl ?_
  refine Run.done ?_
  refine Run.ret ?_
  refine ⟨.tuple #[.agg #[.int .i64 0, .slice none 0 0], .bool false], [.own (.slice none 0 0) 71 3 0 ([])], Out.cell2 (cs := [.int .i64 0, .slice none 0 0]) rfl Tagg_38 rfl (Cells.blk (.head _) ⟨rfl, rfl, trivial⟩) rfl, ((Weak.nilOwn 71 3).trans (Some'.weak (.take (.nil _)))), ?_⟩
  exact ⟨_, by rw [(gn_bad hbad).2, hbad], by rw [(gn_bad hbad).1]; rfl⟩
 ·have p9 := h9; try simp only [bs] at p9
  have hgood : mskOk n ms ms.length = true := by simpa using h9
  have hk := gn_ok hgood
  refine Run.skip ?_
  refine Run.sr ?_
  refine Run.p (.int .i64 (((n : Nat) : Int))) rfl rfl ?_
  refine Run.p (.int .i64 (((n : Nat) : Int))) rfl rfl ?_
  refine Run.p (vm) rfl rfl ?_
  refine Run.step rfl (OpStep.call (vs := [.int .i64 (((n : Nat) : Int)), vm]) (caps := []) Tcall_82 rfl rfl (fun w hs => (by have h := gray_spec (n := n) (ms := nats ms) hk.n5 hk.bd (by rw [hk.len]; have := hk.l32; omega) (by rw [hk.len, hk.nn]; exact hs.sl hms); rw [← hk.gG] at h; exact h)) ?_)
  rintro ug _ rfl
  show Run _ _ (putF _ _ _ ug) [.own ug 71 3 ((gnG n ms).length) (ints (flCX (gnG n ms))), .blk b1 38 [.int .i64 0, .slice none 0 0]]
  refine Run.step rfl (OpStep.call (vs := [.int .i64 (((n : Nat) : Int)), ug]) (caps := []) Tcall_52 rfl rfl (fun w hs => circuitIf_spec (N := (n : Int)) (by have := hk.gl; omega) (circ_cx ⟨hk.n1, hk.n5⟩ hk.wok (by have := hk.gl; omega)) (hs.slOwn (.head _))) ?_)
  rintro _ _ ⟨uc, rfl, rfl⟩
  show Run _ _ (putF _ _ _ (.tuple #[.agg #[.int .i64 (((n : Nat) : Int)), uc], .bool true])) [.own uc 71 3 ((gnG n ms).length) (ints (flCX (gnG n ms))), .own ug 71 3 ((gnG n ms).length) (ints (flCX (gnG n ms))), .blk b1 38 [.int .i64 0, .slice none 0 0]]
  refine Run.p (.agg #[.int .i64 (((n : Nat) : Int)), uc]) rfl rfl ?_
  refine Run.p (.bool true) rfl rfl ?_
  refine Run.formOwn (.head _) (fun A_uc1 c_uc1 hv hcapc_uc1 hmaxc_uc1 => ?_) (fun _ _ _ => ⟨nofun, nofun, nofun⟩)
  subst hv
  refine Run.step rfl (OpStep.storeAll (us := [.int .i64 (((n : Nat) : Int)), .slice A_uc1 ((gnG n ms).length) c_uc1]) Tsize_38 rfl rfl rfl (.there _ (.there _ (.here _))) rfl ?_)
  refine Run.p (.bool true) rfl rfl ?_
  refine Run.done ?_
  refine Run.ret ?_
  refine ⟨.tuple #[.agg #[.int .i64 (((n : Nat) : Int)), .slice A_uc1 ((gnG n ms).length) c_uc1], .bool true], [.own (.slice A_uc1 ((gnG n ms).length) c_uc1) 71 3 ((gnG n ms).length) (ints (flCX (gnG n ms)))], Out.cell2 (cs := [.int .i64 (((n : Nat) : Int)), .slice A_uc1 ((gnG n ms).length) c_uc1]) rfl Tagg_38 rfl (Cells.blk (.tail _ (.tail _ (List.Mem.head _))) ⟨rfl, rfl, trivial⟩) rfl, (Some'.weak (.take (.nil _))), ?_⟩
  exact ⟨_, by rw [hk.gN, hgood], rfl⟩

set_option maxHeartbeats 1000000 in
set_option maxRecDepth 20000 in
theorem sGrayNetwork_spec {vm : Value} {n : Nat} {ms : List Int} {w : World} (hms : Sl w vm 1 ms.length (ints ms)) : Calls Try.prog 42 #[.int .i64 (n : Int), vm] w (Post No w fun v H => ∃ u, v = .tuple #[.agg #[.int .i64 (gnN n ms), u], .bool (mskOk n ms ms.length)] ∧ H = [.own u 71 3 (gnG n ms).length (ints (flCX (gnG n ms)))]) := by
 refine enter (n := 14) (args := [.int .i64 (((n : Nat) : Int)), vm]) Try.func42 rfl rfl (St.empty _ _) ?_
 refine Run.sr ?_
 refine Run.step rfl (OpStep.alloc (zs := [.int .i64 0, .slice none 0 0]) Tzero_38 fun b1 => ?_)
 refine Run.p (.bool false) rfl rfl ?_
 refine Run.done ?_
 refine Run.seq ?_
 refine Run.sr ?_
 refine Run.p (.int .i64 (((n : Nat) : Int))) rfl rfl ?_
 refine Run.p (vm) rfl rfl ?_
 refine Run.q (v := .bool (mskOk n ms ms.length)) rfl (OpQ.call (vs := [.int .i64 (((n : Nat) : Int)), vm]) (caps := []) Tcall_83 rfl rfl (fun w hs => l14Masks_spec (hs.sl hms))) ?_
 refine Run.p (.bool (!(mskOk n ms ms.length))) rfl rfl ?_
 refine Run.done ?_
 refine Run.cond (b := !(mskOk n ms ms.length)) rfl (fun h9 => ?_) (fun h9 => ?_)
 ·have p9 := h9; try simp only [bs] at p9
  have hbad : mskOk n ms ms.length = false := by simpa using h9
  refine Run.sr ?_
  refine Run.y (.agg #[.int .i64 0, .slice none 0 0]) rfl (OpY.build (cs := [.int .i64 0, .slice none 0 0]) (by kernel_rfl)) ?_
  refine Run.step rfl (OpStep.storeAll (us := [.int .i64 0, .slice none 0 0]) Tsize_38 rfl rfl rfl (.here _) rfl ?_)
  refine Run.p (.bool false) rfl rfl ?_
  refine Run.done ?_
  refine Run.ret ?_
  refine ⟨.tuple #[.agg #[.int .i64 0, .slice none 0 0], .bool false], [.own (.slice none 0 0) 71 3 0 ([])], Out.cell2 (cs := [.int .i64 0, .slice none 0 0]) rfl Tagg_38 rfl (Cells.blk (.head _) ⟨rfl, rfl, trivial⟩) rfl, ((Weak.nilOwn 71 3).trans (Some'.weak (.take (.nil _)))), ?_⟩
  exact ⟨_, by rw [(gn_bad hbad).2, hbad], by rw [(gn_bad hbad).1]; rfl⟩
 ·have p9 := h9; try simp only [bs] at p9
  have hgood : mskOk n ms ms.length = true := by simpa using h9
  have hk := gn_ok hgood
  refine Run.skip ?_
  refine Run.sr ?_
  refine Run.p (.int .i64 (((n : Nat) : Int))) rfl rfl ?_
  refine Run.p (vm) rfl rfl ?_
  refine Run.step rfl (OpStep.call (vs := [.int .i64 (((n : Nat) : Int)), vm]) (caps := []) Tcall_84 rfl rfl (fun w hs => (by have h := l14Gray_spec (n := n) (ms := nats ms) hk.n5 hk.bd (by rw [hk.len]; have := hk.l32; omega) (by rw [hk.len, hk.nn]; exact hs.sl hms); rw [← hk.gG] at h; exact h)) ?_)
  rintro _ _ ⟨ug, rfl, rfl⟩
  show Run _ _ (putF _ _ _ (.agg #[.int .i64 (((n : Nat) : Int)), ug])) [.own ug 71 3 ((gnG n ms).length) (ints (flCX (gnG n ms))), .blk b1 38 [.int .i64 0, .slice none 0 0]]
  refine Run.formOwn (.head _) (fun A_ug1 c_ug1 hv hcapc_ug1 hmaxc_ug1 => ?_) (fun _ _ _ => ⟨nofun, nofun, nofun⟩)
  subst hv
  refine Run.step rfl (OpStep.storeAll (us := [.int .i64 (((n : Nat) : Int)), .slice A_ug1 ((gnG n ms).length) c_ug1]) Tsize_38 rfl rfl rfl (.there _ (.here _)) rfl ?_)
  refine Run.p (.bool true) rfl rfl ?_
  refine Run.done ?_
  refine Run.ret ?_
  refine ⟨.tuple #[.agg #[.int .i64 (((n : Nat) : Int)), .slice A_ug1 ((gnG n ms).length) c_ug1], .bool true], [.own (.slice A_ug1 ((gnG n ms).length) c_ug1) 71 3 ((gnG n ms).length) (ints (flCX (gnG n ms)))], Out.cell2 (cs := [.int .i64 (((n : Nat) : Int)), .slice A_ug1 ((gnG n ms).length) c_ug1]) rfl Tagg_38 rfl (Cells.blk (.tail _ (List.Mem.head _)) ⟨rfl, rfl, trivial⟩) rfl, (Some'.weak (.take (.nil _))), ?_⟩
  exact ⟨_, by rw [hk.gN, hgood], rfl⟩

end Go.Proofs.Yteehfidjofcfmaa
/- Plain laws: a shortest network is not longer than any network. -/
set_option linter.unusedSimpArgs false
set_option linter.unusedVariables false
namespace Go.Proofs.Yteehfidjofcfmaa
open Go Go.RowKit
theorem dcw_take (n : Nat) (u : List Nat) (k : Nat) : dcw n (u.take k) = (dcw n u).take k := by simp [dcw, List.map_take]
/-- A word whose rows show all masks leads to all of them. -/
theorem seen_all {n : Nat} {ms : List Int} {u : List Nat} (hk : mskOk n ms ms.length = true) (hu : BW (lok n) (n * n) u) (ha : ∀ i, i < ms.length → App n (dcw n u) (ix ms i).toNat) : (bev (lstep n ms) (idL n, apF ms n) u).2 = 2 ^ ms.length - 1 := by
  have hall := bev_keep hk u (idL n, apF ms n) (mK_id n ms) (noted_id hk)
  refine Nat.eq_of_testBit_eq fun i => ?_
  rw [Nat.testBit_two_pow_sub_one]
  by_cases hi : i < ms.length
  · rw [decide_eq_true hi]
    obtain ⟨k, q, h1, h2, h3⟩ := ha i hi
    have hm := msk_at hk hi
    obtain ⟨c1, c2, _⟩ := bev_keep hk (u.take k) (idL n, apF ms n) (mK_id n ms) (noted_id hk)
    have hbit : (bev (lstep n ms) (idL n, apF ms n) (u.take k)).2.testBit i = true := by
      refine c2 i hi ⟨q, by rw [c1.1]; exact h2, ?_⟩
      rw [bev_fst]
      simp only
      rw [dcw_take, h3]; omega
    obtain ⟨_, _, c3⟩ := bev_keep hk (u.drop k) _ c1 c2
    have h4 := c3 i hi hbit
    rw [← bev_app, List.take_append_drop] at h4
    exact h4
  · rw [decide_eq_false hi]
    exact Nat.testBit_lt_two_pow (Nat.lt_of_lt_of_le hall.1.2.2 (Nat.pow_le_pow_right (by omega) (by omega)))
theorem gray_short {n : Nat} {xs ms : List Int} {w : List (Nat × Nat)} (hl : xs.length = n) (h : nwB n xs ms = true) (hw : WOk n w) (hm : cxs (idL n) w = nats xs) (ha : ∀ i, i < ms.length → App n w (ix ms i).toNat) : (nwG n xs ms).length ≤ w.length := by
  obtain ⟨h3, h1n, hnl, hml, hmb, hmi, hmk, hm7, hfd, hone, hlen, hbw⟩ := nw_ok hl h
  obtain ⟨u, u1, u2, u3⟩ := word_of hw
  have u3 : dcw n u = w := u3
  have hb : bev (lstep n ms) (idL n, apF ms n) u = (nats xs, 2 ^ ms.length - 1) := by
    refine Prod.ext ?_ (seen_all hmk u1 (by rw [u3]; exact ha))
    rw [bev_fst]
    simp only
    rw [u3, hm]
  obtain ⟨B, hB⟩ : ∃ B : Nat, B = 1000000 := ⟨_, rfl⟩
  obtain ⟨y, hy, h5, h6⟩ := bfs_min (step := lstep n ms) (ok := lok n) (E := n * n) (s := (idL n, apF ms n)) (i := B) (by rw [hB]; exact mQ_small h3 hm7 _) u u1
  rw [hb] at h5
  have h7 : y.2 = nwG n xs ms := hone B y.2 (by rw [← h5]; exact hy)
  have h8 := sle_len h6
  rw [h7] at h8
  omega

end Go.Proofs.Yteehfidjofcfmaa
/- Walks: drawn linear maps and circuits. -/
set_option linter.unusedSimpArgs false
set_option linter.unusedVariables false
namespace Go.Proofs.Yteehfidjofcfmaa
open Go Go.RowKit
namespace DlmT
theorem Tagg_28 : aggOf Try.prog 28 = some 1 := by kernel_rfl
theorem Tcall_64 : callable Try.prog 64 = true := by kernel_rfl
theorem Tcall_65 : callable Try.prog 65 = true := by kernel_rfl
theorem Tcall_70 : callable Try.prog 70 = true := by kernel_rfl
theorem Tcall_71 : callable Try.prog 71 = true := by kernel_rfl
theorem Tcall_85 : callable Try.prog 85 = true := by kernel_rfl
theorem Tcall_86 : callable Try.prog 86 = true := by kernel_rfl
theorem Tfo_28_0 : fieldOff Try.prog 28 0 = some 0 := by kernel_rfl
theorem Tone_22 : oneOf Try.prog 22 = true := by kernel_rfl
theorem Tsize_22 : (Try.prog.info? 22).map (·.size) = some 1 := by kernel_rfl
theorem Tsize_28 : (Try.prog.info? 28).map (·.size) = some 1 := by kernel_rfl
theorem Tsize_3 : (Try.prog.info? 3).map (·.size) = some 1 := by kernel_rfl
theorem Tsl_22 : sliceOf Try.prog 22 = some (3, 1, 8, [.int .i64 0]) := by kernel_rfl
theorem Tzero_28 : zeroOf Try.prog 28 = some [.slice none 0 0] := by kernel_rfl
end DlmT
open DlmT
theorem OpY.sliceLE {E : Env} {f : Fr} {H : List Res} {d : Option Tmp} {ty : TypeId} {pos : String} {after : Array Edge} {gd : Option (Nat × Bool)} {t : TypeId} {x y : Operand} {A A' : Option Addr} {n c l : Nat} {k : IntKind} {i : Int} {e : TypeId} {size : Nat} {z : Nat × List Value} (ht : sliceOf E.P t = some (e, size, z)) (hx : f.eval x = .slice A n c) (hy : f.eval y = .int k i) (hi : i = (l : Int)) (h1 : l ≤ n)
    (hA : (if c = l then A else A.map (·.add (l * size))) = A') : OpY E ⟨d, .slice t x (some y) none none, ty, pos, after, gd⟩ f H (.slice A' (n - l) (c - l)) := by
  subst hi; subst hA
  exact OpY.sliceL (E := E) (f := f) (H := H) (d := d) (ty := ty) (pos := pos) (after := after) (gd := gd) ht hx hy (by omega) (by omega)
theorem tail_read {g n c : Nat} {e : TypeId} {xs : List Int} {A' : Option Addr} {w : World} (hn : 1 ≤ n) (hA : (if c = 1 then some (⟨g, 0, none⟩ : Addr) else (some (⟨g, 0, none⟩ : Addr)).map (·.add (1 * 1))) = A') (h : (Res.own (.slice (some ⟨g, 0, none⟩) n c) e 1 n (ints xs)).holds w) : Sl w (.slice A' (n - 1) (c - 1)) 1 (n - 1) (ints (xs.drop 1)) := by
  have hs : Sl w (.slice (some ⟨g, 0, none⟩) n c) 1 n (ints xs) := (St.start1 h).slOwn (.head _)
  have hl := hs.len
  obtain ⟨h0, A, c', hv, h1, h2, h3⟩ := hs
  injection hv with hA2 _ hc
  subst hc
  refine ⟨by simp [ints]; omega, _, _, rfl, by omega, by omega, fun hn2 => ?_⟩
  obtain ⟨b', o', hA', hb, hrg⟩ := h3 (by omega)
  rw [← hA2] at hA'
  injection hA' with hA'; injection hA' with e1 e2
  subst e1; subst e2
  rw [if_neg (by omega)] at hA
  refine ⟨g, 1, by rw [← hA]; rfl, hb, fun j v hv => ?_⟩
  have h4 : (ints xs)[1 + j]? = some v := by
    rw [← hv, ints, ints, List.map_drop, List.getElem?_drop]
  have := hrg (1 + j) v h4
  rwa [Nat.zero_add] at this
theorem own_read {e : TypeId} {n : Nat} {v : Value} {xs : List Int} {w : World} (h : (Res.own v e 1 n (ints xs)).holds w) : Sl w v 1 n (ints xs) := (St.start1 h).slOwn (.head _)

set_option maxHeartbeats 1000000 in
set_option maxRecDepth 20000 in
theorem linear_spec {N : Nat} {bc n : Nat} {vc : Value} {cs : List Int} {s : Nat × Int} {w : World} (hN : 1 ≤ N ∧ N ≤ 5) (hat : s.1 < 2305843009213000000) (hc : Cur w bc vc n cs) (hst : St (Of [.blk bc 84 [vc, .int .i64 (((s.1 : Nat) : Int)), .int .u64 (s.2)]]) w w [.blk bc 84 [vc, .int .i64 (((s.1 : Nat) : Int)), .int .u64 (s.2)]]) : Calls Try.prog 86 #[.pointer (some ⟨bc, 0, none⟩), .int .i64 (N : Nat)] w (Post (Of [.blk bc 84 [vc, .int .i64 (((s.1 : Nat) : Int)), .int .u64 (s.2)]]) w fun v H => ∃ (u : Value) (l : List Nat) (s1 : Nat × Int), (l.length = N ∧ (∀ i, nx l i < 32) ∧ s1.1 ≤ s.1 + 100) ∧ v = .agg #[u] ∧ H = [.own u 3 1 N (ints (nl l)), .blk bc 84 [vc, .int .i64 (s1.1 : Nat), .int .u64 s1.2]]) := by
 refine enter (n := 36) (args := [.pointer (some ⟨bc, 0, none⟩), .int .i64 (((N : Nat) : Int))]) Try.func86 rfl rfl (hst) ?_
 refine Run.sr ?_
 refine Run.step rfl (OpStep.alloc (zs := [.slice none 0 0]) Tzero_28 fun b1 => ?_)
 refine Run.dsr ?_
 refine Run.p (.int .i64 (((N : Nat) : Int))) rfl rfl ?_
 refine Run.step rfl (OpStep.call (vs := [.int .i64 (((N : Nat) : Int))]) (caps := []) Tcall_70 rfl rfl (fun w hs => l12Identity_spec hN.2 w) ?_)
 rintro _ _ ⟨ui, rfl, rfl⟩
 show Run _ _ (putF _ _ _ (.agg #[ui])) [.own ui 3 1 N (ints (nl (idL N))), .blk b1 28 [.slice none 0 0], .blk bc 84 [vc, .int .i64 (((s.1 : Nat) : Int)), .int .u64 (s.2)]]
 refine Run.step rfl (OpStep.alloc (zs := [.slice none 0 0]) Tzero_28 fun b2 => ?_)
 refine Run.formOwn (.tail _ (List.Mem.head _)) (fun A_ui1 c_ui1 hv hcapc_ui1 hmaxc_ui1 => ?_) (fun _ _ _ => ⟨nofun, nofun, nofun⟩)
 subst hv
 refine Run.step rfl (OpStep.storeAll (us := [.slice A_ui1 N c_ui1]) Tsize_28 rfl rfl rfl (.here _) rfl ?_)
 refine Run.done ?_
 refine Run.seq ?_
 refine Run.sr ?_
 refine Run.p (.pointer (some ⟨bc, 0, none⟩)) rfl rfl ?_
 refine Run.step rfl (OpStep.callM (H1 := [.blk bc 84 [vc, .int .i64 (((s.1 : Nat) : Int)), .int .u64 (s.2)]]) (H2 := [.blk b2 28 [.slice A_ui1 N c_ui1], .own (.slice A_ui1 N c_ui1) 3 1 N (ints (nl (idL N))), .blk b1 28 [.slice none 0 0]]) (vs := [.pointer (some ⟨bc, 0, none⟩), .int .i64 8]) (caps := []) Tcall_64 rfl rfl (Weak.selF [3]) (fun w hs => pick_ex (by omega) (hc.go hs) (hs.sub (List.sublist_append_left _ _)).self) ?_)
 rintro _ _ ⟨x1, s1, hx1, hs1, rfl, rfl⟩
 show Run _ _ (putF _ _ _ (.int .i64 x1)) [.blk bc 84 [vc, .int .i64 (((s1.1 : Nat) : Int)), .int .u64 (s1.2)], .blk b2 28 [.slice A_ui1 N c_ui1], .own (.slice A_ui1 N c_ui1) 3 1 N (ints (nl (idL N))), .blk b1 28 [.slice none 0 0]]
 refine Run.p (.int .i64 x1) rfl rfl ?_
 refine Run.done ?_
 obtain ⟨i0, hi0⟩ : ∃ i0 : Nat, x1 = ((i0 : Nat) : Int) := ⟨(x1).toNat, by omega⟩
 rw [hi0]
 refine Run.block ?_
 refine Run.loop (ι := Nat × (Nat × Int) × List Nat × Value) [6, 7, 12, 13, 14, 15, 16, 17, 18, 19, 20, 21, 22, 23, 24, 25, 26, 27, 28, 29, 30, 31, 32, 33, 34] (fun ⟨i, sc, l, vr⟩ => [(6, .int .i64 (((i : Nat) : Int)))]) (fun ⟨i, sc, l, vr⟩ => [.own vr 3 1 N (ints (nl l)), .blk b2 28 [vr], .blk b1 28 [.slice none 0 0], .blk bc 84 [vc, .int .i64 (((sc.1 : Nat) : Int)), .int .u64 (sc.2)]]) (fun ⟨i, sc, l, vr⟩ => i ≤ 8 ∧ sc.1 + 8 * i ≤ s.1 + 70 ∧ l.length = N ∧ ∀ j, nx l j < 32) (fun ⟨i, sc, l, vr⟩ => i) (i0, s1, idL N, .slice A_ui1 N c_ui1) ?_ ?_ ?_ ?_
 ·exact ⟨by omega, by omega, by simp, lt32 hN.2 (idL_lt N)⟩
 ·exact ⟨rfl, trivial⟩
 ·exact ((Weak.selF [2, 1, 1, 0]).trans (Some'.weak (.takeEq (by first | rfl | simp) (.takeEq (by first | rfl | simp) (.take (.takeEq (by first | rfl | simp) (.nil _)))))))
 ·rintro ⟨i, sc, l, vr⟩ fr hinv
  show Run _ _ (over _ _ [(6, .int .i64 (((i : Nat) : Int)))] fr) [.own vr 3 1 N (ints (nl l)), .blk b2 28 [vr], .blk b1 28 [.slice none 0 0], .blk bc 84 [vc, .int .i64 (((sc.1 : Nat) : Int)), .int .u64 (sc.2)]]
  try dsimp only at hinv
  obtain ⟨hi8, hsc8, hll, hl32⟩ := hinv
  refine Run.seq ?_
  refine Run.sr ?_
  refine Run.p (.int .i64 (((i : Nat) : Int))) rfl rfl ?_
  refine Run.p (.bool (decide ((((i : Nat) : Int)) > 0))) rfl rfl ?_
  rcases Bool.eq_false_or_eq_true (decide ((((i : Nat) : Int)) > 0)) with h14 | h14
  ·refine Run.q (v := .bool true) rfl (OpQ.y (OpY.moveB rfl h14)) ?_
   have p14 := h14; try simp only [bs] at p14
   refine Run.p (.int .i64 (((N : Nat) : Int))) rfl rfl ?_
   refine Run.p (.bool (decide ((((N : Nat) : Int)) > 1))) rfl rfl ?_
   refine Run.p (.bool (decide ((((N : Nat) : Int)) > 1))) rfl rfl ?_
   refine Run.done ?_
   refine Run.cond (b := decide ((((N : Nat) : Int)) > 1)) rfl (fun h17 => ?_) (fun h17 => ?_)
   ·have p17 := h17; try simp only [bs] at p17
    refine Run.skip ?_
    refine Run.seq ?_
    refine Run.block ?_
    refine Run.sr ?_
    refine Run.p (.pointer (some ⟨bc, 0, none⟩)) rfl rfl ?_
    refine Run.p (.int .i64 (((N : Nat) : Int))) rfl rfl ?_
    refine Run.step rfl (OpStep.callM (H1 := [.blk bc 84 [vc, .int .i64 (((sc.1 : Nat) : Int)), .int .u64 (sc.2)]]) (H2 := [.own vr 3 1 N (ints (nl l)), .blk b2 28 [vr], .blk b1 28 [.slice none 0 0]]) (vs := [.pointer (some ⟨bc, 0, none⟩), .int .i64 (((N : Nat) : Int))]) (caps := []) Tcall_64 rfl rfl (Weak.selF [3]) (fun w hs => pick_ex (by omega) (hc.go hs) (hs.sub (List.sublist_append_left _ _)).self) ?_)
    rintro _ _ ⟨x2, s2, hx2, hs2, rfl, rfl⟩
    show Run _ _ (putF _ _ _ (.int .i64 x2)) [.blk bc 84 [vc, .int .i64 (((s2.1 : Nat) : Int)), .int .u64 (s2.2)], .own vr 3 1 N (ints (nl l)), .blk b2 28 [vr], .blk b1 28 [.slice none 0 0]]
    refine Run.p (.int .i64 x2) rfl rfl ?_
    refine Run.done ?_
    refine Run.heldB (base := [.own vr 3 1 N (ints (nl l))]) (by kernel_rfl) ?_
    refine DW.take (i := 1) (v := .int .i64 x2) rfl (by kernel_rfl) (by kernel_rfl) (by kernel_rfl) (fun _ _ _ h => h) (Some'.weak (.skip (.take (.nil _)))) rfl (OpY.pure rfl) ?_
    refine DW.take (i := 2) (v := .int .i64 x2) rfl (by kernel_rfl) (by kernel_rfl) (by kernel_rfl) (fun _ _ _ h => h) (Some'.weak (.skip (.take (.nil _)))) rfl (OpY.pure rfl) ?_
    refine DW.take (i := 3) (v := .int .i64 (x2 + 1)) rfl (by kernel_rfl) (by kernel_rfl) (by kernel_rfl) (fun _ _ _ h => h) (Some'.weak (.skip (.take (.nil _)))) rfl (OpY.add rfl rfl rfl (by omega) (by omega)) ?_
    refine DW.take (i := 4) (v := .pointer (some ⟨bc, 0, none⟩)) rfl (by kernel_rfl) (by kernel_rfl) (by kernel_rfl) (fun _ _ _ h => h) (Some'.weak (.skip (.take (.nil _)))) rfl (OpY.pure rfl) ?_
    refine DW.take (i := 5) (v := .int .i64 (((N : Nat) : Int))) rfl (by kernel_rfl) (by kernel_rfl) (by kernel_rfl) (fun _ _ _ h => h) (Some'.weak (.skip (.take (.nil _)))) rfl (OpY.pure rfl) ?_
    refine DW.take (i := 6) (v := .int .i64 ((((N : Nat) : Int)) - 1)) rfl (by kernel_rfl) (by kernel_rfl) (by kernel_rfl) (fun _ _ _ h => h) (Some'.weak (.skip (.take (.nil _)))) rfl (OpY.sub rfl rfl rfl (by omega) (by omega)) ?_
    refine DW.take (i := 9) (v := .int .i64 (((N : Nat) : Int))) rfl (by kernel_rfl) (by kernel_rfl) (by kernel_rfl) (fun _ _ _ h => h) (Some'.weak (.skip (.take (.nil _)))) rfl (OpY.pure rfl) ?_
    refine DW.two (i := 0) (j := 7) (by kernel_rfl) rfl rfl rfl rfl ?_ ?_
    ·refine OpStep.q (v := .agg #[vr]) (OpQ.y (OpY.loadN (cs := [vr]) Tagg_28 rfl (Cells.blk (.tail _ (.tail _ (List.Mem.head _))) ⟨rfl, trivial⟩))) ?_
     refine ⟨(Some'.weak (.skip (.take (.nil _)))), ?_⟩
     refine DW.step (i := 7) (by kernel_rfl) rfl rfl (OpStep.callM (H1 := [.blk bc 84 [vc, .int .i64 (((s2.1 : Nat) : Int)), .int .u64 (s2.2)]]) (H2 := [.own vr 3 1 N (ints (nl l)), .blk b2 28 [vr], .blk b1 28 [.slice none 0 0]]) (vs := [.pointer (some ⟨bc, 0, none⟩), .int .i64 ((((N : Nat) : Int)) - 1)]) (caps := []) Tcall_64 rfl rfl (Weak.refl _) (fun w hs => pick_ex (by omega) (hc.go hs) (hs.sub (List.sublist_append_left _ _)).self) ?_)
     rintro _ _ ⟨x3, s3, hx3, hs3, rfl, rfl⟩
     refine ⟨(Some'.weak (.skip (.take (.nil _)))), ?_⟩
     refine DW.take (i := 8) (v := .int .i64 ((x2 + 1) + x3)) rfl (by kernel_rfl) (by kernel_rfl) (by kernel_rfl) (fun _ _ _ h => h) (Some'.weak (.skip (.take (.nil _)))) rfl (OpY.add rfl rfl rfl (by omega) (by omega)) ?_
     refine DW.take (i := 10) (v := .int .i64 (((x2 + 1) + x3) % (((N : Nat) : Int)))) rfl (by kernel_rfl) (by kernel_rfl) (by kernel_rfl) (fun _ _ _ h => h) (Some'.weak (.skip (.take (.nil _)))) rfl (OpY.rem rfl rfl (by omega) (by omega)) ?_
     have hem := Int.emod_nonneg (((x2 + 1) + x3)) (show ((N : Nat) : Int) ≠ 0 by omega)
     have hel := Int.emod_lt_of_pos (((x2 + 1) + x3)) (show (0 : Int) < ((N : Nat) : Int) by omega)
     refine DW.step (i := 11) (by kernel_rfl) rfl rfl (OpStep.call (vs := [.agg #[vr], .int .i64 x2, .int .i64 (((x2 + 1) + x3) % (((N : Nat) : Int)))]) (caps := []) Tcall_71 rfl rfl (fun w hs => l12CX_i hll (by omega) (by omega) ⟨hem, hel⟩ hl32 (hs.slOwn (.tail _ (List.Mem.head _)))) ?_)
     rintro _ _ ⟨ur1, rfl, rfl⟩
     refine ⟨(Some'.weak (.skip (.skip (.take (.nil _))))), ?_⟩
     refine DW.formOwn (.head _) (fun A_ur11 c_ur11 hv hcapc_ur11 hmaxc_ur11 => ?_)
     subst hv
     refine DW.step (i := 12) (by kernel_rfl) rfl rfl (OpStep.storeAll (us := [.slice A_ur11 N c_ur11]) Tsize_28 rfl rfl rfl (.there _ (.there _ (.there _ (.here _)))) rfl ?_)
     refine ⟨(Some'.weak (.skip (.skip (.take (.nil _))))), ?_⟩
     refine DW.done (by kernel_rfl) ?_
     refine Run.blockEnd ?_
     refine Run.region ?_
     refine Run.p (.int .i64 (((i : Nat) : Int))) rfl rfl ?_
     refine Run.y (.int .i64 ((((i : Nat) : Int)) - 1)) rfl (OpY.sub rfl rfl rfl (by omega) (by omega)) ?_
     refine Run.p (.int .i64 ((((i : Nat) : Int)) - 1)) rfl rfl ?_
     refine Run.done ?_
     refine Run.goal ⟨(by repeat (first | exact Same.refl _ _ | refine Same.put rfl ?_ | refine Same.over rfl rfl ?_)), (i - 1, s3, cx l ((x2).toNat, (((x2 + 1) + x3) % (((N : Nat) : Int))).toNat), .slice A_ur11 N c_ur11), ?_, ?_, ?_, ?_⟩
     ·exact ⟨by omega, by omega, by rw [cx_length]; exact hll, cx32 hl32 _⟩
     ·show i - 1 < i; omega
     ·exact ⟨(by show Value.int _ _ = Value.int _ _; congr 1; omega), trivial⟩
     ·exact ((Weak.selF [0, 2, 2, 0]).trans (Some'.weak (.takeEq (by first | rfl | simp) (.takeEq (by first | rfl | simp) (.take (.takeEq (by first | rfl | simp) (.nil _)))))))
    ·refine OpStep.callM (H1 := [.blk bc 84 [vc, .int .i64 (((s2.1 : Nat) : Int)), .int .u64 (s2.2)]]) (H2 := [.own vr 3 1 N (ints (nl l)), .blk b2 28 [vr], .blk b1 28 [.slice none 0 0]]) (vs := [.pointer (some ⟨bc, 0, none⟩), .int .i64 ((((N : Nat) : Int)) - 1)]) (caps := []) Tcall_64 rfl rfl (Weak.refl _) (fun w hs => pick_ex (by omega) (hc.go hs) (hs.sub (List.sublist_append_left _ _)).self) ?_
     rintro _ _ ⟨x4, s4, hx4, hs4, rfl, rfl⟩
     refine ⟨(Some'.weak (.skip (.take (.nil _)))), ?_⟩
     refine DW.take (i := 8) (v := .int .i64 ((x2 + 1) + x4)) rfl (by kernel_rfl) (by kernel_rfl) (by kernel_rfl) (fun _ _ _ h => h) (Some'.weak (.skip (.take (.nil _)))) rfl (OpY.add rfl rfl rfl (by omega) (by omega)) ?_
     refine DW.take (i := 10) (v := .int .i64 (((x2 + 1) + x4) % (((N : Nat) : Int)))) rfl (by kernel_rfl) (by kernel_rfl) (by kernel_rfl) (fun _ _ _ h => h) (Some'.weak (.skip (.take (.nil _)))) rfl (OpY.rem rfl rfl (by omega) (by omega)) ?_
     refine DW.step (i := 0) (by kernel_rfl) rfl rfl (OpStep.q (v := .agg #[vr]) (OpQ.y (OpY.loadN (cs := [vr]) Tagg_28 rfl (Cells.blk (.tail _ (.tail _ (List.Mem.head _))) ⟨rfl, trivial⟩))) ?_)
     refine ⟨(Some'.weak (.skip (.take (.nil _)))), ?_⟩
     have hem := Int.emod_nonneg (((x2 + 1) + x4)) (show ((N : Nat) : Int) ≠ 0 by omega)
     have hel := Int.emod_lt_of_pos (((x2 + 1) + x4)) (show (0 : Int) < ((N : Nat) : Int) by omega)
     refine DW.step (i := 11) (by kernel_rfl) rfl rfl (OpStep.call (vs := [.agg #[vr], .int .i64 x2, .int .i64 (((x2 + 1) + x4) % (((N : Nat) : Int)))]) (caps := []) Tcall_71 rfl rfl (fun w hs => l12CX_i hll (by omega) (by omega) ⟨hem, hel⟩ hl32 (hs.slOwn (.tail _ (List.Mem.head _)))) ?_)
     rintro _ _ ⟨ur2, rfl, rfl⟩
     refine ⟨(Some'.weak (.skip (.skip (.take (.nil _))))), ?_⟩
     refine DW.formOwn (.head _) (fun A_ur21 c_ur21 hv hcapc_ur21 hmaxc_ur21 => ?_)
     subst hv
     refine DW.step (i := 12) (by kernel_rfl) rfl rfl (OpStep.storeAll (us := [.slice A_ur21 N c_ur21]) Tsize_28 rfl rfl rfl (.there _ (.there _ (.there _ (.here _)))) rfl ?_)
     refine ⟨(Some'.weak (.skip (.skip (.take (.nil _))))), ?_⟩
     refine DW.done (by kernel_rfl) ?_
     refine Run.blockEnd ?_
     refine Run.region ?_
     refine Run.p (.int .i64 (((i : Nat) : Int))) rfl rfl ?_
     refine Run.y (.int .i64 ((((i : Nat) : Int)) - 1)) rfl (OpY.sub rfl rfl rfl (by omega) (by omega)) ?_
     refine Run.p (.int .i64 ((((i : Nat) : Int)) - 1)) rfl rfl ?_
     refine Run.done ?_
     refine Run.goal ⟨(by repeat (first | exact Same.refl _ _ | refine Same.put rfl ?_ | refine Same.over rfl rfl ?_)), (i - 1, s4, cx l ((x2).toNat, (((x2 + 1) + x4) % (((N : Nat) : Int))).toNat), .slice A_ur21 N c_ur21), ?_, ?_, ?_, ?_⟩
     ·exact ⟨by omega, by omega, by rw [cx_length]; exact hll, cx32 hl32 _⟩
     ·show i - 1 < i; omega
     ·exact ⟨(by show Value.int _ _ = Value.int _ _; congr 1; omega), trivial⟩
     ·exact ((Weak.selF [0, 2, 2, 0]).trans (Some'.weak (.takeEq (by first | rfl | simp) (.takeEq (by first | rfl | simp) (.take (.takeEq (by first | rfl | simp) (.nil _)))))))
   ·have p17 := h17; try simp only [bs] at p17
    refine Run.exit rfl ?_
    refine Run.sr ?_
    refine Run.y (.agg #[vr]) rfl (OpY.loadN (cs := [vr]) Tagg_28 rfl (Cells.blk (.tail _ (List.Mem.head _)) ⟨rfl, trivial⟩)) ?_
    refine Run.formOwn (.head _) (fun A_vr1 c_vr1 hv hcapc_vr1 hmaxc_vr1 => ?_) (fun _ _ _ => ⟨nofun, nofun, nofun⟩)
    subst hv
    refine Run.step rfl (OpStep.storeAll (us := [.slice A_vr1 N c_vr1]) Tsize_28 rfl rfl rfl (.there _ (.there _ (.here _))) rfl ?_)
    refine Run.done ?_
    refine Run.ret ?_
    refine ⟨.agg #[.slice A_vr1 N c_vr1], [.own (.slice A_vr1 N c_vr1) 3 1 N (ints (nl l)), .blk bc 84 [vc, .int .i64 (((sc.1 : Nat) : Int)), .int .u64 (sc.2)]], Out.cell1 (cs := [.slice A_vr1 N c_vr1]) rfl Tagg_28 rfl (Cells.blk (.tail _ (.tail _ (List.Mem.head _))) ⟨rfl, trivial⟩), (Some'.weak (.take (.skip (.skip (.take (.nil _)))))), ?_⟩
    exact ⟨_, l, sc, ⟨hll, hl32, by omega⟩, rfl, rfl⟩
  ·refine Run.q (v := .bool false) rfl (OpQ.y (OpY.moveB rfl h14)) ?_
   have p14 := h14; try simp only [bs] at p14
   refine Run.pass rfl ?_
   refine Run.pass rfl ?_
   refine Run.p (.bool false) rfl rfl ?_
   refine Run.done ?_
   refine Run.cond (b := false) rfl (fun h => nomatch h) (fun _ => ?_)
   refine Run.exit rfl ?_
   refine Run.sr ?_
   refine Run.y (.agg #[vr]) rfl (OpY.loadN (cs := [vr]) Tagg_28 rfl (Cells.blk (.tail _ (List.Mem.head _)) ⟨rfl, trivial⟩)) ?_
   refine Run.formOwn (.head _) (fun A_vr2 c_vr2 hv hcapc_vr2 hmaxc_vr2 => ?_) (fun _ _ _ => ⟨nofun, nofun, nofun⟩)
   subst hv
   refine Run.step rfl (OpStep.storeAll (us := [.slice A_vr2 N c_vr2]) Tsize_28 rfl rfl rfl (.there _ (.there _ (.here _))) rfl ?_)
   refine Run.done ?_
   refine Run.ret ?_
   refine ⟨.agg #[.slice A_vr2 N c_vr2], [.own (.slice A_vr2 N c_vr2) 3 1 N (ints (nl l)), .blk bc 84 [vc, .int .i64 (((sc.1 : Nat) : Int)), .int .u64 (sc.2)]], Out.cell1 (cs := [.slice A_vr2 N c_vr2]) rfl Tagg_28 rfl (Cells.blk (.tail _ (.tail _ (List.Mem.head _))) ⟨rfl, trivial⟩), (Some'.weak (.take (.skip (.skip (.take (.nil _)))))), ?_⟩
   exact ⟨_, l, sc, ⟨hll, hl32, by omega⟩, rfl, rfl⟩

set_option maxHeartbeats 1000000 in
set_option maxRecDepth 20000 in
theorem anyLinear_spec {bc n : Nat} {vc : Value} {cs : List Int} {s : Nat × Int} {w : World} (hat : s.1 < 2305843009212000000) (hc : Cur w bc vc n cs) (hst : St (Of [.blk bc 84 [vc, .int .i64 (((s.1 : Nat) : Int)), .int .u64 (s.2)]]) w w [.blk bc 84 [vc, .int .i64 (((s.1 : Nat) : Int)), .int .u64 (s.2)]]) : Calls Try.prog 85 #[.pointer (some ⟨bc, 0, none⟩)] w (Post (Of [.blk bc 84 [vc, .int .i64 (((s.1 : Nat) : Int)), .int .u64 (s.2)]]) w fun v H => ∃ (Au : Option Addr) (cu : Nat) (vb : Value) (n0 n1 : Nat) (x0 x1 : List Int) (s1 : Nat × Int), (n1 ≤ 6 ∧ x1.length = n1 ∧ s1.1 ≤ s.1 + 200 ∧ (∀ w', (Res.own vb 3 1 n0 (ints x0)).holds w' → Sl w' (.slice Au n1 cu) 1 n1 (ints x1))) ∧ v = .agg #[.slice Au n1 cu] ∧ H = [.own vb 3 1 n0 (ints x0), .blk bc 84 [vc, .int .i64 (s1.1 : Nat), .int .u64 s1.2]]) := by
 refine enter (n := 35) (args := [.pointer (some ⟨bc, 0, none⟩)]) Try.func85 rfl rfl (hst) ?_
 refine Run.sr ?_
 refine Run.step rfl (OpStep.alloc (zs := [.slice none 0 0]) Tzero_28 fun b1 => ?_)
 refine Run.dsr ?_
 refine Run.p (.pointer (some ⟨bc, 0, none⟩)) rfl rfl ?_
 refine Run.p (.pointer (some ⟨bc, 0, none⟩)) rfl rfl ?_
 refine Run.step rfl (OpStep.callM (H1 := [.blk bc 84 [vc, .int .i64 (((s.1 : Nat) : Int)), .int .u64 (s.2)]]) (H2 := [.blk b1 28 [.slice none 0 0]]) (vs := [.pointer (some ⟨bc, 0, none⟩), .int .i64 5]) (caps := []) Tcall_64 rfl rfl (Weak.selF [1]) (fun w hs => pick_ex (by omega) (hc.go hs) (hs.sub (List.sublist_append_left _ _)).self) ?_)
 rintro _ _ ⟨x1, s1, hx1, hs1, rfl, rfl⟩
 show Run _ _ (putF _ _ _ (.int .i64 x1)) [.blk bc 84 [vc, .int .i64 (((s1.1 : Nat) : Int)), .int .u64 (s1.2)], .blk b1 28 [.slice none 0 0]]
 refine Run.y (.int .i64 (1 + x1)) rfl (OpY.add rfl rfl rfl (by omega) (by omega)) ?_
 obtain ⟨N0, hN0⟩ : ∃ N0 : Nat, 1 + x1 = ((N0 : Nat) : Int) := ⟨(1 + x1).toNat, by omega⟩
 rw [hN0]
 refine Run.step rfl (OpStep.callM (H1 := [.blk bc 84 [vc, .int .i64 (((s1.1 : Nat) : Int)), .int .u64 (s1.2)]]) (H2 := [.blk b1 28 [.slice none 0 0]]) (vs := [.pointer (some ⟨bc, 0, none⟩), .int .i64 (((N0 : Nat) : Int))]) (caps := []) Tcall_86 rfl rfl (Weak.refl _) (fun w hs => linear_spec (by omega) (by omega) (hc.go hs) (hs.sub (List.sublist_append_left _ _)).self) ?_)
 rintro _ _ ⟨u0, l, sl, ⟨hll, hl32, hsl⟩, rfl, rfl⟩
 show Run _ _ (putF _ _ _ (.agg #[u0])) [.own u0 3 1 N0 (ints (nl l)), .blk bc 84 [vc, .int .i64 (((sl.1 : Nat) : Int)), .int .u64 (sl.2)], .blk b1 28 [.slice none 0 0]]
 have hnl := nl_length l
 refine Run.step rfl (OpStep.alloc (zs := [.slice none 0 0]) Tzero_28 fun b2 => ?_)
 refine Run.formOwn (.tail _ (List.Mem.head _)) (fun A_u01 c_u01 hv hcapc_u01 hmaxc_u01 => ?_) (fun _ _ _ => ⟨nofun, nofun, nofun⟩)
 subst hv
 refine Run.step rfl (OpStep.storeAll (us := [.slice A_u01 N0 c_u01]) Tsize_28 rfl rfl rfl (.here _) rfl ?_)
 refine Run.done ?_
 refine Run.seq ?_
 refine Run.sr ?_
 refine Run.p (.pointer (some ⟨bc, 0, none⟩)) rfl rfl ?_
 refine Run.step rfl (OpStep.callM (H1 := [.blk bc 84 [vc, .int .i64 (((sl.1 : Nat) : Int)), .int .u64 (sl.2)]]) (H2 := [.blk b2 28 [.slice A_u01 N0 c_u01], .own (.slice A_u01 N0 c_u01) 3 1 N0 (ints (nl l)), .blk b1 28 [.slice none 0 0]]) (vs := [.pointer (some ⟨bc, 0, none⟩), .int .i64 12]) (caps := []) Tcall_64 rfl rfl (Weak.selF [2]) (fun w hs => pick_ex (by omega) (hc.go hs) (hs.sub (List.sublist_append_left _ _)).self) ?_)
 rintro _ _ ⟨x2, s2, hx2, hs2, rfl, rfl⟩
 show Run _ _ (putF _ _ _ (.int .i64 x2)) [.blk bc 84 [vc, .int .i64 (((s2.1 : Nat) : Int)), .int .u64 (s2.2)], .blk b2 28 [.slice A_u01 N0 c_u01], .own (.slice A_u01 N0 c_u01) 3 1 N0 (ints (nl l)), .blk b1 28 [.slice none 0 0]]
 refine Run.done ?_
 refine Run.block ?_
 refine Run.sr ?_
 refine Run.p (.bool (x2 == 0)) rfl rfl ?_
 refine Run.p (.bool (x2 == 0)) rfl rfl ?_
 refine Run.done ?_
 refine Run.cond (b := x2 == 0) rfl (fun h11 => ?_) (fun h11 => ?_)
 ·have p11 := h11; try simp only [bs] at p11
  refine Run.openOwn (.tail _ (.tail _ (List.Mem.head _))) (by omega) (fun gr cr hvgr hcapgr _ => ?_) (fun _ _ _ => ⟨nofun, nofun, nofun⟩)
  injection hvgr with hAgr _ hcgr; subst hAgr; subst hcgr
  refine Run.heldB (base := [.blk b2 28 [.slice (some ⟨gr, 0, none⟩) N0 c_u01], .blk b1 28 [.slice none 0 0]]) (by kernel_rfl) ?_
  refine DW.take (i := 0) (v := .pointer (some ⟨b2, 0, none⟩)) rfl (by kernel_rfl) (by kernel_rfl) (by kernel_rfl) (fun _ _ _ h => h) (Some'.weak (.skip (.take (.skip (.take (.nil _)))))) rfl (OpY.fieldAddr Tfo_28_0 rfl rfl) ?_
  refine DW.take (i := 1) (v := .slice (some ⟨gr, 0, none⟩) N0 c_u01) rfl (by kernel_rfl) (by kernel_rfl) (by kernel_rfl) (fun _ _ _ h => h) (Some'.weak (.skip (.take (.skip (.take (.nil _)))))) rfl (OpY.load1 Tone_22 rfl (Cells.blk (.head _) ⟨rfl, trivial⟩)) ?_
  refine DW.take (i := 2) (v := .pointer (some ⟨bc, 0, none⟩)) rfl (by kernel_rfl) (by kernel_rfl) (by kernel_rfl) (fun _ _ _ h => h) (Some'.weak (.skip (.take (.skip (.take (.nil _)))))) rfl (OpY.pure rfl) ?_
  refine DW.step (i := 3) (by kernel_rfl) rfl rfl (OpStep.buildSlice (us := [.int .i64 (-1), .int .i64 0, .int .i64 31, .int .i64 32, .int .i64 3]) Tsl_22 (by decide) (by decide) ⟨rfl, [.int .i64 (-1)], _, rfl, rfl, rfl, ⟨rfl, [.int .i64 0], _, rfl, rfl, rfl, ⟨rfl, [.int .i64 31], _, rfl, rfl, rfl, ⟨rfl, [.int .i64 32], _, rfl, rfl, rfl, ⟨rfl, [.int .i64 3], _, rfl, rfl, rfl, rfl⟩⟩⟩⟩⟩ rfl fun b3 => ?_)
  refine ⟨(Some'.weak (.skip (.skip (.take (.skip (.take (.nil _))))))), ?_⟩
  refine DW.step (i := 4) (by kernel_rfl) rfl rfl (OpStep.callM (H1 := [.blk bc 84 [vc, .int .i64 (((s2.1 : Nat) : Int)), .int .u64 (s2.2)], .own (.slice (some ⟨b3, 0, none⟩) 5 5) 3 1 5 (ints [-1, 0, 31, 32, 3])]) (H2 := [.blk b2 28 [.slice (some ⟨gr, 0, none⟩) N0 c_u01], .own (.slice (some ⟨gr, 0, none⟩) N0 c_u01) 3 1 N0 (ints (nl l)), .blk b1 28 [.slice none 0 0]]) (vs := [.pointer (some ⟨bc, 0, none⟩), .slice (some ⟨b3, 0, none⟩) 5 5]) (caps := []) Tcall_65 rfl rfl (Weak.selF [1, 0]) (fun w hs => among_spec (by omega) (by decide) (hc.go hs) (hc.apart hs (.tail _ (.head _))) (hs.sub (List.sublist_append_left _ _)).self) ?_)
  rintro _ _ ⟨i1, s9, hi1, hs9, rfl, rfl⟩
  refine ⟨(Some'.weak (.skip (.take (.skip (.take (.nil _)))))), ?_⟩
  refine DW.take (i := 5) (v := .pointer (some ⟨gr, 0, none⟩)) rfl (by kernel_rfl) (by kernel_rfl) (by kernel_rfl) (fun _ _ _ h => h) (Some'.weak (.skip (.take (.skip (.take (.nil _)))))) rfl (OpY.index (kk := 0) Tsl_22 rfl rfl (by omega) (by omega) (by first | rfl | omega)) ?_
  refine DW.step (i := 6) (by kernel_rfl) rfl rfl (OpStep.storeOwnInt (o := 0) (a := ix [-1, 0, 31, 32, 3] i1) Tsize_3 rfl rfl (.there _ (.there _ (.here _))) (by first | omega | (simp; omega)) ?_)
  refine ⟨(Some'.weak (.skip (.take (.skip (.take (.nil _)))))), ?_⟩
  refine DW.done (by kernel_rfl) ?_
  refine Run.blockEnd ?_
  refine Run.sr ?_
  refine Run.y (.agg #[.slice (some ⟨gr, 0, none⟩) N0 c_u01]) rfl (OpY.loadN (cs := [.slice (some ⟨gr, 0, none⟩) N0 c_u01]) Tagg_28 rfl (Cells.blk (.tail _ (List.Mem.head _)) ⟨rfl, trivial⟩)) ?_
  refine Run.step rfl (OpStep.storeAll (us := [.slice (some ⟨gr, 0, none⟩) N0 c_u01]) Tsize_28 rfl rfl rfl (.there _ (.there _ (.there _ (.here _)))) rfl ?_)
  refine Run.done ?_
  refine Run.ret ?_
  refine ⟨.agg #[.slice (some ⟨gr, 0, none⟩) N0 c_u01], [.own (.slice (some ⟨gr, 0, none⟩) N0 c_u01) 3 1 N0 (ints ((nl l).set 0 (ix [-1, 0, 31, 32, 3] i1))), .blk bc 84 [vc, .int .i64 (((s9.1 : Nat) : Int)), .int .u64 (s9.2)]], Out.cell1 (cs := [.slice (some ⟨gr, 0, none⟩) N0 c_u01]) rfl Tagg_28 rfl (Cells.blk (.tail _ (.tail _ (.tail _ (List.Mem.head _)))) ⟨rfl, trivial⟩), ((Weak.selF [2, 0]).trans (Some'.weak (.take (.take (.nil _))))), ?_⟩
  exact ⟨_, _, _, _, _, _, _, _, ⟨by omega, by simp [hll], by omega, fun w' h => own_read h⟩, rfl, rfl⟩
 ·have p11 := h11; try simp only [bs] at p11
  refine Run.sr ?_
  refine Run.p (.bool (x2 == 1)) rfl rfl ?_
  refine Run.p (.bool (x2 == 1)) rfl rfl ?_
  refine Run.done ?_
  refine Run.cond (b := x2 == 1) rfl (fun h19 => ?_) (fun h19 => ?_)
  ·have p19 := h19; try simp only [bs] at p19
   refine Run.heldB (base := [.blk b1 28 [.slice none 0 0]]) (by kernel_rfl) ?_
   refine DW.take (i := 0) (v := .pointer (some ⟨b2, 0, none⟩)) rfl (by kernel_rfl) (by kernel_rfl) (by kernel_rfl) (fun _ _ _ h => h) (Some'.weak (.skip (.skip (.skip (.take (.nil _)))))) rfl (OpY.fieldAddr Tfo_28_0 rfl rfl) ?_
   refine DW.take (i := 2) (v := .pointer (some ⟨bc, 0, none⟩)) rfl (by kernel_rfl) (by kernel_rfl) (by kernel_rfl) (fun _ _ _ h => h) (Some'.weak (.skip (.skip (.skip (.take (.nil _)))))) rfl (OpY.pure rfl) ?_
   refine DW.two (i := 1) (j := 3) (by kernel_rfl) rfl rfl rfl rfl ?_ ?_
   ·refine OpStep.q (v := .slice A_u01 N0 c_u01) (OpQ.y (OpY.load1 Tone_22 rfl (Cells.blk (.tail _ (List.Mem.head _)) ⟨rfl, trivial⟩))) ?_
    refine ⟨(Some'.weak (.skip (.skip (.skip (.take (.nil _)))))), ?_⟩
    refine DW.step (i := 3) (by kernel_rfl) rfl rfl (OpStep.callM (H1 := [.blk bc 84 [vc, .int .i64 (((s2.1 : Nat) : Int)), .int .u64 (s2.2)]]) (H2 := [.blk b2 28 [.slice A_u01 N0 c_u01], .own (.slice A_u01 N0 c_u01) 3 1 N0 (ints (nl l)), .blk b1 28 [.slice none 0 0]]) (vs := [.pointer (some ⟨bc, 0, none⟩), .int .i64 70]) (caps := []) Tcall_64 rfl rfl (Weak.refl _) (fun w hs => pick_ex (by omega) (hc.go hs) (hs.sub (List.sublist_append_left _ _)).self) ?_)
    rintro _ _ ⟨x3, s3, hx3, hs3, rfl, rfl⟩
    refine ⟨(Some'.weak (.skip (.skip (.skip (.take (.nil _)))))), ?_⟩
    refine DW.step (i := 4) (by kernel_rfl) rfl rfl (OpStep.buildSlice (us := [.int .i64 x3]) Tsl_22 (by decide) (by decide) ⟨rfl, [.int .i64 x3], _, rfl, rfl, rfl, rfl⟩ rfl fun b4 => ?_)
    refine ⟨(Some'.weak (.skip (.skip (.skip (.skip (.take (.nil _))))))), ?_⟩
    refine DW.step (i := 5) (by kernel_rfl) rfl rfl (OpStep.append (H1 := [.own (.slice (some ⟨b4, 0, none⟩) 1 1) 3 1 1 ([.int .i64 x3]), .blk bc 84 [vc, .int .i64 (((s3.1 : Nat) : Int)), .int .u64 (s3.2)], .blk b2 28 [.slice A_u01 N0 c_u01]]) (H2 := [.blk b1 28 [.slice none 0 0]]) (v := .slice A_u01 N0 c_u01) (u := .slice (some ⟨b4, 0, none⟩) 1 1) (n := N0) (m := 1) (xs := ints (nl l)) (ys := [.int .i64 x3]) Tsl_22 (by decide) rfl rfl rfl rfl (fun w hs => hs.slOwn (.head _)) (by simp [Value.oneCell']) (by omega) (by simp only [maxLen]; omega) fun av1 hnav1 => ?_)
    refine DW.weakS (H' := [.own (.slice (some ⟨b4, 0, none⟩) 1 1) 3 1 1 ([.int .i64 x3]), .blk bc 84 [vc, .int .i64 (((s3.1 : Nat) : Int)), .int .u64 (s3.2)], .blk b2 28 [.slice A_u01 N0 c_u01], .own av1 3 1 (N0 + 1) (ints (nl l ++ [x3])), .blk b1 28 [.slice none 0 0]]) (Some'.weak (.take (.take (.take (.takeEq (by simp [ints]) (.take (.nil _))))))) ?_
    refine ⟨(Some'.weak (.skip (.skip (.skip (.skip (.take (.nil _))))))), ?_⟩
    refine DW.take (i := 6) (v := .pointer (some ⟨b2, 0, none⟩)) rfl (by kernel_rfl) (by kernel_rfl) (by kernel_rfl) (fun _ _ _ h => h) (Some'.weak (.skip (.skip (.skip (.skip (.take (.nil _))))))) rfl (OpY.fieldAddr Tfo_28_0 rfl rfl) ?_
    refine DW.formOwn (.tail _ (.tail _ (.tail _ (List.Mem.head _)))) (fun A_av11 c_av11 hv hcapc_av11 hmaxc_av11 => ?_)
    subst hv
    refine DW.step (i := 7) (by kernel_rfl) rfl rfl (OpStep.storeAll (us := [.slice A_av11 (N0 + 1) c_av11]) Tsize_22 rfl rfl rfl (.there _ (.there _ (.here _))) rfl ?_)
    refine ⟨(Some'.weak (.skip (.skip (.skip (.skip (.take (.nil _))))))), ?_⟩
    refine DW.done (by kernel_rfl) ?_
    refine Run.blockEnd ?_
    refine Run.sr ?_
    refine Run.y (.agg #[.slice A_av11 (N0 + 1) c_av11]) rfl (OpY.loadN (cs := [.slice A_av11 (N0 + 1) c_av11]) Tagg_28 rfl (Cells.blk (.tail _ (.tail _ (List.Mem.head _))) ⟨rfl, trivial⟩)) ?_
    refine Run.step rfl (OpStep.storeAll (us := [.slice A_av11 (N0 + 1) c_av11]) Tsize_28 rfl rfl rfl (.there _ (.there _ (.there _ (.there _ (.here _))))) rfl ?_)
    refine Run.done ?_
    refine Run.ret ?_
    refine ⟨.agg #[.slice A_av11 (N0 + 1) c_av11], [.own (.slice A_av11 (N0 + 1) c_av11) 3 1 (N0 + 1) (ints (nl l ++ [x3])), .blk bc 84 [vc, .int .i64 (((s3.1 : Nat) : Int)), .int .u64 (s3.2)]], Out.cell1 (cs := [.slice A_av11 (N0 + 1) c_av11]) rfl Tagg_28 rfl (Cells.blk (.tail _ (.tail _ (.tail _ (.tail _ (List.Mem.head _))))) ⟨rfl, trivial⟩), ((Weak.selF [3, 1]).trans (Some'.weak (.take (.take (.nil _))))), ?_⟩
    exact ⟨_, _, _, _, _, _, _, _, ⟨by omega, by simp [hll], by omega, fun w' h => own_read h⟩, rfl, rfl⟩
   ·refine OpStep.callM (H1 := [.blk bc 84 [vc, .int .i64 (((s2.1 : Nat) : Int)), .int .u64 (s2.2)]]) (H2 := [.blk b2 28 [.slice A_u01 N0 c_u01], .own (.slice A_u01 N0 c_u01) 3 1 N0 (ints (nl l)), .blk b1 28 [.slice none 0 0]]) (vs := [.pointer (some ⟨bc, 0, none⟩), .int .i64 70]) (caps := []) Tcall_64 rfl rfl (Weak.refl _) (fun w hs => pick_ex (by omega) (hc.go hs) (hs.sub (List.sublist_append_left _ _)).self) ?_
    rintro _ _ ⟨x4, s4, hx4, hs4, rfl, rfl⟩
    refine ⟨(Some'.weak (.skip (.skip (.skip (.take (.nil _)))))), ?_⟩
    refine DW.two (i := 1) (j := 4) (by kernel_rfl) rfl rfl rfl rfl ?_ ?_
    ·refine OpStep.q (v := .slice A_u01 N0 c_u01) (OpQ.y (OpY.load1 Tone_22 rfl (Cells.blk (.tail _ (List.Mem.head _)) ⟨rfl, trivial⟩))) ?_
     refine ⟨(Some'.weak (.skip (.skip (.skip (.take (.nil _)))))), ?_⟩
     refine DW.step (i := 4) (by kernel_rfl) rfl rfl (OpStep.buildSlice (us := [.int .i64 x4]) Tsl_22 (by decide) (by decide) ⟨rfl, [.int .i64 x4], _, rfl, rfl, rfl, rfl⟩ rfl fun b5 => ?_)
     refine ⟨(Some'.weak (.skip (.skip (.skip (.skip (.take (.nil _))))))), ?_⟩
     refine DW.step (i := 5) (by kernel_rfl) rfl rfl (OpStep.append (H1 := [.own (.slice (some ⟨b5, 0, none⟩) 1 1) 3 1 1 ([.int .i64 x4]), .blk bc 84 [vc, .int .i64 (((s4.1 : Nat) : Int)), .int .u64 (s4.2)], .blk b2 28 [.slice A_u01 N0 c_u01]]) (H2 := [.blk b1 28 [.slice none 0 0]]) (v := .slice A_u01 N0 c_u01) (u := .slice (some ⟨b5, 0, none⟩) 1 1) (n := N0) (m := 1) (xs := ints (nl l)) (ys := [.int .i64 x4]) Tsl_22 (by decide) rfl rfl rfl rfl (fun w hs => hs.slOwn (.head _)) (by simp [Value.oneCell']) (by omega) (by simp only [maxLen]; omega) fun av2 hnav2 => ?_)
     refine DW.weakS (H' := [.own (.slice (some ⟨b5, 0, none⟩) 1 1) 3 1 1 ([.int .i64 x4]), .blk bc 84 [vc, .int .i64 (((s4.1 : Nat) : Int)), .int .u64 (s4.2)], .blk b2 28 [.slice A_u01 N0 c_u01], .own av2 3 1 (N0 + 1) (ints (nl l ++ [x4])), .blk b1 28 [.slice none 0 0]]) (Some'.weak (.take (.take (.take (.takeEq (by simp [ints]) (.take (.nil _))))))) ?_
     refine ⟨(Some'.weak (.skip (.skip (.skip (.skip (.take (.nil _))))))), ?_⟩
     refine DW.take (i := 6) (v := .pointer (some ⟨b2, 0, none⟩)) rfl (by kernel_rfl) (by kernel_rfl) (by kernel_rfl) (fun _ _ _ h => h) (Some'.weak (.skip (.skip (.skip (.skip (.take (.nil _))))))) rfl (OpY.fieldAddr Tfo_28_0 rfl rfl) ?_
     refine DW.formOwn (.tail _ (.tail _ (.tail _ (List.Mem.head _)))) (fun A_av21 c_av21 hv hcapc_av21 hmaxc_av21 => ?_)
     subst hv
     refine DW.step (i := 7) (by kernel_rfl) rfl rfl (OpStep.storeAll (us := [.slice A_av21 (N0 + 1) c_av21]) Tsize_22 rfl rfl rfl (.there _ (.there _ (.here _))) rfl ?_)
     refine ⟨(Some'.weak (.skip (.skip (.skip (.skip (.take (.nil _))))))), ?_⟩
     refine DW.done (by kernel_rfl) ?_
     refine Run.blockEnd ?_
     refine Run.sr ?_
     refine Run.y (.agg #[.slice A_av21 (N0 + 1) c_av21]) rfl (OpY.loadN (cs := [.slice A_av21 (N0 + 1) c_av21]) Tagg_28 rfl (Cells.blk (.tail _ (.tail _ (List.Mem.head _))) ⟨rfl, trivial⟩)) ?_
     refine Run.step rfl (OpStep.storeAll (us := [.slice A_av21 (N0 + 1) c_av21]) Tsize_28 rfl rfl rfl (.there _ (.there _ (.there _ (.there _ (.here _))))) rfl ?_)
     refine Run.done ?_
     refine Run.ret ?_
     refine ⟨.agg #[.slice A_av21 (N0 + 1) c_av21], [.own (.slice A_av21 (N0 + 1) c_av21) 3 1 (N0 + 1) (ints (nl l ++ [x4])), .blk bc 84 [vc, .int .i64 (((s4.1 : Nat) : Int)), .int .u64 (s4.2)]], Out.cell1 (cs := [.slice A_av21 (N0 + 1) c_av21]) rfl Tagg_28 rfl (Cells.blk (.tail _ (.tail _ (.tail _ (.tail _ (List.Mem.head _))))) ⟨rfl, trivial⟩), ((Weak.selF [3, 1]).trans (Some'.weak (.take (.take (.nil _))))), ?_⟩
     exact ⟨_, _, _, _, _, _, _, _, ⟨by omega, by simp [hll], by omega, fun w' h => own_read h⟩, rfl, rfl⟩
    ·refine OpStep.buildSlice (us := [.int .i64 x4]) Tsl_22 (by decide) (by decide) ⟨rfl, [.int .i64 x4], _, rfl, rfl, rfl, rfl⟩ rfl fun b6 => ?_
     refine ⟨(Some'.weak (.skip (.skip (.skip (.skip (.take (.nil _))))))), ?_⟩
     refine DW.step (i := 1) (by kernel_rfl) rfl rfl (OpStep.q (v := .slice A_u01 N0 c_u01) (OpQ.y (OpY.load1 Tone_22 rfl (Cells.blk (.tail _ (.tail _ (List.Mem.head _))) ⟨rfl, trivial⟩))) ?_)
     refine ⟨(Some'.weak (.skip (.skip (.skip (.skip (.take (.nil _))))))), ?_⟩
     refine DW.step (i := 5) (by kernel_rfl) rfl rfl (OpStep.append (H1 := [.own (.slice (some ⟨b6, 0, none⟩) 1 1) 3 1 1 ([.int .i64 x4]), .blk bc 84 [vc, .int .i64 (((s4.1 : Nat) : Int)), .int .u64 (s4.2)], .blk b2 28 [.slice A_u01 N0 c_u01]]) (H2 := [.blk b1 28 [.slice none 0 0]]) (v := .slice A_u01 N0 c_u01) (u := .slice (some ⟨b6, 0, none⟩) 1 1) (n := N0) (m := 1) (xs := ints (nl l)) (ys := [.int .i64 x4]) Tsl_22 (by decide) rfl rfl rfl rfl (fun w hs => hs.slOwn (.head _)) (by simp [Value.oneCell']) (by omega) (by simp only [maxLen]; omega) fun av3 hnav3 => ?_)
     refine DW.weakS (H' := [.own (.slice (some ⟨b6, 0, none⟩) 1 1) 3 1 1 ([.int .i64 x4]), .blk bc 84 [vc, .int .i64 (((s4.1 : Nat) : Int)), .int .u64 (s4.2)], .blk b2 28 [.slice A_u01 N0 c_u01], .own av3 3 1 (N0 + 1) (ints (nl l ++ [x4])), .blk b1 28 [.slice none 0 0]]) (Some'.weak (.take (.take (.take (.takeEq (by simp [ints]) (.take (.nil _))))))) ?_
     refine ⟨(Some'.weak (.skip (.skip (.skip (.skip (.take (.nil _))))))), ?_⟩
     refine DW.take (i := 6) (v := .pointer (some ⟨b2, 0, none⟩)) rfl (by kernel_rfl) (by kernel_rfl) (by kernel_rfl) (fun _ _ _ h => h) (Some'.weak (.skip (.skip (.skip (.skip (.take (.nil _))))))) rfl (OpY.fieldAddr Tfo_28_0 rfl rfl) ?_
     refine DW.formOwn (.tail _ (.tail _ (.tail _ (List.Mem.head _)))) (fun A_av31 c_av31 hv hcapc_av31 hmaxc_av31 => ?_)
     subst hv
     refine DW.step (i := 7) (by kernel_rfl) rfl rfl (OpStep.storeAll (us := [.slice A_av31 (N0 + 1) c_av31]) Tsize_22 rfl rfl rfl (.there _ (.there _ (.here _))) rfl ?_)
     refine ⟨(Some'.weak (.skip (.skip (.skip (.skip (.take (.nil _))))))), ?_⟩
     refine DW.done (by kernel_rfl) ?_
     refine Run.blockEnd ?_
     refine Run.sr ?_
     refine Run.y (.agg #[.slice A_av31 (N0 + 1) c_av31]) rfl (OpY.loadN (cs := [.slice A_av31 (N0 + 1) c_av31]) Tagg_28 rfl (Cells.blk (.tail _ (.tail _ (List.Mem.head _))) ⟨rfl, trivial⟩)) ?_
     refine Run.step rfl (OpStep.storeAll (us := [.slice A_av31 (N0 + 1) c_av31]) Tsize_28 rfl rfl rfl (.there _ (.there _ (.there _ (.there _ (.here _))))) rfl ?_)
     refine Run.done ?_
     refine Run.ret ?_
     refine ⟨.agg #[.slice A_av31 (N0 + 1) c_av31], [.own (.slice A_av31 (N0 + 1) c_av31) 3 1 (N0 + 1) (ints (nl l ++ [x4])), .blk bc 84 [vc, .int .i64 (((s4.1 : Nat) : Int)), .int .u64 (s4.2)]], Out.cell1 (cs := [.slice A_av31 (N0 + 1) c_av31]) rfl Tagg_28 rfl (Cells.blk (.tail _ (.tail _ (.tail _ (.tail _ (List.Mem.head _))))) ⟨rfl, trivial⟩), ((Weak.selF [3, 1]).trans (Some'.weak (.take (.take (.nil _))))), ?_⟩
     exact ⟨_, _, _, _, _, _, _, _, ⟨by omega, by simp [hll], by omega, fun w' h => own_read h⟩, rfl, rfl⟩
  ·have p19 := h19; try simp only [bs] at p19
   refine Run.sr ?_
   refine Run.p (.bool (x2 == 2)) rfl rfl ?_
   refine Run.p (.bool (x2 == 2)) rfl rfl ?_
   refine Run.done ?_
   refine Run.cond (b := x2 == 2) rfl (fun h28 => ?_) (fun h28 => ?_)
   ·have p28 := h28; try simp only [bs] at p28
    refine Run.openOwn (.tail _ (.tail _ (List.Mem.head _))) (by omega) (fun gr cr hvgr hcapgr _ => ?_) (fun _ _ _ => ⟨nofun, nofun, nofun⟩)
    injection hvgr with hAgr _ hcgr; subst hAgr; subst hcgr
    obtain ⟨A9, hA9⟩ : ∃ A9, (if c_u01 = 1 then some (⟨gr, 0, none⟩ : Addr) else (some (⟨gr, 0, none⟩ : Addr)).map (·.add (1 * 1))) = A9 := ⟨_, rfl⟩
    refine Run.region ?_
    refine Run.y (.pointer (some ⟨b2, 0, none⟩)) rfl (OpY.fieldAddr Tfo_28_0 rfl rfl) ?_
    refine Run.y (.slice (some ⟨gr, 0, none⟩) N0 c_u01) rfl (OpY.load1 Tone_22 rfl (Cells.blk (.tail _ (List.Mem.head _)) ⟨rfl, trivial⟩)) ?_
    refine Run.y (.slice A9 (N0 - 1) (c_u01 - 1)) rfl (OpY.sliceLE (l := 1) Tsl_22 rfl rfl rfl (by omega) hA9) ?_
    refine Run.y (.pointer (some ⟨b2, 0, none⟩)) rfl (OpY.fieldAddr Tfo_28_0 rfl rfl) ?_
    refine Run.step rfl (OpStep.storeAll (us := [.slice A9 (N0 - 1) (c_u01 - 1)]) Tsize_22 rfl rfl rfl (.there _ (.here _)) rfl ?_)
    refine Run.done ?_
    refine Run.blockEnd ?_
    refine Run.sr ?_
    refine Run.y (.agg #[.slice A9 (N0 - 1) (c_u01 - 1)]) rfl (OpY.loadN (cs := [.slice A9 (N0 - 1) (c_u01 - 1)]) Tagg_28 rfl (Cells.blk (.tail _ (List.Mem.head _)) ⟨rfl, trivial⟩)) ?_
    refine Run.step rfl (OpStep.storeAll (us := [.slice A9 (N0 - 1) (c_u01 - 1)]) Tsize_28 rfl rfl rfl (.there _ (.there _ (.there _ (.here _)))) rfl ?_)
    refine Run.done ?_
    refine Run.ret ?_
    refine ⟨.agg #[.slice A9 (N0 - 1) (c_u01 - 1)], [.own (.slice (some ⟨gr, 0, none⟩) N0 c_u01) 3 1 N0 (ints (nl l)), .blk bc 84 [vc, .int .i64 (((s2.1 : Nat) : Int)), .int .u64 (s2.2)]], Out.cell1 (cs := [.slice A9 (N0 - 1) (c_u01 - 1)]) rfl Tagg_28 rfl (Cells.blk (.tail _ (.tail _ (.tail _ (List.Mem.head _)))) ⟨rfl, trivial⟩), ((Weak.selF [2, 0]).trans (Some'.weak (.take (.take (.nil _))))), ?_⟩
    exact ⟨_, _, _, _, _, _, _, _, ⟨by omega, by simp [hll], by omega, fun w' h => tail_read (by omega) hA9 h⟩, rfl, rfl⟩
   ·have p28 := h28; try simp only [bs] at p28
    refine Run.skip ?_
    refine Run.blockEnd ?_
    refine Run.sr ?_
    refine Run.y (.agg #[.slice A_u01 N0 c_u01]) rfl (OpY.loadN (cs := [.slice A_u01 N0 c_u01]) Tagg_28 rfl (Cells.blk (.tail _ (List.Mem.head _)) ⟨rfl, trivial⟩)) ?_
    refine Run.step rfl (OpStep.storeAll (us := [.slice A_u01 N0 c_u01]) Tsize_28 rfl rfl rfl (.there _ (.there _ (.there _ (.here _)))) rfl ?_)
    refine Run.done ?_
    refine Run.ret ?_
    refine ⟨.agg #[.slice A_u01 N0 c_u01], [.own (.slice A_u01 N0 c_u01) 3 1 N0 (ints (nl l)), .blk bc 84 [vc, .int .i64 (((s2.1 : Nat) : Int)), .int .u64 (s2.2)]], Out.cell1 (cs := [.slice A_u01 N0 c_u01]) rfl Tagg_28 rfl (Cells.blk (.tail _ (.tail _ (.tail _ (List.Mem.head _)))) ⟨rfl, trivial⟩), ((Weak.selF [2, 0]).trans (Some'.weak (.take (.take (.nil _))))), ?_⟩
    exact ⟨_, _, _, _, _, _, _, _, ⟨by omega, by simp [hll], by omega, fun w' h => own_read h⟩, rfl, rfl⟩

end Go.Proofs.Yteehfidjofcfmaa
/- Walks: drawn circuits. -/
set_option linter.unusedSimpArgs false
set_option linter.unusedVariables false
namespace Go.Proofs.Yteehfidjofcfmaa
open Go Go.RowKit
namespace DcxT
theorem Tagg_38 : aggOf Try.prog 38 = some 2 := by kernel_rfl
theorem Tagg_71 : aggOf Try.prog 71 = some 3 := by kernel_rfl
theorem Tcall_100 : callable Try.prog 100 = true := by kernel_rfl
theorem Tcall_62 : callable Try.prog 62 = true := by kernel_rfl
theorem Tcall_64 : callable Try.prog 64 = true := by kernel_rfl
theorem Tcall_65 : callable Try.prog 65 = true := by kernel_rfl
theorem Tfo_38_0 : fieldOff Try.prog 38 0 = some 0 := by kernel_rfl
theorem Tfo_38_1 : fieldOff Try.prog 38 1 = some 1 := by kernel_rfl
theorem Tfo_71_0 : fieldOff Try.prog 71 0 = some 0 := by kernel_rfl
theorem Tfo_71_1 : fieldOff Try.prog 71 1 = some 1 := by kernel_rfl
theorem Tfo_71_2 : fieldOff Try.prog 71 2 = some 2 := by kernel_rfl
theorem Tone_3 : oneOf Try.prog 3 = true := by kernel_rfl
theorem Tone_36 : oneOf Try.prog 36 = true := by kernel_rfl
theorem Tsize_3 : (Try.prog.info? 3).map (·.size) = some 1 := by kernel_rfl
theorem Tsize_36 : (Try.prog.info? 36).map (·.size) = some 1 := by kernel_rfl
theorem Tsize_38 : (Try.prog.info? 38).map (·.size) = some 2 := by kernel_rfl
theorem Tsize_71 : (Try.prog.info? 71).map (·.size) = some 3 := by kernel_rfl
theorem Tsl_22 : sliceOf Try.prog 22 = some (3, 1, 8, [.int .i64 0]) := by kernel_rfl
theorem Tsl_36 : sliceOf Try.prog 36 = some (71, 3, 24, [.int .i64 0, .int .i64 0, .int .i64 0]) := by kernel_rfl
theorem Tzero_38 : zeroOf Try.prog 38 = some [.int .i64 0, .slice none 0 0] := by kernel_rfl
theorem Tzero_71 : zeroOf Try.prog 71 = some [.int .i64 0, .int .i64 0, .int .i64 0] := by kernel_rfl
end DcxT
open DcxT
theorem Cur.apart0 {w0 w : World} {va vl : Value} {n m size : Nat} {e : TypeId} {cs : List Int} {ls : List Value} {H : List Res} (ha : Sl w0 va 1 n (u8s cs)) (hs : St No w0 w H) (hm : Res.own vl e size m ls ∈ H) : 0 < n → ∀ k, va.ownBlock = some k → vl.ownBlock ≠ some k := by
  intro h0 k hk hl
  obtain ⟨_, A, c, rfl, _, _, h4⟩ := ha
  obtain ⟨b, o, rfl, hb, _⟩ := h4 h0
  simp only [Value.ownBlock, Option.some.injEq] at hk; subst hk
  exact hs.fresh _ hm _ hl hb

end Go.Proofs.Yteehfidjofcfmaa
/- Walks: drawn masks. -/
set_option linter.unusedSimpArgs false
set_option linter.unusedVariables false
namespace Go.Proofs.Yteehfidjofcfmaa
open Go Go.RowKit
namespace DmkT
theorem Tagg_28 : aggOf Try.prog 28 = some 1 := by kernel_rfl
theorem Tcall_114 : callable Try.prog 114 = true := by kernel_rfl
theorem Tcall_115 : callable Try.prog 115 = true := by kernel_rfl
theorem Tcall_116 : callable Try.prog 116 = true := by kernel_rfl
theorem Tcall_62 : callable Try.prog 62 = true := by kernel_rfl
theorem Tcall_64 : callable Try.prog 64 = true := by kernel_rfl
theorem Tcall_65 : callable Try.prog 65 = true := by kernel_rfl
theorem Tcall_80 : callable Try.prog 80 = true := by kernel_rfl
theorem Tcall_81 : callable Try.prog 81 = true := by kernel_rfl
theorem Tcall_85 : callable Try.prog 85 = true := by kernel_rfl
theorem Tcall_86 : callable Try.prog 86 = true := by kernel_rfl
theorem Tint_96 : Try.prog.underlying 96 = some (.int .u64) := by kernel_rfl
theorem Tone_3 : oneOf Try.prog 3 = true := by kernel_rfl
theorem Tsize_28 : (Try.prog.info? 28).map (·.size) = some 1 := by kernel_rfl
theorem Tsl_22 : sliceOf Try.prog 22 = some (3, 1, 8, [.int .i64 0]) := by kernel_rfl
theorem Tsome_3 : (Try.prog.underlying 3).isSome = true := by kernel_rfl
theorem Tzero_28 : zeroOf Try.prog 28 = some [.slice none 0 0] := by kernel_rfl
end DmkT
open DmkT
theorem Sl.dropG {w : World} {A A' : Option Addr} {n c m : Nat} {xs : List Int} (h : Sl w (.slice A n c) 1 n (ints xs)) (hm : m ≤ n) (hA : (if c = m then A else A.map (·.add (m * 1))) = A') : Sl w (.slice A' (n - m) (c - m)) 1 (n - m) (ints (xs.drop m)) := by
  have hl := h.len
  obtain ⟨h0, A1, c', hv, h1, h2, h3⟩ := h
  injection hv with hA2 _ hc
  subst hA2; subst hc
  refine ⟨by simp [ints]; omega, _, _, rfl, by omega, by omega, fun hn2 => ?_⟩
  obtain ⟨b, o, rfl, hb, hrg⟩ := h3 (by omega)
  rw [if_neg (by omega)] at hA
  refine ⟨b, o + m * 1, by rw [← hA, Option.map_some, Addr.add]; split <;> simp <;> omega, hb, fun j v hv => ?_⟩
  have h4 : (ints xs)[m + j]? = some v := by
    rw [← hv, ints, ints, List.map_drop, List.getElem?_drop]
  have := hrg (m + j) v h4
  rwa [Nat.mul_one, Nat.add_assoc]
theorem in1_le (M : Nat) : max 1 (min M 5) ≤ 5 := by omega

set_option maxHeartbeats 1000000 in
set_option maxRecDepth 20000 in
theorem l1Least_spec (a b : Int) (w : World) : Calls Try.prog 116 #[.int .i64 a, .int .i64 b] w (Post No w fun v _ => v = .int .i64 (min a b)) := by
 refine enter (n := 10) (args := [.int .i64 a, .int .i64 b]) Try.func116 rfl rfl (St.empty _ _) ?_
 refine Run.sr ?_
 refine Run.p (.int .i64 0) rfl rfl ?_
 refine Run.done ?_
 refine Run.seq ?_
 refine Run.sr ?_
 refine Run.p (.int .i64 a) rfl rfl ?_
 refine Run.p (.int .i64 b) rfl rfl ?_
 refine Run.p (.bool (decide (a < b))) rfl rfl ?_
 refine Run.done ?_
 refine Run.cond (b := decide (a < b)) rfl (fun h7 => ?_) (fun h7 => ?_)
 ·have p7 := h7; try simp only [bs] at p7
  refine Run.sr ?_
  refine Run.p (.int .i64 a) rfl rfl ?_
  refine Run.p (.int .i64 a) rfl rfl ?_
  refine Run.done ?_
  refine Run.ret ?_
  refine ⟨.int .i64 a, [], Out.one rfl rfl, (Some'.weak (.nil _)), ?_⟩
  show _ = _; congr 1; omega
 ·have p7 := h7; try simp only [bs] at p7
  refine Run.skip ?_
  refine Run.sr ?_
  refine Run.p (.int .i64 b) rfl rfl ?_
  refine Run.p (.int .i64 b) rfl rfl ?_
  refine Run.done ?_
  refine Run.ret ?_
  refine ⟨.int .i64 b, [], Out.one rfl rfl, (Some'.weak (.nil _)), ?_⟩
  show _ = _; congr 1; omega

set_option maxHeartbeats 1000000 in
set_option maxRecDepth 20000 in
theorem l1In1_spec (M : Nat) (w : World) : Calls Try.prog 81 #[.int .i64 (M : Int)] w (Post No w fun v _ => v = .int .i64 ((max 1 (min M 5) : Nat) : Int)) := by
 refine enter (n := 6) (args := [.int .i64 (((M : Nat) : Int))]) Try.func81 rfl rfl (St.empty _ _) ?_
 refine Run.sr ?_
 refine Run.p (.int .i64 0) rfl rfl ?_
 refine Run.dsr ?_
 refine Run.p (.int .i64 (((M : Nat) : Int))) rfl rfl ?_
 refine Run.q (v := .int .i64 (min (((M : Nat) : Int)) 5)) rfl (OpQ.call (vs := [.int .i64 (((M : Nat) : Int)), .int .i64 5]) (caps := []) Tcall_116 rfl rfl (fun w hs => l1Least_spec _ _ w)) ?_
 refine Run.q (v := .int .i64 (max 1 (min (((M : Nat) : Int)) 5))) rfl (OpQ.call (vs := [.int .i64 1, .int .i64 (min (((M : Nat) : Int)) 5)]) (caps := []) Tcall_115 rfl rfl (fun w hs => l1Most_spec _ _ w)) ?_
 refine Run.p (.int .i64 (max 1 (min (((M : Nat) : Int)) 5))) rfl rfl ?_
 refine Run.done ?_
 refine Run.ret ?_
 refine ⟨.int .i64 (max 1 (min (((M : Nat) : Int)) 5)), [], Out.one rfl rfl, (Some'.weak (.nil _)), ?_⟩
 show _ = _; congr 1; omega

set_option maxHeartbeats 1000000 in
set_option maxRecDepth 20000 in
theorem l1Put_spec {va : Value} {n : Nat} {xs : List Int} {x : Int} {w : World} (hn : n ≤ 1000) (ho : (Res.own va 3 1 n (ints xs)).holds w) : Calls Try.prog 114 #[va, .int .i64 x] w (Post (Of [.own va 3 1 n (ints xs)]) w fun v H => ∃ (n2 : Nat) (x2 : List Int), n2 ≤ n + 1 ∧ H = [.own v 3 1 n2 (ints x2)]) := by
 have hsl := (St.start1 ho).slOwn (.head _)
 have hxl := hsl.len
 obtain ⟨A, c, rfl, _, _⟩ := hsl.form0
 refine enter (n := 48) (args := [.slice A n c, .int .i64 x]) Try.func114 rfl rfl (St.start1 ho) ?_
 refine Run.sr ?_
 refine Run.p (.slice none 0 0) rfl rfl ?_
 refine Run.dsr ?_
 refine Run.p (.int .i64 0) rfl rfl ?_
 refine Run.done ?_
 refine Run.seq ?_
 refine Run.block ?_
 refine Run.loop (ι := Nat) [5, 7, 8, 9, 10, 11, 12, 13, 14, 15, 16, 17, 18, 19, 20] (fun k => [(5, .int .i64 (((k : Nat) : Int)))]) (fun k => [.own (.slice A n c) 3 1 n (ints xs)]) (fun k => k ≤ n) (fun k => n - k) 0 ?_ ?_ ?_ ?_
 ·exact Nat.zero_le _
 ·exact ⟨rfl, trivial⟩
 ·exact (Some'.weak (.take (.nil _)))
 ·rintro k fr hinv
  show Run _ _ (over _ _ [(5, .int .i64 (((k : Nat) : Int)))] fr) [.own (.slice A n c) 3 1 n (ints xs)]
  try dsimp only at hinv
  refine Run.seq ?_
  refine Run.sr ?_
  refine Run.p (.int .i64 (((k : Nat) : Int))) rfl rfl ?_
  refine Run.p (.slice A n c) rfl rfl ?_
  refine Run.y (.int .i64 (((n : Nat) : Int))) rfl (OpY.len Tsl_22 rfl) ?_
  refine Run.p (.bool (decide ((((k : Nat) : Int)) < (((n : Nat) : Int))))) rfl rfl ?_
  rcases Bool.eq_false_or_eq_true (decide ((((k : Nat) : Int)) < (((n : Nat) : Int)))) with h11 | h11
  ·refine Run.q (v := .bool true) rfl (OpQ.y (OpY.moveB rfl h11)) ?_
   have p11 := h11; try simp only [bs] at p11
   have hkl : k < n := by omega
   refine Run.openOwn (.head _) (by omega) (fun gx cx hvgx hcapgx _ => ?_) (fun _ _ _ => ⟨nofun, nofun, nofun⟩)
   injection hvgx with hAgx _ hcgx; subst hAgx; subst hcgx
   refine Run.p (.slice (some ⟨gx, 0, none⟩) n c) rfl rfl ?_
   refine Run.p (.int .i64 (((k : Nat) : Int))) rfl rfl ?_
   refine Run.y (.pointer (some ⟨gx, k, none⟩)) rfl (OpY.index (kk := k) Tsl_22 rfl rfl (by omega) (by omega) (by first | rfl | omega)) ?_
   refine Run.y (.int .i64 (ix xs (k))) rfl (OpY.load1 Tone_3 rfl (Cells.own0 (.head _) (pre1 (by omega)))) ?_
   refine Run.p (.int .i64 x) rfl rfl ?_
   refine Run.p (.bool (decide ((ix xs (k)) < x))) rfl rfl ?_
   refine Run.p (.bool (decide ((ix xs (k)) < x))) rfl rfl ?_
   refine Run.done ?_
   refine Run.cond (b := decide ((ix xs (k)) < x)) rfl (fun h18 => ?_) (fun h18 => ?_)
   ·have p18 := h18; try simp only [bs] at p18
    refine Run.skip ?_
    refine Run.block ?_
    refine Run.region ?_
    refine Run.p (.int .i64 (((k : Nat) : Int))) rfl rfl ?_
    refine Run.y (.int .i64 ((((k : Nat) : Int)) + 1)) rfl (OpY.add rfl rfl rfl (by omega) (by omega)) ?_
    refine Run.p (.int .i64 ((((k : Nat) : Int)) + 1)) rfl rfl ?_
    refine Run.done ?_
    refine Run.blockEnd ?_
    refine Run.goal ⟨(by repeat (first | exact Same.refl _ _ | refine Same.put rfl ?_ | refine Same.over rfl rfl ?_)), k + 1, ?_, ?_, ?_, ?_⟩
    ·omega
    ·omega
    ·exact ⟨(by first | rfl | (congr 1; omega) | simp), trivial⟩
    ·exact (Some'.weak (.takeEq (by first | rfl | simp) (.nil _)))
   ·have p18 := h18; try simp only [bs] at p18
    refine Run.exit rfl ?_
    refine Run.seq ?_
    refine Run.sr ?_
    refine Run.p (.int .i64 (((k : Nat) : Int))) rfl rfl ?_
    refine Run.p (.slice (some ⟨gx, 0, none⟩) n c) rfl rfl ?_
    refine Run.y (.int .i64 (((n : Nat) : Int))) rfl (OpY.len Tsl_22 rfl) ?_
    refine Run.p (.bool (decide ((((k : Nat) : Int)) < (((n : Nat) : Int))))) rfl rfl ?_
    rcases Bool.eq_false_or_eq_true (decide ((((k : Nat) : Int)) < (((n : Nat) : Int)))) with h25 | h25
    ·refine Run.q (v := .bool true) rfl (OpQ.y (OpY.moveB rfl h25)) ?_
     have p25 := h25; try simp only [bs] at p25
     have hkl : k < n := by omega
     refine Run.p (.slice (some ⟨gx, 0, none⟩) n c) rfl rfl ?_
     refine Run.p (.int .i64 (((k : Nat) : Int))) rfl rfl ?_
     refine Run.y (.pointer (some ⟨gx, k, none⟩)) rfl (OpY.index (kk := k) Tsl_22 rfl rfl (by omega) (by omega) (by first | rfl | omega)) ?_
     refine Run.y (.int .i64 (ix xs (k))) rfl (OpY.load1 Tone_3 rfl (Cells.own0 (.head _) (pre1 (by omega)))) ?_
     refine Run.p (.int .i64 x) rfl rfl ?_
     refine Run.p (.bool ((ix xs (k)) == x)) rfl rfl ?_
     refine Run.p (.bool ((ix xs (k)) == x)) rfl rfl ?_
     refine Run.done ?_
     refine Run.cond (b := (ix xs (k)) == x) rfl (fun h32 => ?_) (fun h32 => ?_)
     ·have p32 := h32; try simp only [bs] at p32
      refine Run.sr ?_
      refine Run.p (.slice (some ⟨gx, 0, none⟩) n c) rfl rfl ?_
      refine Run.p (.slice (some ⟨gx, 0, none⟩) n c) rfl rfl ?_
      refine Run.done ?_
      refine Run.ret ?_
      refine ⟨.slice (some ⟨gx, 0, none⟩) n c, [.own (.slice (some ⟨gx, 0, none⟩) n c) 3 1 n (ints xs)], Out.one rfl rfl, (Some'.weak (.take (.nil _))), ?_⟩
      exact ⟨_, _, by omega, rfl⟩
     ·have p32 := h32; try simp only [bs] at p32
      refine Run.skip ?_
      refine Run.sr ?_
      refine Run.step rfl (OpStep.buildSlice (us := []) Tsl_22 (by decide) (by decide) rfl rfl fun b1 => ?_)
      refine Run.p (.slice (some ⟨gx, 0, none⟩) n c) rfl rfl ?_
      refine Run.p (.int .i64 (((k : Nat) : Int))) rfl rfl ?_
      refine Run.y (.slice (some ⟨gx, 0, none⟩) k c) rfl (OpY.sliceHN (h := k) Tsl_22 rfl rfl (by omega) (by omega)) ?_
      refine Run.step rfl (OpStep.append (H1 := []) (H2 := [.own (.slice (some ⟨gx, 0, none⟩) n c) 3 1 n (ints xs)]) (v := .slice (some ⟨b1, 0, none⟩) 0 0) (u := .slice (some ⟨gx, 0, none⟩) k c) (n := 0) (m := k) (xs := []) (ys := ints (xs.take (k * 1))) Tsl_22 (by decide) rfl rfl rfl rfl (fun w hs => (by have h := (hs.slOwn (.tail _ (List.Mem.head _))).take (m := k) (by omega); exact h)) (by exact ints_all _) (by omega) (by simp only [maxLen]; omega) fun av1 hnav1 => ?_)
      refine Run.weak (H' := [.own av1 3 1 k (ints (xs.take (k * 1))), .own (.slice (some ⟨gx, 0, none⟩) n c) 3 1 n (ints xs)]) (Some'.weak (.takeEq (by simp) (.take (.nil _)))) ?_ ⟨_, _, rfl, fun _ => nofun, fun _ => nofun⟩
      refine Run.p (av1) rfl rfl ?_
      refine Run.dsr ?_
      refine Run.p (av1) rfl rfl ?_
      refine Run.p (.int .i64 x) rfl rfl ?_
      refine Run.step rfl (OpStep.buildSlice (us := [.int .i64 x]) Tsl_22 (by decide) (by decide) ⟨rfl, [.int .i64 x], _, rfl, rfl, rfl, rfl⟩ rfl fun b2 => ?_)
      refine Run.step rfl (OpStep.append (H1 := [.own (.slice (some ⟨b2, 0, none⟩) 1 1) 3 1 1 ([.int .i64 x])]) (H2 := [.own (.slice (some ⟨gx, 0, none⟩) n c) 3 1 n (ints xs)]) (v := av1) (u := .slice (some ⟨b2, 0, none⟩) 1 1) (n := k) (m := 1) (xs := ints (xs.take (k * 1))) (ys := [.int .i64 x]) Tsl_22 (by decide) rfl rfl rfl rfl (fun w hs => hs.slOwn (.head _)) (by simp [Value.oneCell']) (by omega) (by simp only [maxLen]; omega) fun av2 hnav2 => ?_)
      refine Run.weak (H' := [.own (.slice (some ⟨b2, 0, none⟩) 1 1) 3 1 1 ([.int .i64 x]), .own av2 3 1 (k + 1) (ints (xs.take (k * 1) ++ [x])), .own (.slice (some ⟨gx, 0, none⟩) n c) 3 1 n (ints xs)]) (Some'.weak (.take (.takeEq (by simp [ints]) (.take (.nil _))))) ?_ ⟨_, _, rfl, fun _ => nofun, fun _ => nofun⟩
      refine Run.p (av2) rfl rfl ?_
      refine Run.done ?_
      refine Run.seq ?_
      obtain ⟨A9, hA9⟩ : ∃ A9, (if c = k then (some ⟨gx, 0, none⟩ : Option Addr) else (some ⟨gx, 0, none⟩ : Option Addr).map (·.add (k * 1))) = A9 := ⟨_, rfl⟩
      refine Run.region ?_
      refine Run.p (av2) rfl rfl ?_
      refine Run.p (.slice (some ⟨gx, 0, none⟩) n c) rfl rfl ?_
      refine Run.p (.int .i64 (((k : Nat) : Int))) rfl rfl ?_
      refine Run.y (.slice A9 (n - k) (c - k)) rfl (OpY.sliceLE (l := k) Tsl_22 rfl rfl rfl (by omega) hA9) ?_
      refine Run.step rfl (OpStep.append (H1 := [.own (.slice (some ⟨b2, 0, none⟩) 1 1) 3 1 1 ([.int .i64 x])]) (H2 := [.own (.slice (some ⟨gx, 0, none⟩) n c) 3 1 n (ints xs)]) (v := av2) (u := .slice A9 (n - k) (c - k)) (n := k + 1) (m := n - k) (xs := ints (xs.take (k * 1) ++ [x])) (ys := ints (xs.drop k)) Tsl_22 (by decide) rfl rfl rfl rfl (fun w hs => (by have h := (hs.slOwn (.tail _ (.tail _ (List.Mem.head _)))).dropG (m := k) (by omega) hA9; exact h)) (by exact ints_all _) (by omega) (by simp only [maxLen]; omega) fun av3 hnav3 => ?_)
      refine Run.weak (H' := [.own (.slice (some ⟨b2, 0, none⟩) 1 1) 3 1 1 ([.int .i64 x]), .own av3 3 1 (k + 1 + (n - k)) (ints (xs.take (k * 1) ++ [x] ++ xs.drop k)), .own (.slice (some ⟨gx, 0, none⟩) n c) 3 1 n (ints xs)]) (Some'.weak (.take (.takeEq (by simp [ints]) (.take (.nil _))))) ?_ ⟨_, _, rfl, fun _ => nofun, fun _ => nofun⟩
      refine Run.p (av3) rfl rfl ?_
      refine Run.done ?_
      refine Run.ret ?_
      refine ⟨av3, [.own av3 3 1 (k + 1 + (n - k)) (ints (xs.take (k * 1) ++ [x] ++ xs.drop k))], Out.one rfl rfl, (Some'.weak (.skip (.take (.nil _)))), ?_⟩
      exact ⟨_, _, by omega, rfl⟩
    ·refine Run.q (v := .bool false) rfl (OpQ.y (OpY.moveB rfl h25)) ?_
     have p25 := h25; try simp only [bs] at p25
     refine Run.pass rfl ?_
     refine Run.pass rfl ?_
     refine Run.pass rfl ?_
     refine Run.pass rfl ?_
     refine Run.pass rfl ?_
     refine Run.pass rfl ?_
     refine Run.p (.bool false) rfl rfl ?_
     refine Run.done ?_
     refine Run.cond (b := false) rfl (fun h => nomatch h) (fun _ => ?_)
     refine Run.skip ?_
     refine Run.sr ?_
     refine Run.step rfl (OpStep.buildSlice (us := []) Tsl_22 (by decide) (by decide) rfl rfl fun b3 => ?_)
     refine Run.p (.slice (some ⟨gx, 0, none⟩) n c) rfl rfl ?_
     refine Run.p (.int .i64 (((k : Nat) : Int))) rfl rfl ?_
     refine Run.y (.slice (some ⟨gx, 0, none⟩) k c) rfl (OpY.sliceHN (h := k) Tsl_22 rfl rfl (by omega) (by omega)) ?_
     refine Run.step rfl (OpStep.append (H1 := []) (H2 := [.own (.slice (some ⟨gx, 0, none⟩) n c) 3 1 n (ints xs)]) (v := .slice (some ⟨b3, 0, none⟩) 0 0) (u := .slice (some ⟨gx, 0, none⟩) k c) (n := 0) (m := k) (xs := []) (ys := ints (xs.take (k * 1))) Tsl_22 (by decide) rfl rfl rfl rfl (fun w hs => (by have h := (hs.slOwn (.tail _ (List.Mem.head _))).take (m := k) (by omega); exact h)) (by exact ints_all _) (by omega) (by simp only [maxLen]; omega) fun av4 hnav4 => ?_)
     refine Run.weak (H' := [.own av4 3 1 k (ints (xs.take (k * 1))), .own (.slice (some ⟨gx, 0, none⟩) n c) 3 1 n (ints xs)]) (Some'.weak (.takeEq (by simp) (.take (.nil _)))) ?_ ⟨_, _, rfl, fun _ => nofun, fun _ => nofun⟩
     refine Run.p (av4) rfl rfl ?_
     refine Run.dsr ?_
     refine Run.p (av4) rfl rfl ?_
     refine Run.p (.int .i64 x) rfl rfl ?_
     refine Run.step rfl (OpStep.buildSlice (us := [.int .i64 x]) Tsl_22 (by decide) (by decide) ⟨rfl, [.int .i64 x], _, rfl, rfl, rfl, rfl⟩ rfl fun b4 => ?_)
     refine Run.step rfl (OpStep.append (H1 := [.own (.slice (some ⟨b4, 0, none⟩) 1 1) 3 1 1 ([.int .i64 x])]) (H2 := [.own (.slice (some ⟨gx, 0, none⟩) n c) 3 1 n (ints xs)]) (v := av4) (u := .slice (some ⟨b4, 0, none⟩) 1 1) (n := k) (m := 1) (xs := ints (xs.take (k * 1))) (ys := [.int .i64 x]) Tsl_22 (by decide) rfl rfl rfl rfl (fun w hs => hs.slOwn (.head _)) (by simp [Value.oneCell']) (by omega) (by simp only [maxLen]; omega) fun av5 hnav5 => ?_)
     refine Run.weak (H' := [.own (.slice (some ⟨b4, 0, none⟩) 1 1) 3 1 1 ([.int .i64 x]), .own av5 3 1 (k + 1) (ints (xs.take (k * 1) ++ [x])), .own (.slice (some ⟨gx, 0, none⟩) n c) 3 1 n (ints xs)]) (Some'.weak (.take (.takeEq (by simp [ints]) (.take (.nil _))))) ?_ ⟨_, _, rfl, fun _ => nofun, fun _ => nofun⟩
     refine Run.p (av5) rfl rfl ?_
     refine Run.done ?_
     refine Run.seq ?_
     obtain ⟨A9, hA9⟩ : ∃ A9, (if c = k then (some ⟨gx, 0, none⟩ : Option Addr) else (some ⟨gx, 0, none⟩ : Option Addr).map (·.add (k * 1))) = A9 := ⟨_, rfl⟩
     refine Run.region ?_
     refine Run.p (av5) rfl rfl ?_
     refine Run.p (.slice (some ⟨gx, 0, none⟩) n c) rfl rfl ?_
     refine Run.p (.int .i64 (((k : Nat) : Int))) rfl rfl ?_
     refine Run.y (.slice A9 (n - k) (c - k)) rfl (OpY.sliceLE (l := k) Tsl_22 rfl rfl rfl (by omega) hA9) ?_
     refine Run.step rfl (OpStep.append (H1 := [.own (.slice (some ⟨b4, 0, none⟩) 1 1) 3 1 1 ([.int .i64 x])]) (H2 := [.own (.slice (some ⟨gx, 0, none⟩) n c) 3 1 n (ints xs)]) (v := av5) (u := .slice A9 (n - k) (c - k)) (n := k + 1) (m := n - k) (xs := ints (xs.take (k * 1) ++ [x])) (ys := ints (xs.drop k)) Tsl_22 (by decide) rfl rfl rfl rfl (fun w hs => (by have h := (hs.slOwn (.tail _ (.tail _ (List.Mem.head _)))).dropG (m := k) (by omega) hA9; exact h)) (by exact ints_all _) (by omega) (by simp only [maxLen]; omega) fun av6 hnav6 => ?_)
     refine Run.weak (H' := [.own (.slice (some ⟨b4, 0, none⟩) 1 1) 3 1 1 ([.int .i64 x]), .own av6 3 1 (k + 1 + (n - k)) (ints (xs.take (k * 1) ++ [x] ++ xs.drop k)), .own (.slice (some ⟨gx, 0, none⟩) n c) 3 1 n (ints xs)]) (Some'.weak (.take (.takeEq (by simp [ints]) (.take (.nil _))))) ?_ ⟨_, _, rfl, fun _ => nofun, fun _ => nofun⟩
     refine Run.p (av6) rfl rfl ?_
     refine Run.done ?_
     refine Run.ret ?_
     refine ⟨av6, [.own av6 3 1 (k + 1 + (n - k)) (ints (xs.take (k * 1) ++ [x] ++ xs.drop k))], Out.one rfl rfl, (Some'.weak (.skip (.take (.nil _)))), ?_⟩
     exact ⟨_, _, by omega, rfl⟩
  ·refine Run.q (v := .bool false) rfl (OpQ.y (OpY.moveB rfl h11)) ?_
   have p11 := h11; try simp only [bs] at p11
   refine Run.pass rfl ?_
   refine Run.pass rfl ?_
   refine Run.pass rfl ?_
   refine Run.pass rfl ?_
   refine Run.pass rfl ?_
   refine Run.pass rfl ?_
   refine Run.p (.bool false) rfl rfl ?_
   refine Run.done ?_
   refine Run.cond (b := false) rfl (fun h => nomatch h) (fun _ => ?_)
   refine Run.exit rfl ?_
   refine Run.seq ?_
   refine Run.sr ?_
   refine Run.p (.int .i64 (((k : Nat) : Int))) rfl rfl ?_
   refine Run.p (.slice A n c) rfl rfl ?_
   refine Run.y (.int .i64 (((n : Nat) : Int))) rfl (OpY.len Tsl_22 rfl) ?_
   refine Run.p (.bool (decide ((((k : Nat) : Int)) < (((n : Nat) : Int))))) rfl rfl ?_
   rcases Bool.eq_false_or_eq_true (decide ((((k : Nat) : Int)) < (((n : Nat) : Int)))) with h25 | h25
   ·refine Run.q (v := .bool true) rfl (OpQ.y (OpY.moveB rfl h25)) ?_
    have p25 := h25; try simp only [bs] at p25
    have hkl : k < n := by omega
    refine Run.openOwn (.head _) (by omega) (fun gx cx hvgx hcapgx _ => ?_) (fun _ _ _ => ⟨nofun, nofun, nofun⟩)
    injection hvgx with hAgx _ hcgx; subst hAgx; subst hcgx
    refine Run.p (.slice (some ⟨gx, 0, none⟩) n c) rfl rfl ?_
    refine Run.p (.int .i64 (((k : Nat) : Int))) rfl rfl ?_
    refine Run.y (.pointer (some ⟨gx, k, none⟩)) rfl (OpY.index (kk := k) Tsl_22 rfl rfl (by omega) (by omega) (by first | rfl | omega)) ?_
    refine Run.y (.int .i64 (ix xs (k))) rfl (OpY.load1 Tone_3 rfl (Cells.own0 (.head _) (pre1 (by omega)))) ?_
    refine Run.p (.int .i64 x) rfl rfl ?_
    refine Run.p (.bool ((ix xs (k)) == x)) rfl rfl ?_
    refine Run.p (.bool ((ix xs (k)) == x)) rfl rfl ?_
    refine Run.done ?_
    refine Run.cond (b := (ix xs (k)) == x) rfl (fun h32 => ?_) (fun h32 => ?_)
    ·have p32 := h32; try simp only [bs] at p32
     refine Run.sr ?_
     refine Run.p (.slice (some ⟨gx, 0, none⟩) n c) rfl rfl ?_
     refine Run.p (.slice (some ⟨gx, 0, none⟩) n c) rfl rfl ?_
     refine Run.done ?_
     refine Run.ret ?_
     refine ⟨.slice (some ⟨gx, 0, none⟩) n c, [.own (.slice (some ⟨gx, 0, none⟩) n c) 3 1 n (ints xs)], Out.one rfl rfl, (Some'.weak (.take (.nil _))), ?_⟩
     exact ⟨_, _, by omega, rfl⟩
    ·have p32 := h32; try simp only [bs] at p32
     refine Run.skip ?_
     refine Run.sr ?_
     refine Run.step rfl (OpStep.buildSlice (us := []) Tsl_22 (by decide) (by decide) rfl rfl fun b5 => ?_)
     refine Run.p (.slice (some ⟨gx, 0, none⟩) n c) rfl rfl ?_
     refine Run.p (.int .i64 (((k : Nat) : Int))) rfl rfl ?_
     refine Run.y (.slice (some ⟨gx, 0, none⟩) k c) rfl (OpY.sliceHN (h := k) Tsl_22 rfl rfl (by omega) (by omega)) ?_
     refine Run.step rfl (OpStep.append (H1 := []) (H2 := [.own (.slice (some ⟨gx, 0, none⟩) n c) 3 1 n (ints xs)]) (v := .slice (some ⟨b5, 0, none⟩) 0 0) (u := .slice (some ⟨gx, 0, none⟩) k c) (n := 0) (m := k) (xs := []) (ys := ints (xs.take (k * 1))) Tsl_22 (by decide) rfl rfl rfl rfl (fun w hs => (by have h := (hs.slOwn (.tail _ (List.Mem.head _))).take (m := k) (by omega); exact h)) (by exact ints_all _) (by omega) (by simp only [maxLen]; omega) fun av7 hnav7 => ?_)
     refine Run.weak (H' := [.own av7 3 1 k (ints (xs.take (k * 1))), .own (.slice (some ⟨gx, 0, none⟩) n c) 3 1 n (ints xs)]) (Some'.weak (.takeEq (by simp) (.take (.nil _)))) ?_ ⟨_, _, rfl, fun _ => nofun, fun _ => nofun⟩
     refine Run.p (av7) rfl rfl ?_
     refine Run.dsr ?_
     refine Run.p (av7) rfl rfl ?_
     refine Run.p (.int .i64 x) rfl rfl ?_
     refine Run.step rfl (OpStep.buildSlice (us := [.int .i64 x]) Tsl_22 (by decide) (by decide) ⟨rfl, [.int .i64 x], _, rfl, rfl, rfl, rfl⟩ rfl fun b6 => ?_)
     refine Run.step rfl (OpStep.append (H1 := [.own (.slice (some ⟨b6, 0, none⟩) 1 1) 3 1 1 ([.int .i64 x])]) (H2 := [.own (.slice (some ⟨gx, 0, none⟩) n c) 3 1 n (ints xs)]) (v := av7) (u := .slice (some ⟨b6, 0, none⟩) 1 1) (n := k) (m := 1) (xs := ints (xs.take (k * 1))) (ys := [.int .i64 x]) Tsl_22 (by decide) rfl rfl rfl rfl (fun w hs => hs.slOwn (.head _)) (by simp [Value.oneCell']) (by omega) (by simp only [maxLen]; omega) fun av8 hnav8 => ?_)
     refine Run.weak (H' := [.own (.slice (some ⟨b6, 0, none⟩) 1 1) 3 1 1 ([.int .i64 x]), .own av8 3 1 (k + 1) (ints (xs.take (k * 1) ++ [x])), .own (.slice (some ⟨gx, 0, none⟩) n c) 3 1 n (ints xs)]) (Some'.weak (.take (.takeEq (by simp [ints]) (.take (.nil _))))) ?_ ⟨_, _, rfl, fun _ => nofun, fun _ => nofun⟩
     refine Run.p (av8) rfl rfl ?_
     refine Run.done ?_
     refine Run.seq ?_
     obtain ⟨A9, hA9⟩ : ∃ A9, (if c = k then (some ⟨gx, 0, none⟩ : Option Addr) else (some ⟨gx, 0, none⟩ : Option Addr).map (·.add (k * 1))) = A9 := ⟨_, rfl⟩
     refine Run.region ?_
     refine Run.p (av8) rfl rfl ?_
     refine Run.p (.slice (some ⟨gx, 0, none⟩) n c) rfl rfl ?_
     refine Run.p (.int .i64 (((k : Nat) : Int))) rfl rfl ?_
     refine Run.y (.slice A9 (n - k) (c - k)) rfl (OpY.sliceLE (l := k) Tsl_22 rfl rfl rfl (by omega) hA9) ?_
     refine Run.step rfl (OpStep.append (H1 := [.own (.slice (some ⟨b6, 0, none⟩) 1 1) 3 1 1 ([.int .i64 x])]) (H2 := [.own (.slice (some ⟨gx, 0, none⟩) n c) 3 1 n (ints xs)]) (v := av8) (u := .slice A9 (n - k) (c - k)) (n := k + 1) (m := n - k) (xs := ints (xs.take (k * 1) ++ [x])) (ys := ints (xs.drop k)) Tsl_22 (by decide) rfl rfl rfl rfl (fun w hs => (by have h := (hs.slOwn (.tail _ (.tail _ (List.Mem.head _)))).dropG (m := k) (by omega) hA9; exact h)) (by exact ints_all _) (by omega) (by simp only [maxLen]; omega) fun av9 hnav9 => ?_)
     refine Run.weak (H' := [.own (.slice (some ⟨b6, 0, none⟩) 1 1) 3 1 1 ([.int .i64 x]), .own av9 3 1 (k + 1 + (n - k)) (ints (xs.take (k * 1) ++ [x] ++ xs.drop k)), .own (.slice (some ⟨gx, 0, none⟩) n c) 3 1 n (ints xs)]) (Some'.weak (.take (.takeEq (by simp [ints]) (.take (.nil _))))) ?_ ⟨_, _, rfl, fun _ => nofun, fun _ => nofun⟩
     refine Run.p (av9) rfl rfl ?_
     refine Run.done ?_
     refine Run.ret ?_
     refine ⟨av9, [.own av9 3 1 (k + 1 + (n - k)) (ints (xs.take (k * 1) ++ [x] ++ xs.drop k))], Out.one rfl rfl, (Some'.weak (.skip (.take (.nil _)))), ?_⟩
     exact ⟨_, _, by omega, rfl⟩
   ·refine Run.q (v := .bool false) rfl (OpQ.y (OpY.moveB rfl h25)) ?_
    have p25 := h25; try simp only [bs] at p25
    refine Run.pass rfl ?_
    refine Run.pass rfl ?_
    refine Run.pass rfl ?_
    refine Run.pass rfl ?_
    refine Run.pass rfl ?_
    refine Run.pass rfl ?_
    refine Run.p (.bool false) rfl rfl ?_
    refine Run.done ?_
    refine Run.cond (b := false) rfl (fun h => nomatch h) (fun _ => ?_)
    refine Run.skip ?_
    refine Run.sr ?_
    refine Run.step rfl (OpStep.buildSlice (us := []) Tsl_22 (by decide) (by decide) rfl rfl fun b7 => ?_)
    refine Run.p (.slice A n c) rfl rfl ?_
    refine Run.p (.int .i64 (((k : Nat) : Int))) rfl rfl ?_
    refine Run.y (.slice A k c) rfl (OpY.sliceHN (h := k) Tsl_22 rfl rfl (by omega) (by omega)) ?_
    refine Run.step rfl (OpStep.append (H1 := []) (H2 := [.own (.slice A n c) 3 1 n (ints xs)]) (v := .slice (some ⟨b7, 0, none⟩) 0 0) (u := .slice A k c) (n := 0) (m := k) (xs := []) (ys := ints (xs.take (k * 1))) Tsl_22 (by decide) rfl rfl rfl rfl (fun w hs => (by have h := (hs.slOwn (.tail _ (List.Mem.head _))).take (m := k) (by omega); exact h)) (by exact ints_all _) (by omega) (by simp only [maxLen]; omega) fun av10 hnav10 => ?_)
    refine Run.weak (H' := [.own av10 3 1 k (ints (xs.take (k * 1))), .own (.slice A n c) 3 1 n (ints xs)]) (Some'.weak (.takeEq (by simp) (.take (.nil _)))) ?_ ⟨_, _, rfl, fun _ => nofun, fun _ => nofun⟩
    refine Run.p (av10) rfl rfl ?_
    refine Run.dsr ?_
    refine Run.p (av10) rfl rfl ?_
    refine Run.p (.int .i64 x) rfl rfl ?_
    refine Run.step rfl (OpStep.buildSlice (us := [.int .i64 x]) Tsl_22 (by decide) (by decide) ⟨rfl, [.int .i64 x], _, rfl, rfl, rfl, rfl⟩ rfl fun b8 => ?_)
    refine Run.step rfl (OpStep.append (H1 := [.own (.slice (some ⟨b8, 0, none⟩) 1 1) 3 1 1 ([.int .i64 x])]) (H2 := [.own (.slice A n c) 3 1 n (ints xs)]) (v := av10) (u := .slice (some ⟨b8, 0, none⟩) 1 1) (n := k) (m := 1) (xs := ints (xs.take (k * 1))) (ys := [.int .i64 x]) Tsl_22 (by decide) rfl rfl rfl rfl (fun w hs => hs.slOwn (.head _)) (by simp [Value.oneCell']) (by omega) (by simp only [maxLen]; omega) fun av11 hnav11 => ?_)
    refine Run.weak (H' := [.own (.slice (some ⟨b8, 0, none⟩) 1 1) 3 1 1 ([.int .i64 x]), .own av11 3 1 (k + 1) (ints (xs.take (k * 1) ++ [x])), .own (.slice A n c) 3 1 n (ints xs)]) (Some'.weak (.take (.takeEq (by simp [ints]) (.take (.nil _))))) ?_ ⟨_, _, rfl, fun _ => nofun, fun _ => nofun⟩
    refine Run.p (av11) rfl rfl ?_
    refine Run.done ?_
    refine Run.seq ?_
    obtain ⟨A9, hA9⟩ : ∃ A9, (if c = k then (A : Option Addr) else (A : Option Addr).map (·.add (k * 1))) = A9 := ⟨_, rfl⟩
    refine Run.region ?_
    refine Run.p (av11) rfl rfl ?_
    refine Run.p (.slice A n c) rfl rfl ?_
    refine Run.p (.int .i64 (((k : Nat) : Int))) rfl rfl ?_
    refine Run.y (.slice A9 (n - k) (c - k)) rfl (OpY.sliceLE (l := k) Tsl_22 rfl rfl rfl (by omega) hA9) ?_
    refine Run.step rfl (OpStep.append (H1 := [.own (.slice (some ⟨b8, 0, none⟩) 1 1) 3 1 1 ([.int .i64 x])]) (H2 := [.own (.slice A n c) 3 1 n (ints xs)]) (v := av11) (u := .slice A9 (n - k) (c - k)) (n := k + 1) (m := n - k) (xs := ints (xs.take (k * 1) ++ [x])) (ys := ints (xs.drop k)) Tsl_22 (by decide) rfl rfl rfl rfl (fun w hs => (by have h := (hs.slOwn (.tail _ (.tail _ (List.Mem.head _)))).dropG (m := k) (by omega) hA9; exact h)) (by exact ints_all _) (by omega) (by simp only [maxLen]; omega) fun av12 hnav12 => ?_)
    refine Run.weak (H' := [.own (.slice (some ⟨b8, 0, none⟩) 1 1) 3 1 1 ([.int .i64 x]), .own av12 3 1 (k + 1 + (n - k)) (ints (xs.take (k * 1) ++ [x] ++ xs.drop k)), .own (.slice A n c) 3 1 n (ints xs)]) (Some'.weak (.take (.takeEq (by simp [ints]) (.take (.nil _))))) ?_ ⟨_, _, rfl, fun _ => nofun, fun _ => nofun⟩
    refine Run.p (av12) rfl rfl ?_
    refine Run.done ?_
    refine Run.ret ?_
    refine ⟨av12, [.own av12 3 1 (k + 1 + (n - k)) (ints (xs.take (k * 1) ++ [x] ++ xs.drop k))], Out.one rfl rfl, (Some'.weak (.skip (.take (.nil _)))), ?_⟩
    exact ⟨_, _, by omega, rfl⟩

set_option maxHeartbeats 1000000 in
set_option maxRecDepth 20000 in
theorem masks_spec {N : Nat} {bc n : Nat} {vc : Value} {cs : List Int} {s : Nat × Int} {w : World} (hN : 1 ≤ N ∧ N ≤ 5) (hat : s.1 < 2305843009213000000) (hc : Cur w bc vc n cs) (hst : St (Of [.blk bc 84 [vc, .int .i64 (((s.1 : Nat) : Int)), .int .u64 (s.2)]]) w w [.blk bc 84 [vc, .int .i64 (((s.1 : Nat) : Int)), .int .u64 (s.2)]]) : Calls Try.prog 80 #[.pointer (some ⟨bc, 0, none⟩), .int .i64 (N : Nat)] w (Post (Of [.blk bc 84 [vc, .int .i64 (((s.1 : Nat) : Int)), .int .u64 (s.2)]]) w fun v H => ∃ (g : Nat) (gx : List Int) (s1 : Nat × Int), (g ≤ 8 ∧ s1.1 ≤ s.1 + 60) ∧ H = [.own v 3 1 g (ints gx), .blk bc 84 [vc, .int .i64 (s1.1 : Nat), .int .u64 s1.2]]) := by
 obtain ⟨q, hq⟩ : ∃ q : Nat, q = 2 ^ N := ⟨_, rfl⟩
 have hq32 : q ≤ 32 := by rw [hq]; exact Nat.le_trans (Nat.pow_le_pow_right (by omega) hN.2) (by decide)
 have hq1 : 1 ≤ q := by rw [hq]; exact Nat.two_pow_pos _
 refine enter (n := 34) (args := [.pointer (some ⟨bc, 0, none⟩), .int .i64 (((N : Nat) : Int))]) Try.func80 rfl rfl (hst) ?_
 refine Run.sr ?_
 refine Run.p (.slice none 0 0) rfl rfl ?_
 refine Run.dsr ?_
 refine Run.p (.slice none 0 0) rfl rfl ?_
 refine Run.done ?_
 refine Run.seq ?_
 refine Run.sr ?_
 refine Run.p (.pointer (some ⟨bc, 0, none⟩)) rfl rfl ?_
 refine Run.step rfl (OpStep.callM (H1 := [.blk bc 84 [vc, .int .i64 (((s.1 : Nat) : Int)), .int .u64 (s.2)]]) (H2 := []) (vs := [.pointer (some ⟨bc, 0, none⟩), .int .i64 7]) (caps := []) Tcall_64 rfl rfl (Weak.refl _) (fun w hs => pick_ex (by omega) (hc.go hs) (hs.sub (List.sublist_append_left _ _)).self) ?_)
 rintro _ _ ⟨x1, s1, hx1, hs1, rfl, rfl⟩
 show Run _ _ (putF _ _ _ (.int .i64 x1)) [.blk bc 84 [vc, .int .i64 (((s1.1 : Nat) : Int)), .int .u64 (s1.2)]]
 refine Run.p (.int .i64 x1) rfl rfl ?_
 refine Run.done ?_
 obtain ⟨i0, hi0⟩ : ∃ i0 : Nat, x1 = ((i0 : Nat) : Int) := ⟨(x1).toNat, by omega⟩
 rw [hi0]
 refine Run.weak (H' := [.own (.slice none 0 0) 3 1 0 ([]), .blk bc 84 [vc, .int .i64 (((s1.1 : Nat) : Int)), .int .u64 (s1.2)]]) (Weak.nilOwn _ _) ?_ ⟨_, _, rfl, fun _ => nofun, fun _ => nofun⟩
 refine Run.block ?_
 refine Run.loop (ι := Nat × (Nat × Int) × Nat × List Int × Value) [5, 6, 9, 10, 11, 12, 13, 14, 15, 16, 17, 18, 19, 20, 21] (fun ⟨i, sc, g, gx, vl⟩ => [(5, vl), (6, .int .i64 (((i : Nat) : Int)))]) (fun ⟨i, sc, g, gx, vl⟩ => [.own vl 3 1 g (ints gx), .blk bc 84 [vc, .int .i64 (((sc.1 : Nat) : Int)), .int .u64 (sc.2)]]) (fun ⟨i, sc, g, gx, vl⟩ => g + i ≤ 7 ∧ sc.1 + 4 * i ≤ s.1 + 40) (fun ⟨i, sc, g, gx, vl⟩ => i) (i0, s1, 0, [], .slice none 0 0) ?_ ?_ ?_ ?_
 ·exact ⟨by omega, by omega⟩
 ·exact ⟨rfl, rfl, trivial⟩
 ·exact ((Weak.refl _).trans (Some'.weak (.takeEq (by first | rfl | simp) (.takeEq (by first | rfl | simp) (.nil _)))))
 ·rintro ⟨i, sc, g, gx, vl⟩ fr hinv
  show Run _ _ (over _ _ [(5, vl), (6, .int .i64 (((i : Nat) : Int)))] fr) [.own vl 3 1 g (ints gx), .blk bc 84 [vc, .int .i64 (((sc.1 : Nat) : Int)), .int .u64 (sc.2)]]
  try dsimp only at hinv
  obtain ⟨hgi, hsi⟩ := hinv
  refine Run.seq ?_
  refine Run.sr ?_
  refine Run.p (.int .i64 (((i : Nat) : Int))) rfl rfl ?_
  refine Run.p (.bool (decide ((((i : Nat) : Int)) > 0))) rfl rfl ?_
  refine Run.done ?_
  refine Run.cond (b := decide ((((i : Nat) : Int)) > 0)) rfl (fun h10 => ?_) (fun h10 => ?_)
  ·have p10 := h10; try simp only [bs] at p10
   refine Run.skip ?_
   refine Run.seq ?_
   refine Run.block ?_
   refine Run.region ?_
   refine Run.p (vl) rfl rfl ?_
   refine Run.p (.pointer (some ⟨bc, 0, none⟩)) rfl rfl ?_
   refine Run.p (.int .i64 (((N : Nat) : Int))) rfl rfl ?_
   refine Run.y (.int .u64 (((N : Nat) : Int))) rfl (OpY.convIntEq Tsome_3 Tint_96 rfl (by rw [IntKind.wrap_u64]; omega)) ?_
   refine Run.y (.int .i64 (((q : Nat) : Int))) rfl (OpY.shlOne rfl rfl rfl (by omega) hq) ?_
   refine Run.y (.int .i64 ((((q : Nat) : Int)) - 1)) rfl (OpY.sub rfl rfl rfl (by omega) (by omega)) ?_
   refine Run.step rfl (OpStep.callM (H1 := [.blk bc 84 [vc, .int .i64 (((sc.1 : Nat) : Int)), .int .u64 (sc.2)]]) (H2 := [.own vl 3 1 g (ints gx)]) (vs := [.pointer (some ⟨bc, 0, none⟩), .int .i64 ((((q : Nat) : Int)) - 1)]) (caps := []) Tcall_64 rfl rfl (Weak.selF [1]) (fun w hs => pick_ex (by omega) (hc.go hs) (hs.sub (List.sublist_append_left _ _)).self) ?_)
   rintro _ _ ⟨x2, s2, hx2, hs2, rfl, rfl⟩
   show Run _ _ (putF _ _ _ (.int .i64 x2)) [.blk bc 84 [vc, .int .i64 (((s2.1 : Nat) : Int)), .int .u64 (s2.2)], .own vl 3 1 g (ints gx)]
   refine Run.y (.int .i64 (1 + x2)) rfl (OpY.add rfl rfl rfl (by omega) (by omega)) ?_
   refine Run.step rfl (OpStep.callM (H1 := [.own vl 3 1 g (ints gx)]) (H2 := [.blk bc 84 [vc, .int .i64 (((s2.1 : Nat) : Int)), .int .u64 (s2.2)]]) (vs := [vl, .int .i64 (1 + x2)]) (caps := []) Tcall_114 rfl rfl (Weak.selF [1]) (fun w hs => l1Put_spec (by omega) (hs.holds _ (.head _))) ?_)
   rintro up1 _ ⟨gg1, gx1, hgg1, rfl⟩
   show Run _ _ (putF _ _ _ up1) [.own up1 3 1 gg1 (ints gx1), .blk bc 84 [vc, .int .i64 (((s2.1 : Nat) : Int)), .int .u64 (s2.2)]]
   refine Run.p (up1) rfl rfl ?_
   refine Run.done ?_
   refine Run.blockEnd ?_
   refine Run.region ?_
   refine Run.p (.int .i64 (((i : Nat) : Int))) rfl rfl ?_
   refine Run.y (.int .i64 ((((i : Nat) : Int)) - 1)) rfl (OpY.sub rfl rfl rfl (by omega) (by omega)) ?_
   refine Run.p (.int .i64 ((((i : Nat) : Int)) - 1)) rfl rfl ?_
   refine Run.done ?_
   refine Run.goal ⟨(by repeat (first | exact Same.refl _ _ | refine Same.put rfl ?_ | refine Same.over rfl rfl ?_)), (i - 1, s2, gg1, gx1, up1), ?_, ?_, ?_, ?_⟩
   ·exact ⟨by omega, by omega⟩
   ·show i - 1 < i; omega
   ·exact ⟨(by first | rfl | (congr 1; omega) | simp), (by show Value.int _ _ = Value.int _ _; congr 1; omega), trivial⟩
   ·exact ((Weak.refl _).trans (Some'.weak (.takeEq (by first | rfl | simp) (.takeEq (by first | rfl | simp) (.nil _)))))
  ·have p10 := h10; try simp only [bs] at p10
   refine Run.exit rfl ?_
   refine Run.seq ?_
   refine Run.sr ?_
   refine Run.p (.pointer (some ⟨bc, 0, none⟩)) rfl rfl ?_
   refine Run.step rfl (OpStep.callM (H1 := [.blk bc 84 [vc, .int .i64 (((sc.1 : Nat) : Int)), .int .u64 (sc.2)]]) (H2 := [.own vl 3 1 g (ints gx)]) (vs := [.pointer (some ⟨bc, 0, none⟩), .int .i64 12]) (caps := []) Tcall_62 rfl rfl (Weak.selF [1]) (fun w hs => one_ex (by omega) (hc.go hs) (hs.sub (List.sublist_append_left _ _)).self) ?_)
   rintro _ _ ⟨x3, s3, hs3, rfl, rfl⟩
   show Run _ _ (putF _ _ _ (.bool x3)) [.blk bc 84 [vc, .int .i64 (((s3.1 : Nat) : Int)), .int .u64 (s3.2)], .own vl 3 1 g (ints gx)]
   refine Run.done ?_
   refine Run.cond (b := x3) rfl (fun h23 => ?_) (fun h23 => ?_)
   ·have p23 := h23; try simp only [bs] at p23
    refine Run.region ?_
    refine Run.p (vl) rfl rfl ?_
    refine Run.p (.pointer (some ⟨bc, 0, none⟩)) rfl rfl ?_
    refine Run.p (.int .i64 (((N : Nat) : Int))) rfl rfl ?_
    refine Run.y (.int .u64 (((N : Nat) : Int))) rfl (OpY.convIntEq Tsome_3 Tint_96 rfl (by rw [IntKind.wrap_u64]; omega)) ?_
    refine Run.y (.int .i64 (((q : Nat) : Int))) rfl (OpY.shlOne rfl rfl rfl (by omega) hq) ?_
    refine Run.step rfl (OpStep.buildSlice (us := [.int .i64 0, .int .i64 1, .int .i64 (((q : Nat) : Int))]) Tsl_22 (by decide) (by decide) ⟨rfl, [.int .i64 0], _, rfl, rfl, rfl, ⟨rfl, [.int .i64 1], _, rfl, rfl, rfl, ⟨rfl, [.int .i64 (((q : Nat) : Int))], _, rfl, rfl, rfl, rfl⟩⟩⟩ rfl fun b1 => ?_)
    refine Run.step rfl (OpStep.callM (H1 := [.blk bc 84 [vc, .int .i64 (((s3.1 : Nat) : Int)), .int .u64 (s3.2)], .own (.slice (some ⟨b1, 0, none⟩) 3 3) 3 1 3 (ints [0, 1, ((q : Nat) : Int)])]) (H2 := [.own vl 3 1 g (ints gx)]) (vs := [.pointer (some ⟨bc, 0, none⟩), .slice (some ⟨b1, 0, none⟩) 3 3]) (caps := []) Tcall_65 rfl rfl (Weak.selF [1, 0]) (fun w hs => among_spec (by omega) (by decide) (hc.go hs) (hc.apart hs (.tail _ (.head _))) (hs.sub (List.sublist_append_left _ _)).self) ?_)
    rintro _ _ ⟨i9, s9, hi9, hs9, rfl, rfl⟩
    show Run _ _ (putF _ _ _ (.int .i64 (ix [0, 1, ((q : Nat) : Int)] i9))) [.blk bc 84 [vc, .int .i64 (((s9.1 : Nat) : Int)), .int .u64 (s9.2)], .own vl 3 1 g (ints gx)]
    refine Run.step rfl (OpStep.buildSlice (us := [.int .i64 (ix [0, 1, ((q : Nat) : Int)] i9)]) Tsl_22 (by decide) (by decide) ⟨rfl, [.int .i64 (ix [0, 1, ((q : Nat) : Int)] i9)], _, rfl, rfl, rfl, rfl⟩ rfl fun b2 => ?_)
    refine Run.step rfl (OpStep.append (H1 := [.own (.slice (some ⟨b2, 0, none⟩) 1 1) 3 1 1 ([.int .i64 (ix [0, 1, ((q : Nat) : Int)] i9)]), .blk bc 84 [vc, .int .i64 (((s9.1 : Nat) : Int)), .int .u64 (s9.2)]]) (H2 := []) (v := vl) (u := .slice (some ⟨b2, 0, none⟩) 1 1) (n := g) (m := 1) (xs := ints gx) (ys := [.int .i64 (ix [0, 1, ((q : Nat) : Int)] i9)]) Tsl_22 (by decide) rfl rfl rfl rfl (fun w hs => hs.slOwn (.head _)) (by simp [Value.oneCell']) (by omega) (by simp only [maxLen]; omega) fun av1 hnav1 => ?_)
    refine Run.weak (H' := [.own (.slice (some ⟨b2, 0, none⟩) 1 1) 3 1 1 ([.int .i64 (ix [0, 1, ((q : Nat) : Int)] i9)]), .blk bc 84 [vc, .int .i64 (((s9.1 : Nat) : Int)), .int .u64 (s9.2)], .own av1 3 1 (g + 1) (ints (gx ++ [ix [0, 1, ((q : Nat) : Int)] i9]))]) (Some'.weak (.take (.take (.takeEq (by simp [ints]) (.nil _))))) ?_ ⟨_, _, rfl, fun _ => nofun, fun _ => nofun⟩
    refine Run.p (av1) rfl rfl ?_
    refine Run.dsr ?_
    refine Run.p (av1) rfl rfl ?_
    refine Run.p (av1) rfl rfl ?_
    refine Run.done ?_
    refine Run.ret ?_
    refine ⟨av1, [.own av1 3 1 (g + 1) (ints (gx ++ [ix [0, 1, ((q : Nat) : Int)] i9])), .blk bc 84 [vc, .int .i64 (((s9.1 : Nat) : Int)), .int .u64 (s9.2)]], Out.one rfl rfl, ((Weak.selF [2, 1]).trans (Some'.weak (.take (.take (.nil _))))), ?_⟩
    exact ⟨_, _, _, ⟨by omega, by omega⟩, rfl⟩
   ·have p23 := h23; try simp only [bs] at p23
    refine Run.skip ?_
    refine Run.sr ?_
    refine Run.p (vl) rfl rfl ?_
    refine Run.p (vl) rfl rfl ?_
    refine Run.done ?_
    refine Run.ret ?_
    refine ⟨vl, [.own vl 3 1 g (ints gx), .blk bc 84 [vc, .int .i64 (((s3.1 : Nat) : Int)), .int .u64 (s3.2)]], Out.one rfl rfl, ((Weak.selF [1, 0]).trans (Some'.weak (.take (.take (.nil _))))), ?_⟩
    exact ⟨_, _, _, ⟨by omega, by omega⟩, rfl⟩

set_option maxHeartbeats 2000000 in
set_option maxRecDepth 20000 in
theorem DrawGrayNetwork_spec {va : Value} {n : Nat} {cs : List Int} {w : World} (ha : Sl w va 1 n (u8s cs)) (hby : ∀ x ∈ cs, 0 ≤ x ∧ x < 256) : Calls Try.prog 40 #[va] w (Post No w fun v H => ∃ (M : Nat) (vl : Value) (g : Nat) (gx : List Int), (M ≤ 6 ∧ g ≤ 40) ∧ v = .tuple #[.int .i64 (M : Nat), vl] ∧ H = [.own vl 3 1 g (ints gx)]) := by
 obtain ⟨Ac, cc, rfl, _, _⟩ := ha.form0
 refine enter (n := 38) (args := [.slice Ac n cc]) Try.func40 rfl rfl (St.empty _ _) ?_
 refine Run.sr ?_
 refine Run.p (.int .i64 0) rfl rfl ?_
 refine Run.p (.slice none 0 0) rfl rfl ?_
 refine Run.dsr ?_
 refine Run.p (.slice Ac n cc) rfl rfl ?_
 refine Run.y (.agg #[.slice Ac n cc, .int .i64 0, .int .u64 0]) rfl (OpY.build (cs := [.slice Ac n cc, .int .i64 0, .int .u64 0]) (by kernel_rfl)) ?_
 refine Run.step rfl (OpStep.box (us := [.slice Ac n cc, .int .i64 0, .int .u64 0]) rfl fun b1 => ?_)
 refine Run.p (.pointer (some ⟨b1, 0, none⟩)) rfl rfl ?_
 refine Run.dsr ?_
 refine Run.p (.pointer (some ⟨b1, 0, none⟩)) rfl rfl ?_
 refine Run.step rfl (OpStep.callM (H1 := [.blk b1 84 [.slice Ac n cc, .int .i64 0, .int .u64 0]]) (H2 := []) (vs := [.pointer (some ⟨b1, 0, none⟩), .int .i64 5]) (caps := []) Tcall_64 rfl rfl (Weak.refl _) (fun w hs => pick_ex (s := (0, 0)) (by decide) (Cur.top ha hby hs (.head _)) (hs.sub (List.sublist_append_left _ _)).self) ?_)
 rintro _ _ ⟨x1, s1, hx1, hs1, rfl, rfl⟩
 show Run _ _ (putF _ _ _ (.int .i64 x1)) [.blk b1 84 [.slice Ac n cc, .int .i64 (((s1.1 : Nat) : Int)), .int .u64 (s1.2)]]
 have es1 : ((0 : Nat), (0 : Int)).1 = 0 := rfl
 refine Run.y (.int .i64 (1 + x1)) rfl (OpY.add rfl rfl rfl (by omega) (by omega)) ?_
 refine Run.p (.int .i64 (1 + x1)) rfl rfl ?_
 refine Run.done ?_
 obtain ⟨N0, hN0⟩ : ∃ N0 : Nat, 1 + x1 = ((N0 : Nat) : Int) := ⟨(1 + x1).toNat, by omega⟩
 rw [hN0]
 refine Run.sr ?_
 refine Run.p (.pointer (some ⟨b1, 0, none⟩)) rfl rfl ?_
 refine Run.p (.int .i64 (((N0 : Nat) : Int))) rfl rfl ?_
 refine Run.step rfl (OpStep.callM (H1 := [.blk b1 84 [.slice Ac n cc, .int .i64 (((s1.1 : Nat) : Int)), .int .u64 (s1.2)]]) (H2 := []) (vs := [.pointer (some ⟨b1, 0, none⟩), .int .i64 (((N0 : Nat) : Int))]) (caps := []) Tcall_80 rfl rfl (Weak.refl _) (fun w hs => masks_spec (N := N0) (s := s1) (by omega) (by omega) (Cur.top ha hby hs (.head _)) (hs.sub (List.sublist_append_left _ _)).self) ?_)
 rintro um1 _ ⟨gm1, xm1, sm1, ⟨hgm1, hsm1⟩, rfl⟩
 show Run _ _ (putF _ _ _ um1) [.own um1 3 1 gm1 (ints xm1), .blk b1 84 [.slice Ac n cc, .int .i64 (((sm1.1 : Nat) : Int)), .int .u64 (sm1.2)]]
 refine Run.p (um1) rfl rfl ?_
 refine Run.done ?_
 refine Run.seq ?_
 refine Run.sr ?_
 refine Run.p (.pointer (some ⟨b1, 0, none⟩)) rfl rfl ?_
 refine Run.step rfl (OpStep.callM (H1 := [.blk b1 84 [.slice Ac n cc, .int .i64 (((sm1.1 : Nat) : Int)), .int .u64 (sm1.2)]]) (H2 := [.own um1 3 1 gm1 (ints xm1)]) (vs := [.pointer (some ⟨b1, 0, none⟩), .int .i64 16]) (caps := []) Tcall_62 rfl rfl (Weak.selF [1]) (fun w hs => one_ex (s := sm1) (by omega) (Cur.top ha hby hs (.head _)) (hs.sub (List.sublist_append_left _ _)).self) ?_)
 rintro _ _ ⟨x2, s2, hs2, rfl, rfl⟩
 show Run _ _ (putF _ _ _ (.bool x2)) [.blk b1 84 [.slice Ac n cc, .int .i64 (((s2.1 : Nat) : Int)), .int .u64 (s2.2)], .own um1 3 1 gm1 (ints xm1)]
 refine Run.done ?_
 refine Run.cut (ι := Nat × (Nat × Int)) [5, 19, 20, 21] (fun ⟨M, sc⟩ => [(5, .int .i64 (((M : Nat) : Int)))]) (fun ⟨M, sc⟩ => [.own um1 3 1 gm1 (ints xm1), .blk b1 84 [.slice Ac n cc, .int .i64 (((sc.1 : Nat) : Int)), .int .u64 (sc.2)]]) (fun ⟨M, sc⟩ => M ≤ 6 ∧ sc.1 ≤ 200) ?_ ?_
 ·refine Run.cond (b := x2) rfl (fun h18 => ?_) (fun h18 => ?_)
  ·have p18 := h18; try simp only [bs] at p18
   refine Run.region ?_
   refine Run.p (.pointer (some ⟨b1, 0, none⟩)) rfl rfl ?_
   refine Run.step rfl (OpStep.buildSlice (us := [.int .i64 0, .int .i64 6, .int .i64 1]) Tsl_22 (by decide) (by decide) ⟨rfl, [.int .i64 0], _, rfl, rfl, rfl, ⟨rfl, [.int .i64 6], _, rfl, rfl, rfl, ⟨rfl, [.int .i64 1], _, rfl, rfl, rfl, rfl⟩⟩⟩ rfl fun b2 => ?_)
   refine Run.step rfl (OpStep.callM (H1 := [.blk b1 84 [.slice Ac n cc, .int .i64 (((s2.1 : Nat) : Int)), .int .u64 (s2.2)], .own (.slice (some ⟨b2, 0, none⟩) 3 3) 3 1 3 (ints [0, 6, 1])]) (H2 := [.own um1 3 1 gm1 (ints xm1)]) (vs := [.pointer (some ⟨b1, 0, none⟩), .slice (some ⟨b2, 0, none⟩) 3 3]) (caps := []) Tcall_65 rfl rfl (Weak.selF [1, 0]) (fun w hs => among_spec (s := s2) (by omega) (by decide) (Cur.top ha hby hs (.head _)) (Cur.apart0 ha hs (.tail _ (.head _))) (hs.sub (List.sublist_append_left _ _)).self) ?_)
   rintro _ _ ⟨i1, s3, hi1, hs3, rfl, rfl⟩
   show Run _ _ (putF _ _ _ (.int .i64 (ix [0, 6, 1] i1))) [.blk b1 84 [.slice Ac n cc, .int .i64 (((s3.1 : Nat) : Int)), .int .u64 (s3.2)], .own um1 3 1 gm1 (ints xm1)]
   have hixi1 : 0 ≤ ix [0, 6, 1] i1 ∧ ix [0, 6, 1] i1 ≤ 6 := by
    rcases (by omega : i1 = 0 ∨ i1 = 1 ∨ i1 = 2) with rfl | rfl | rfl <;> simp [ix]
   refine Run.p (.int .i64 (ix [0, 6, 1] i1)) rfl rfl ?_
   refine Run.done ?_
   obtain ⟨M1, hM1⟩ : ∃ M1 : Nat, ix [0, 6, 1] i1 = ((M1 : Nat) : Int) := ⟨(ix [0, 6, 1] i1).toNat, by omega⟩
   rw [hM1]
   refine Run.goal ⟨(by repeat (first | exact Same.refl _ _ | refine Same.put rfl ?_ | refine Same.over rfl rfl ?_)), (M1, s3), ?_, ?_, ?_⟩
   ·exact ⟨by omega, by omega⟩
   ·exact ⟨(by first | rfl | (congr 1; omega) | simp [*]), trivial⟩
   ·exact ((Weak.selF [1, 0]).trans (Some'.weak (.takeEq (by first | rfl | simp) (.takeEq (by first | rfl | simp) (.nil _)))))
  ·have p18 := h18; try simp only [bs] at p18
   refine Run.skip ?_
   refine Run.goal ⟨(by repeat (first | exact Same.refl _ _ | refine Same.put rfl ?_ | refine Same.over rfl rfl ?_)), (N0, s2), ?_, ?_, ?_⟩
   ·exact ⟨by omega, by omega⟩
   ·exact ⟨(by first | rfl | (congr 1; omega) | simp [*]), trivial⟩
   ·exact ((Weak.selF [1, 0]).trans (Some'.weak (.takeEq (by first | rfl | simp) (.takeEq (by first | rfl | simp) (.nil _)))))
 ·rintro ⟨M, sc⟩ fr hcut
  show Run _ _ (over _ _ [(5, .int .i64 (((M : Nat) : Int)))] fr) [.own um1 3 1 gm1 (ints xm1), .blk b1 84 [.slice Ac n cc, .int .i64 (((sc.1 : Nat) : Int)), .int .u64 (sc.2)]]
  obtain ⟨hM6, hsc⟩ := hcut
  refine Run.seq ?_
  refine Run.sr ?_
  refine Run.p (.pointer (some ⟨b1, 0, none⟩)) rfl rfl ?_
  refine Run.step rfl (OpStep.callM (H1 := [.blk b1 84 [.slice Ac n cc, .int .i64 (((sc.1 : Nat) : Int)), .int .u64 (sc.2)]]) (H2 := [.own um1 3 1 gm1 (ints xm1)]) (vs := [.pointer (some ⟨b1, 0, none⟩), .int .i64 10]) (caps := []) Tcall_62 rfl rfl (Weak.selF [1]) (fun w hs => one_ex (s := sc) (by omega) (Cur.top ha hby hs (.head _)) (hs.sub (List.sublist_append_left _ _)).self) ?_)
  rintro _ _ ⟨x3, s4, hs4, rfl, rfl⟩
  show Run _ _ (putF _ _ _ (.bool x3)) [.blk b1 84 [.slice Ac n cc, .int .i64 (((s4.1 : Nat) : Int)), .int .u64 (s4.2)], .own um1 3 1 gm1 (ints xm1)]
  refine Run.done ?_
  refine Run.cond (b := x3) rfl (fun h23 => ?_) (fun h23 => ?_)
  ·have p23 := h23; try simp only [bs] at p23
   refine Run.sr ?_
   refine Run.p (.slice none 0 0) rfl rfl ?_
   refine Run.done ?_
   refine Run.weak (H' := [.own (.slice none 0 0) 3 1 0 ([]), .blk b1 84 [.slice Ac n cc, .int .i64 (((s4.1 : Nat) : Int)), .int .u64 (s4.2)], .own um1 3 1 gm1 (ints xm1)]) (Weak.nilOwn _ _) ?_ ⟨_, _, rfl, fun _ => nofun, fun _ => nofun⟩
   obtain ⟨q, hq⟩ : ∃ q : Nat, q = 2 ^ (max 1 (min M 5)) := ⟨_, rfl⟩
   have hq32 : q ≤ 32 := by rw [hq]; exact Nat.le_trans (Nat.pow_le_pow_right (by omega) (in1_le M)) (by decide)
   have hq1 : 1 ≤ q := by rw [hq]; exact Nat.two_pow_pos _
   have hin1 := in1_le M
   refine Run.sr ?_
   refine Run.p (.int .i64 1) rfl rfl ?_
   refine Run.done ?_
   refine Run.block ?_
   refine Run.loop (ι := Nat × List Int × Value) [6, 7, 24, 25, 26, 27, 28, 29, 30, 31, 32, 33, 34, 35] (fun ⟨j, gx, vl⟩ => [(6, vl), (7, .int .i64 (((j + 1 : Nat) : Int)))]) (fun ⟨j, gx, vl⟩ => [.own vl 3 1 j (ints gx), .blk b1 84 [.slice Ac n cc, .int .i64 (((s4.1 : Nat) : Int)), .int .u64 (s4.2)]]) (fun ⟨j, gx, vl⟩ => j + 1 ≤ q) (fun ⟨j, gx, vl⟩ => q - j) (0, [], .slice none 0 0) ?_ ?_ ?_ ?_
   ·exact hq1
   ·exact ⟨rfl, rfl, trivial⟩
   ·exact ((Weak.refl _).trans (Some'.weak (.takeEq (by first | rfl | simp) (.take (.nil _)))))
   ·rintro ⟨j, gx, vl⟩ fr hinv
    show Run _ _ (over _ _ [(6, vl), (7, .int .i64 (((j + 1 : Nat) : Int)))] fr) [.own vl 3 1 j (ints gx), .blk b1 84 [.slice Ac n cc, .int .i64 (((s4.1 : Nat) : Int)), .int .u64 (s4.2)]]
    try dsimp only at hinv
    refine Run.seq ?_
    refine Run.sr ?_
    refine Run.p (.int .i64 (((j + 1 : Nat) : Int))) rfl rfl ?_
    refine Run.p (.int .i64 (((M : Nat) : Int))) rfl rfl ?_
    refine Run.q (v := .int .i64 (((max 1 (min M 5) : Nat) : Int))) rfl (OpQ.call (vs := [.int .i64 (((M : Nat) : Int))]) (caps := []) Tcall_81 rfl rfl (fun w hs => l1In1_spec M w)) ?_
    refine Run.y (.int .u64 (((max 1 (min M 5) : Nat) : Int))) rfl (OpY.convIntEq Tsome_3 Tint_96 rfl (by rw [IntKind.wrap_u64]; omega)) ?_
    refine Run.y (.int .i64 (((q : Nat) : Int))) rfl (OpY.shlOne rfl rfl rfl (by omega) hq) ?_
    refine Run.p (.bool (decide ((((j + 1 : Nat) : Int)) < (((q : Nat) : Int))))) rfl rfl ?_
    refine Run.done ?_
    refine Run.cond (b := decide ((((j + 1 : Nat) : Int)) < (((q : Nat) : Int)))) rfl (fun h29 => ?_) (fun h29 => ?_)
    ·have p29 := h29; try simp only [bs] at p29
     refine Run.skip ?_
     refine Run.seq ?_
     refine Run.block ?_
     refine Run.region ?_
     refine Run.p (vl) rfl rfl ?_
     refine Run.p (.int .i64 (((j + 1 : Nat) : Int))) rfl rfl ?_
     refine Run.step rfl (OpStep.buildSlice (us := [.int .i64 (((j + 1 : Nat) : Int))]) Tsl_22 (by decide) (by decide) ⟨rfl, [.int .i64 (((j + 1 : Nat) : Int))], _, rfl, rfl, rfl, rfl⟩ rfl fun b3 => ?_)
     refine Run.step rfl (OpStep.append (H1 := [.own (.slice (some ⟨b3, 0, none⟩) 1 1) 3 1 1 ([.int .i64 (((j + 1 : Nat) : Int))])]) (H2 := [.blk b1 84 [.slice Ac n cc, .int .i64 (((s4.1 : Nat) : Int)), .int .u64 (s4.2)]]) (v := vl) (u := .slice (some ⟨b3, 0, none⟩) 1 1) (n := j) (m := 1) (xs := ints gx) (ys := [.int .i64 (((j + 1 : Nat) : Int))]) Tsl_22 (by decide) rfl rfl rfl rfl (fun w hs => hs.slOwn (.head _)) (by simp [Value.oneCell']) (by omega) (by simp only [maxLen]; omega) fun av1 hnav1 => ?_)
     refine Run.weak (H' := [.own (.slice (some ⟨b3, 0, none⟩) 1 1) 3 1 1 ([.int .i64 (((j + 1 : Nat) : Int))]), .own av1 3 1 (j + 1) (ints (gx ++ [((j + 1 : Nat) : Int)])), .blk b1 84 [.slice Ac n cc, .int .i64 (((s4.1 : Nat) : Int)), .int .u64 (s4.2)]]) (Some'.weak (.take (.takeEq (by simp [ints]) (.take (.nil _))))) ?_ ⟨_, _, rfl, fun _ => nofun, fun _ => nofun⟩
     refine Run.p (av1) rfl rfl ?_
     refine Run.done ?_
     refine Run.blockEnd ?_
     refine Run.region ?_
     refine Run.p (.int .i64 (((j + 1 : Nat) : Int))) rfl rfl ?_
     refine Run.y (.int .i64 ((((j + 1 : Nat) : Int)) + 1)) rfl (OpY.add rfl rfl rfl (by omega) (by omega)) ?_
     refine Run.p (.int .i64 ((((j + 1 : Nat) : Int)) + 1)) rfl rfl ?_
     refine Run.done ?_
     refine Run.goal ⟨(by repeat (first | exact Same.refl _ _ | refine Same.put rfl ?_ | refine Same.over rfl rfl ?_)), (j + 1, (gx ++ [((j + 1 : Nat) : Int)]), av1), ?_, ?_, ?_, ?_⟩
     ·show j + 1 + 1 ≤ q; omega
     ·show q - (j + 1) < q - j; omega
     ·exact ⟨(by first | rfl | (congr 1; omega) | simp), (by first | rfl | (congr 1; omega) | simp), trivial⟩
     ·exact ((Weak.selF [1, 1]).trans (Some'.weak (.takeEq (by first | rfl | simp) (.take (.nil _)))))
    ·have p29 := h29; try simp only [bs] at p29
     refine Run.exit rfl ?_
     refine Run.sr ?_
     refine Run.p (.int .i64 (((M : Nat) : Int))) rfl rfl ?_
     refine Run.p (vl) rfl rfl ?_
     refine Run.p (.int .i64 (((M : Nat) : Int))) rfl rfl ?_
     refine Run.p (vl) rfl rfl ?_
     refine Run.done ?_
     refine Run.ret ?_
     refine ⟨.tuple #[.int .i64 (((M : Nat) : Int)), vl], [.own vl 3 1 j (ints gx)], Out.two rfl rfl rfl, (Some'.weak (.take (.nil _))), ?_⟩
     exact ⟨_, _, _, _, ⟨by omega, by omega⟩, rfl, rfl⟩
  ·have p23 := h23; try simp only [bs] at p23
   refine Run.skip ?_
   refine Run.sr ?_
   refine Run.p (.int .i64 (((M : Nat) : Int))) rfl rfl ?_
   refine Run.p (um1) rfl rfl ?_
   refine Run.p (.int .i64 (((M : Nat) : Int))) rfl rfl ?_
   refine Run.p (um1) rfl rfl ?_
   refine Run.done ?_
   refine Run.ret ?_
   refine ⟨.tuple #[.int .i64 (((M : Nat) : Int)), um1], [.own um1 3 1 gm1 (ints xm1)], Out.two rfl rfl rfl, (Some'.weak (.skip (.take (.nil _)))), ?_⟩
   exact ⟨_, _, _, _, ⟨by omega, by omega⟩, rfl, rfl⟩

set_option maxHeartbeats 2000000 in
set_option maxRecDepth 20000 in
theorem DrawLeastNetwork_spec {va : Value} {n : Nat} {cs : List Int} {w : World} (ha : Sl w va 1 n (u8s cs)) (hby : ∀ x ∈ cs, 0 ≤ x ∧ x < 256) : Calls Try.prog 43 #[va] w (Post No w fun v H => ∃ (Au : Option Addr) (cu : Nat) (vb : Value) (n0 n1 : Nat) (x0 x1 : List Int) (vl : Value) (g : Nat) (gx : List Int), (n1 ≤ 6 ∧ x1.length = n1 ∧ (∀ w', (Res.own vb 3 1 n0 (ints x0)).holds w' → Sl w' (.slice Au n1 cu) 1 n1 (ints x1))) ∧ g ≤ 8 ∧ v = .tuple #[.agg #[.slice Au n1 cu], vl] ∧ H = [.own vb 3 1 n0 (ints x0), .own vl 3 1 g (ints gx)]) := by
 obtain ⟨Ac, cc, rfl, _, _⟩ := ha.form0
 refine enter (n := 25) (args := [.slice Ac n cc]) Try.func43 rfl rfl (St.empty _ _) ?_
 refine Run.sr ?_
 refine Run.step rfl (OpStep.alloc (zs := [.slice none 0 0]) Tzero_28 fun b1 => ?_)
 refine Run.p (.slice none 0 0) rfl rfl ?_
 refine Run.dsr ?_
 refine Run.p (.slice Ac n cc) rfl rfl ?_
 refine Run.y (.agg #[.slice Ac n cc, .int .i64 0, .int .u64 0]) rfl (OpY.build (cs := [.slice Ac n cc, .int .i64 0, .int .u64 0]) (by kernel_rfl)) ?_
 refine Run.step rfl (OpStep.box (us := [.slice Ac n cc, .int .i64 0, .int .u64 0]) rfl fun b2 => ?_)
 refine Run.p (.pointer (some ⟨b2, 0, none⟩)) rfl rfl ?_
 refine Run.dsr ?_
 refine Run.p (.pointer (some ⟨b2, 0, none⟩)) rfl rfl ?_
 refine Run.step rfl (OpStep.buildSlice (us := [.int .i64 1, .int .i64 2, .int .i64 3, .int .i64 3]) Tsl_22 (by decide) (by decide) ⟨rfl, [.int .i64 1], _, rfl, rfl, rfl, ⟨rfl, [.int .i64 2], _, rfl, rfl, rfl, ⟨rfl, [.int .i64 3], _, rfl, rfl, rfl, ⟨rfl, [.int .i64 3], _, rfl, rfl, rfl, rfl⟩⟩⟩⟩ rfl fun b3 => ?_)
 refine Run.step rfl (OpStep.callM (H1 := [.blk b2 84 [.slice Ac n cc, .int .i64 0, .int .u64 0], .own (.slice (some ⟨b3, 0, none⟩) 4 4) 3 1 4 (ints [1, 2, 3, 3])]) (H2 := [.blk b1 28 [.slice none 0 0]]) (vs := [.pointer (some ⟨b2, 0, none⟩), .slice (some ⟨b3, 0, none⟩) 4 4]) (caps := []) Tcall_65 rfl rfl (Weak.selF [1, 0]) (fun w hs => among_spec (s := (0, 0)) (by decide) (by decide) (Cur.top ha hby hs (.head _)) (Cur.apart0 ha hs (.tail _ (.head _))) (hs.sub (List.sublist_append_left _ _)).self) ?_)
 rintro _ _ ⟨i1, s1, hi1, hs1, rfl, rfl⟩
 show Run _ _ (putF _ _ _ (.int .i64 (ix [1, 2, 3, 3] i1))) [.blk b2 84 [.slice Ac n cc, .int .i64 (((s1.1 : Nat) : Int)), .int .u64 (s1.2)], .blk b1 28 [.slice none 0 0]]
 have hixi1 : 1 ≤ ix [1, 2, 3, 3] i1 ∧ ix [1, 2, 3, 3] i1 ≤ 3 := by
  rcases (by omega : i1 = 0 ∨ i1 = 1 ∨ i1 = 2 ∨ i1 = 3) with rfl | rfl | rfl | rfl <;> simp [ix]
 refine Run.p (.int .i64 (ix [1, 2, 3, 3] i1)) rfl rfl ?_
 refine Run.done ?_
 obtain ⟨N0, hN0⟩ : ∃ N0 : Nat, ix [1, 2, 3, 3] i1 = ((N0 : Nat) : Int) := ⟨(ix [1, 2, 3, 3] i1).toNat, by omega⟩
 rw [hN0]
 refine Run.seq ?_
 refine Run.sr ?_
 refine Run.p (.pointer (some ⟨b2, 0, none⟩)) rfl rfl ?_
 refine Run.step rfl (OpStep.callM (H1 := [.blk b2 84 [.slice Ac n cc, .int .i64 (((s1.1 : Nat) : Int)), .int .u64 (s1.2)]]) (H2 := [.blk b1 28 [.slice none 0 0]]) (vs := [.pointer (some ⟨b2, 0, none⟩), .int .i64 12]) (caps := []) Tcall_62 rfl rfl (Weak.refl _) (fun w hs => one_ex (s := s1) (by omega) (Cur.top ha hby hs (.head _)) (hs.sub (List.sublist_append_left _ _)).self) ?_)
 rintro _ _ ⟨x1, s2, hs2, rfl, rfl⟩
 show Run _ _ (putF _ _ _ (.bool x1)) [.blk b2 84 [.slice Ac n cc, .int .i64 (((s2.1 : Nat) : Int)), .int .u64 (s2.2)], .blk b1 28 [.slice none 0 0]]
 refine Run.done ?_
 refine Run.cond (b := x1) rfl (fun h13 => ?_) (fun h13 => ?_)
 ·have p13 := h13; try simp only [bs] at p13
  refine Run.sr ?_
  refine Run.p (.pointer (some ⟨b2, 0, none⟩)) rfl rfl ?_
  refine Run.step rfl (OpStep.callM (H1 := [.blk b2 84 [.slice Ac n cc, .int .i64 (((s2.1 : Nat) : Int)), .int .u64 (s2.2)]]) (H2 := [.blk b1 28 [.slice none 0 0]]) (vs := [.pointer (some ⟨b2, 0, none⟩)]) (caps := []) Tcall_85 rfl rfl (Weak.refl _) (fun w hs => anyLinear_spec (s := s2) (by omega) (Cur.top ha hby hs (.head _)) (hs.sub (List.sublist_append_left _ _)).self) ?_)
  rintro _ _ ⟨Au, cu, vb, n0, n1, x0, x1, sg, ⟨h6, h7, hsg, hrd⟩, rfl, rfl⟩
  show Run _ _ (putF _ _ _ (.agg #[.slice Au n1 cu])) [.own vb 3 1 n0 (ints x0), .blk b2 84 [.slice Ac n cc, .int .i64 (((sg.1 : Nat) : Int)), .int .u64 (sg.2)], .blk b1 28 [.slice none 0 0]]
  refine Run.p (.pointer (some ⟨b2, 0, none⟩)) rfl rfl ?_
  refine Run.p (.int .i64 (((N0 : Nat) : Int))) rfl rfl ?_
  refine Run.step rfl (OpStep.callM (H1 := [.blk b2 84 [.slice Ac n cc, .int .i64 (((sg.1 : Nat) : Int)), .int .u64 (sg.2)]]) (H2 := [.own vb 3 1 n0 (ints x0), .blk b1 28 [.slice none 0 0]]) (vs := [.pointer (some ⟨b2, 0, none⟩), .int .i64 (((N0 : Nat) : Int))]) (caps := []) Tcall_80 rfl rfl (Weak.selF [1]) (fun w hs => masks_spec (N := N0) (s := sg) (by omega) (by omega) (Cur.top ha hby hs (.head _)) (hs.sub (List.sublist_append_left _ _)).self) ?_)
  rintro um1 _ ⟨gm1, xm1, sm1, ⟨hgm1, hsm1⟩, rfl⟩
  show Run _ _ (putF _ _ _ um1) [.own um1 3 1 gm1 (ints xm1), .blk b2 84 [.slice Ac n cc, .int .i64 (((sm1.1 : Nat) : Int)), .int .u64 (sm1.2)], .own vb 3 1 n0 (ints x0), .blk b1 28 [.slice none 0 0]]
  refine Run.step rfl (OpStep.storeAll (us := [.slice Au n1 cu]) Tsize_28 rfl rfl rfl (.there _ (.there _ (.there _ (.here _)))) rfl ?_)
  refine Run.p (um1) rfl rfl ?_
  refine Run.done ?_
  refine Run.ret ?_
  refine ⟨.tuple #[.agg #[.slice Au n1 cu], um1], [.own vb 3 1 n0 (ints x0), .own um1 3 1 gm1 (ints xm1)], Out.cell2 (cs := [.slice Au n1 cu]) rfl Tagg_28 rfl (Cells.blk (.tail _ (.tail _ (.tail _ (List.Mem.head _)))) ⟨rfl, trivial⟩) rfl, ((Weak.selF [2, 0]).trans (Some'.weak (.take (.take (.nil _))))), ?_⟩
  exact ⟨_, _, _, _, _, _, _, _, _, _, ⟨h6, h7, hrd⟩, by omega, rfl, rfl⟩
 ·have p13 := h13; try simp only [bs] at p13
  refine Run.skip ?_
  refine Run.sr ?_
  refine Run.p (.pointer (some ⟨b2, 0, none⟩)) rfl rfl ?_
  refine Run.p (.int .i64 (((N0 : Nat) : Int))) rfl rfl ?_
  refine Run.step rfl (OpStep.callM (H1 := [.blk b2 84 [.slice Ac n cc, .int .i64 (((s2.1 : Nat) : Int)), .int .u64 (s2.2)]]) (H2 := [.blk b1 28 [.slice none 0 0]]) (vs := [.pointer (some ⟨b2, 0, none⟩), .int .i64 (((N0 : Nat) : Int))]) (caps := []) Tcall_86 rfl rfl (Weak.refl _) (fun w hs => linear_spec (N := N0) (s := s2) (by omega) (by omega) (Cur.top ha hby hs (.head _)) (hs.sub (List.sublist_append_left _ _)).self) ?_)
  rintro _ _ ⟨u0, l, sl, ⟨hll, hl32, hsl⟩, rfl, rfl⟩
  show Run _ _ (putF _ _ _ (.agg #[u0])) [.own u0 3 1 N0 (ints (nl l)), .blk b2 84 [.slice Ac n cc, .int .i64 (((sl.1 : Nat) : Int)), .int .u64 (sl.2)], .blk b1 28 [.slice none 0 0]]
  have hnl := nl_length l
  refine Run.p (.pointer (some ⟨b2, 0, none⟩)) rfl rfl ?_
  refine Run.p (.int .i64 (((N0 : Nat) : Int))) rfl rfl ?_
  refine Run.step rfl (OpStep.callM (H1 := [.blk b2 84 [.slice Ac n cc, .int .i64 (((sl.1 : Nat) : Int)), .int .u64 (sl.2)]]) (H2 := [.own u0 3 1 N0 (ints (nl l)), .blk b1 28 [.slice none 0 0]]) (vs := [.pointer (some ⟨b2, 0, none⟩), .int .i64 (((N0 : Nat) : Int))]) (caps := []) Tcall_80 rfl rfl (Weak.selF [1]) (fun w hs => masks_spec (N := N0) (s := sl) (by omega) (by omega) (Cur.top ha hby hs (.head _)) (hs.sub (List.sublist_append_left _ _)).self) ?_)
  rintro um2 _ ⟨gm2, xm2, sm2, ⟨hgm2, hsm2⟩, rfl⟩
  show Run _ _ (putF _ _ _ um2) [.own um2 3 1 gm2 (ints xm2), .blk b2 84 [.slice Ac n cc, .int .i64 (((sm2.1 : Nat) : Int)), .int .u64 (sm2.2)], .own u0 3 1 N0 (ints (nl l)), .blk b1 28 [.slice none 0 0]]
  refine Run.formOwn (.tail _ (.tail _ (List.Mem.head _))) (fun A_u01 c_u01 hv hcapc_u01 hmaxc_u01 => ?_) (fun _ _ _ => ⟨nofun, nofun, nofun⟩)
  subst hv
  refine Run.step rfl (OpStep.storeAll (us := [.slice A_u01 N0 c_u01]) Tsize_28 rfl rfl rfl (.there _ (.there _ (.there _ (.here _)))) rfl ?_)
  refine Run.p (um2) rfl rfl ?_
  refine Run.done ?_
  refine Run.ret ?_
  refine ⟨.tuple #[.agg #[.slice A_u01 N0 c_u01], um2], [.own (.slice A_u01 N0 c_u01) 3 1 N0 (ints (nl l)), .own um2 3 1 gm2 (ints xm2)], Out.cell2 (cs := [.slice A_u01 N0 c_u01]) rfl Tagg_28 rfl (Cells.blk (.tail _ (.tail _ (.tail _ (List.Mem.head _)))) ⟨rfl, trivial⟩) rfl, ((Weak.selF [2, 0]).trans (Some'.weak (.take (.take (.nil _))))), ?_⟩
  exact ⟨_, _, _, _, _, _, _, _, _, _, ⟨by omega, by rw [hnl]; exact hll, fun w' h => own_read h⟩, by omega, rfl, rfl⟩

end Go.Proofs.Yteehfidjofcfmaa
