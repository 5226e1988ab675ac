/- Walks: shortest circuits of linear maps, by the program. -/
import Derived.Test.YteehfidjofcfmaaSlx
import Derived.Test.YteehfidjofcfmaaProg
set_option linter.unusedSimpArgs false
set_option linter.unusedVariables false
namespace Go.Proofs.Yteehfidjofcfmaa
open Go Go.RowKit
namespace SliT
theorem Tagg_28 : aggOf Try.prog 28 = some 1 := by kernel_rfl
theorem Tagg_38 : aggOf Try.prog 38 = some 2 := by kernel_rfl
theorem Tcall_19 : callable Try.prog 19 = true := by kernel_rfl
theorem Tcall_35 : callable Try.prog 35 = true := by kernel_rfl
theorem Tcall_52 : callable Try.prog 52 = true := by kernel_rfl
theorem Tcall_53 : callable Try.prog 53 = true := by kernel_rfl
theorem Tfo_28_0 : fieldOff Try.prog 28 0 = some 0 := by kernel_rfl
theorem Tfo_38_1 : fieldOff Try.prog 38 1 = some 1 := by kernel_rfl
theorem Tone_22 : oneOf Try.prog 22 = true := by kernel_rfl
theorem Tone_36 : oneOf Try.prog 36 = true := by kernel_rfl
theorem Tsize_38 : (Try.prog.info? 38).map (·.size) = some 2 := by kernel_rfl
theorem Tsl_22 : sliceOf Try.prog 22 = some (3, 1, 8, [.int .i64 0]) := by kernel_rfl
theorem Tsl_36 : sliceOf Try.prog 36 = some (71, 3, 24, [.int .i64 0, .int .i64 0, .int .i64 0]) := by kernel_rfl
theorem Tzero_38 : zeroOf Try.prog 38 = some [.int .i64 0, .slice none 0 0] := by kernel_rfl
end SliT
open SliT

theorem sl_nil (w : World) (size : Nat) : Sl w (.slice none 0 0) size 0 [] :=
  ⟨by simp, none, 0, rfl, Nat.le_refl _, by simp [maxLen], fun h => absurd h (Nat.lt_irrefl _)⟩

set_option maxHeartbeats 1000000 in
set_option maxRecDepth 20000 in
theorem ShortestLinear_spec {va : Value} {n : Nat} {xs : List Int} {w : World} (ha : Sl w va 1 n (ints xs)) : Calls Try.prog 19 #[.agg #[va]] w (Post No w fun v H => ∃ u, v = .tuple #[.agg #[.int .i64 (slN n xs), u], .bool (slB n xs)] ∧ H = [.own u 71 3 (slG n xs).length (ints (flCX (dcw n (slG n xs))))]) := by
  have hxl := ha.len
  rw [Nat.mul_one] at hxl
  have hxl : xs.length = n := by simpa [ints] using hxl
  have hn := ha.le
  obtain ⟨Av, cv, rfl, hnc, _⟩ := ha.form0
  refine enter (n := 22) (args := [.agg #[.slice Av n cv]]) Try.func19 rfl rfl (St.empty _ _) ?_
  refine Run.seq ?_
  refine Run.region ?_
  refine Run.step rfl (OpStep.box (us := [.slice Av n cv]) rfl fun b1 => ?_)
  refine Run.step rfl (OpStep.alloc (zs := [.int .i64 0, .slice none 0 0]) Tzero_38 fun b2 => ?_)
  refine Run.q (v := .bool false) rfl (OpQ.y (OpY.pure rfl)) ?_
  refine Run.done ?_
  refine Run.seq ?_
  refine Run.seq ?_
  refine Run.region ?_
  refine Run.q (v := .agg #[.slice Av n cv]) rfl (OpQ.y (OpY.loadN (cs := [.slice Av n cv]) Tagg_28 rfl (Cells.blk (.tail _ (List.Mem.head _)) ⟨rfl, trivial⟩))) ?_
  refine Run.q (v := .bool (linOk xs n)) rfl (OpQ.call (vs := [.agg #[.slice Av n cv]]) (caps := []) Tcall_35 rfl rfl (fun w hs => IsValidLinear_spec (hs.sl ha))) ?_
  refine Run.q (v := .bool (!(linOk xs n))) rfl (OpQ.y (OpY.pure rfl)) ?_
  rcases Bool.eq_false_or_eq_true (!(linOk xs n)) with h7 | h7
  · refine Run.q (v := .bool true) rfl (OpQ.y (OpY.moveB rfl h7)) ?_
    have p7 := h7; try simp only [bs] at p7
    refine Run.pass rfl ?_
    refine Run.pass rfl ?_
    refine Run.pass rfl ?_
    refine Run.pass rfl ?_
    refine Run.q (v := .bool true) rfl (OpQ.y (OpY.pure rfl)) ?_
    refine Run.done ?_
    refine Run.cond (b := true) rfl (fun _ => ?_) (fun h => nomatch h)
    refine Run.seq ?_
    have hbad : slB n xs = false := by
      cases hb : slB n xs with
      | false => rfl
      | true =>
        exfalso
        obtain ⟨h4, hlk⟩ : n ≤ 4 ∧ linOk xs n = true := by simpa [slB] using hb
        first | (simp_all; done) | (simp_all; omega) | omega
    refine Run.region ?_
    refine Run.q (v := .agg #[.int .i64 0, .slice none 0 0]) rfl (OpQ.y (OpY.build (cs := [.int .i64 0, .slice none 0 0]) (by kernel_rfl))) ?_
    refine Run.step rfl (OpStep.storeAll (us := [.int .i64 0, .slice none 0 0]) Tsize_38 rfl rfl rfl (.here _) rfl ?_)
    refine Run.q (v := .bool false) rfl (OpQ.y (OpY.pure rfl)) ?_
    refine Run.done ?_
    refine Run.ret ?_
    refine ⟨.tuple #[.agg #[.int .i64 0, .slice none 0 0], .bool false], [.own (.slice none 0 0) 71 3 0 ([])], Out.cell2 (cs := [.int .i64 0, .slice none 0 0]) rfl Tagg_38 rfl (Cells.blk (.head _) ⟨rfl, rfl, trivial⟩) rfl, ((Weak.nilOwn 71 3).trans (Some'.weak (.take (.nil _)))), ?_⟩
    exact ⟨_, by rw [(sl_bad hbad).2, hbad], by rw [(sl_bad hbad).1]; rfl⟩
  · refine Run.q (v := .bool false) rfl (OpQ.y (OpY.moveB rfl h7)) ?_
    have p7 := h7; try simp only [bs] at p7
    refine Run.q (v := .pointer (some ⟨b1, 0, none⟩)) rfl (OpQ.y (OpY.fieldAddr Tfo_28_0 rfl rfl)) ?_
    refine Run.q (v := .slice Av n cv) rfl (OpQ.y (OpY.load1 Tone_22 rfl (Cells.blk (.tail _ (List.Mem.head _)) ⟨rfl, trivial⟩))) ?_
    refine Run.q (v := .int .i64 (((n : Nat) : Int))) rfl (OpQ.y (OpY.len Tsl_22 rfl)) ?_
    refine Run.q (v := .bool (decide ((((n : Nat) : Int)) > 4))) rfl (OpQ.y (OpY.pure rfl)) ?_
    refine Run.q (v := .bool (decide ((((n : Nat) : Int)) > 4))) rfl (OpQ.y (OpY.pure rfl)) ?_
    refine Run.done ?_
    refine Run.cond (b := decide ((((n : Nat) : Int)) > 4)) rfl (fun h12 => ?_) (fun h12 => ?_)
    · have p12 := h12; try simp only [bs] at p12
      refine Run.seq ?_
      have hbad : slB n xs = false := by
        cases hb : slB n xs with
        | false => rfl
        | true =>
          exfalso
          obtain ⟨h4, hlk⟩ : n ≤ 4 ∧ linOk xs n = true := by simpa [slB] using hb
          first | (simp_all; done) | (simp_all; omega) | omega
      refine Run.region ?_
      refine Run.q (v := .agg #[.int .i64 0, .slice none 0 0]) rfl (OpQ.y (OpY.build (cs := [.int .i64 0, .slice none 0 0]) (by kernel_rfl))) ?_
      refine Run.step rfl (OpStep.storeAll (us := [.int .i64 0, .slice none 0 0]) Tsize_38 rfl rfl rfl (.here _) rfl ?_)
      refine Run.q (v := .bool false) rfl (OpQ.y (OpY.pure rfl)) ?_
      refine Run.done ?_
      refine Run.ret ?_
      refine ⟨.tuple #[.agg #[.int .i64 0, .slice none 0 0], .bool false], [.own (.slice none 0 0) 71 3 0 ([])], Out.cell2 (cs := [.int .i64 0, .slice none 0 0]) rfl Tagg_38 rfl (Cells.blk (.head _) ⟨rfl, rfl, trivial⟩) rfl, ((Weak.nilOwn 71 3).trans (Some'.weak (.take (.nil _)))), ?_⟩
      exact ⟨_, by rw [(sl_bad hbad).2, hbad], by rw [(sl_bad hbad).1]; rfl⟩
    · have p12 := h12; try simp only [bs] at p12
      refine Run.skip ?_
      refine Run.seq ?_
      have hgood : slB n xs = true := by
        rw [slB, Bool.and_eq_true, decide_eq_true_eq]
        refine ⟨?_, ?_⟩ <;> first | omega | (simp_all; done) | (simp_all; omega)
      obtain ⟨h4, hlk⟩ : n ≤ 4 ∧ linOk xs n = true := by simpa [slB] using hgood
      obtain ⟨h1n, h5n, hnl, hml, hmb, hmi⟩ := lin_facts hxl hlk
      obtain ⟨m, hm⟩ : ∃ m, m = nats xs := ⟨_, rfl⟩
      rw [← hm] at hnl hml hmb hmi
      have hm16 : ∀ j, nx m j < 16 := fun j => Nat.lt_of_lt_of_le (hmb j) (pow16 h4)
      have hgoal : ∀ i, (lq n i).length ≤ i → (m, 0) ∈ (lq n i).map (·.1) := fun i hi => lq_found_all h4 hml (fun i _ => hmb i) hmi hi
      have hlw : LW n m (slG n xs) := hm ▸ sl_LW hxl hgood
      have hsl28 := sl_len hxl hgood
      refine Run.heldB (base := [.blk b1 28 [.slice Av n cv]]) (by kernel_rfl) ?_
      refine DW.take (i := 0) (v := .pointer (some ⟨b1, 0, none⟩)) rfl (by kernel_rfl) (by kernel_rfl) (by kernel_rfl) (fun _ _ _ h => h) (Some'.weak (.skip (.take (.nil _)))) rfl (OpY.fieldAddr Tfo_28_0 rfl rfl) ?_
      refine DW.take (i := 1) (v := .slice Av n cv) rfl (by kernel_rfl) (by kernel_rfl) (by kernel_rfl) (fun _ _ _ h => h) (Some'.weak (.skip (.take (.nil _)))) rfl (OpY.load1 Tone_22 rfl (Cells.blk (.head _) ⟨rfl, trivial⟩)) ?_
      refine DW.take (i := 2) (v := .int .i64 (((n : Nat) : Int))) rfl (by kernel_rfl) (by kernel_rfl) (by kernel_rfl) (fun _ _ _ h => h) (Some'.weak (.skip (.take (.nil _)))) rfl (OpY.len Tsl_22 rfl) ?_
      refine DW.take (i := 3) (v := .agg #[.slice Av n cv]) rfl (by kernel_rfl) (by kernel_rfl) (by kernel_rfl) (fun _ _ _ h => h) (Some'.weak (.skip (.take (.nil _)))) rfl (OpY.loadN (cs := [.slice Av n cv]) Tagg_28 rfl (Cells.blk (.head _) ⟨rfl, trivial⟩)) ?_
      refine DW.step (i := 4) (by kernel_rfl) rfl rfl (OpStep.call (vs := [.agg #[.slice Av n cv], .slice none 0 0]) (caps := []) Tcall_53 rfl rfl (fun w hs => (by have h := shortest_spec (m := m) (ms := []) (n := n) (va := .slice Av n cv) (vm := .slice none 0 0) (w := w) (by omega) h5n hml hmb (by simp) (fun i => by rw [mQ_nil]; have := lq_small h4 i; omega) (fun i hi => by rw [mQ_nil] at hi ⊢; exact hgoal i hi) (by rw [hnl]; exact hs.sl ha) (sl_nil w 1); exact h)) ?_)
      rintro uS _ ⟨p, i, hp, rfl⟩
      rw [mQ_nil] at hp
      obtain rfl : p = slG n xs := (lq_LW h4 hp).one hlw
      refine ⟨(Some'.weak (.skip (.skip (.take (.nil _))))), ?_⟩
      refine DW.step (i := 5) (by kernel_rfl) rfl rfl (OpStep.call (vs := [.int .i64 (((n : Nat) : Int)), uS]) (caps := []) Tcall_52 rfl rfl (fun w hs => (by have h := circuitIf_spec (N := (n : Int)) (by omega) (by rw [← dcw_len n (slG n xs)]; exact circ_cx ⟨by omega, by omega⟩ (dec_ok hlw.1) (by rw [dcw_len]; omega)) (hs.slOwn (.head _)); exact h)) ?_)
      rintro _ _ ⟨uC, rfl, rfl⟩
      refine ⟨(Some'.weak (.skip (.skip (.skip (.take (.nil _)))))), ?_⟩
      refine DW.take (i := 6) (v := .agg #[.int .i64 (((n : Nat) : Int)), uC]) rfl (by kernel_rfl) (by kernel_rfl) (by kernel_rfl) (fun _ _ _ h => h) (Some'.weak (.skip (.skip (.skip (.take (.nil _)))))) rfl (OpY.pure rfl) ?_
      refine DW.take (i := 7) (v := .bool true) rfl (by kernel_rfl) (by kernel_rfl) (by kernel_rfl) (fun _ _ _ h => h) (Some'.weak (.skip (.skip (.skip (.take (.nil _)))))) rfl (OpY.pure rfl) ?_
      refine DW.formOwn (.head _) (fun A_uC1 c_uC1 hv hcapc_uC1 hmaxc_uC1 => ?_)
      subst hv
      refine DW.step (i := 8) (by kernel_rfl) rfl rfl (OpStep.storeAll (us := [.int .i64 (((n : Nat) : Int)), .slice A_uC1 ((slG n xs).length) c_uC1]) Tsize_38 rfl rfl rfl (.there _ (.there _ (.here _))) rfl ?_)
      refine ⟨(Some'.weak (.skip (.skip (.skip (.take (.nil _)))))), ?_⟩
      refine DW.take (i := 9) (v := .bool true) rfl (by kernel_rfl) (by kernel_rfl) (by kernel_rfl) (fun _ _ _ h => h) (Some'.weak (.skip (.skip (.skip (.take (.nil _)))))) rfl (OpY.pure rfl) ?_
      refine DW.done (by kernel_rfl) ?_
      refine Run.ret ?_
      refine ⟨.tuple #[.agg #[.int .i64 (((n : Nat) : Int)), .slice A_uC1 ((slG n xs).length) c_uC1], .bool true], [.own (.slice A_uC1 ((slG n xs).length) c_uC1) 71 3 ((slG n xs).length) (ints (flCX (dcw n (slG n xs))))], Out.cell2 (cs := [.int .i64 (((n : Nat) : Int)), .slice A_uC1 ((slG n xs).length) c_uC1]) rfl Tagg_38 rfl (Cells.blk (.tail _ (.tail _ (List.Mem.head _))) ⟨rfl, rfl, trivial⟩) rfl, (Some'.weak (.take (.nil _))), ?_⟩
      exact ⟨_, by rw [sl_good hgood, hgood], rfl⟩

set_option maxHeartbeats 1000000 in
set_option maxRecDepth 20000 in
theorem LeastCX_spec {va : Value} {n : Nat} {xs : List Int} {w : World} (ha : Sl w va 1 n (ints xs)) : Calls Try.prog 12 #[.agg #[va]] w (Post No w fun v _ => v = .tuple #[.int .i64 ((slG n xs).length : Nat), .bool (slB n xs)]) := by
  refine enter (n := 15) (args := [.agg #[va]]) Try.func12 rfl rfl (St.empty _ _) ?_
  refine Run.seq ?_
  refine Run.region ?_
  refine Run.step rfl (OpStep.box (us := [va]) rfl fun b1 => ?_)
  refine Run.q (v := .int .i64 0) rfl (OpQ.y (OpY.pure rfl)) ?_
  refine Run.q (v := .bool false) rfl (OpQ.y (OpY.pure rfl)) ?_
  refine Run.done ?_
  refine Run.seq ?_
  refine Run.region ?_
  refine Run.q (v := .agg #[va]) rfl (OpQ.y (OpY.loadN (cs := [va]) Tagg_28 rfl (Cells.blk (.head _) ⟨rfl, trivial⟩))) ?_
  refine Run.step rfl (OpStep.call (vs := [.agg #[va]]) (caps := []) Tcall_19 rfl rfl (fun w hs => ShortestLinear_spec (hs.sl ha)) ?_)
  rintro _ _ ⟨u, rfl, rfl⟩
  show Run _ _ (putF _ _ _ (.tuple #[.agg #[.int .i64 (slN n xs), u], .bool (slB n xs)])) [.own u 71 3 ((slG n xs).length) (ints (flCX (dcw n (slG n xs)))), .blk b1 28 [va]]
  refine Run.q (v := .tuple #[.agg #[.int .i64 (slN n xs), u], .bool (slB n xs)]) rfl (OpQ.y (OpY.pure rfl)) ?_
  refine Run.q (v := .agg #[.int .i64 (slN n xs), u]) rfl (OpQ.y (OpY.pure rfl)) ?_
  refine Run.q (v := .bool (slB n xs)) rfl (OpQ.y (OpY.pure rfl)) ?_
  refine Run.step rfl (OpStep.alloc (zs := [.int .i64 0, .slice none 0 0]) Tzero_38 fun b2 => ?_)
  refine Run.formOwn (.tail _ (List.Mem.head _)) (fun A_u1 c_u1 hv hcapc_u1 hmaxc_u1 => ?_) (fun _ _ _ => ⟨nofun, nofun, nofun⟩)
  subst hv
  refine Run.step rfl (OpStep.storeAll (us := [.int .i64 (slN n xs), .slice A_u1 ((slG n xs).length) c_u1]) Tsize_38 rfl rfl rfl (.here _) rfl ?_)
  refine Run.q (v := .bool (slB n xs)) rfl (OpQ.y (OpY.pure rfl)) ?_
  refine Run.done ?_
  refine Run.seq ?_
  refine Run.region ?_
  refine Run.q (v := .pointer (some ⟨b2, 1, none⟩)) rfl (OpQ.y (OpY.fieldAddr Tfo_38_1 rfl rfl)) ?_
  refine Run.q (v := .slice A_u1 ((slG n xs).length) c_u1) rfl (OpQ.y (OpY.load1 Tone_36 rfl (Cells.blk (.head _) ⟨rfl, trivial⟩))) ?_
  refine Run.q (v := .int .i64 ((((slG n xs).length : Nat) : Int))) rfl (OpQ.y (OpY.len Tsl_36 rfl)) ?_
  refine Run.q (v := .bool (slB n xs)) rfl (OpQ.y (OpY.pure rfl)) ?_
  refine Run.q (v := .int .i64 ((((slG n xs).length : Nat) : Int))) rfl (OpQ.y (OpY.pure rfl)) ?_
  refine Run.q (v := .bool (slB n xs)) rfl (OpQ.y (OpY.pure rfl)) ?_
  refine Run.done ?_
  refine Run.ret ?_
  refine ⟨.tuple #[.int .i64 ((((slG n xs).length : Nat) : Int)), .bool (slB n xs)], [], Out.two rfl rfl rfl, (Some'.weak (.nil _)), ?_⟩
  rfl

end Go.Proofs.Yteehfidjofcfmaa
