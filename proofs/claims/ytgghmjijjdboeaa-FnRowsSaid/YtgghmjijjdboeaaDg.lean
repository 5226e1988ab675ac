/- Walks: drawn coupling graphs. -/
import Derived.Test.YtgghmjijjdboeaaDr
import Derived.Test.YtgghmjijjdboeaaRi
import Derived.Test.YtgghmjijjdboeaaProg
set_option linter.unusedSimpArgs false
set_option linter.unusedVariables false
namespace Go.Proofs.Ytgghmjijjdboeaa
open Go Go.RowKit
namespace DgT
theorem Tagg_25 : aggOf Try.prog 25 = some 2 := by kernel_rfl
theorem Tcall_11 : callable Try.prog 11 = true := by kernel_rfl
theorem Tcall_47 : callable Try.prog 47 = true := by kernel_rfl
theorem Tcall_60 : callable Try.prog 60 = true := by kernel_rfl
theorem Tcall_81 : callable Try.prog 81 = true := by kernel_rfl
theorem Tcall_82 : callable Try.prog 82 = true := by kernel_rfl
theorem Tfo_25_0 : fieldOff Try.prog 25 0 = some 0 := by kernel_rfl
theorem Tfo_25_1 : fieldOff Try.prog 25 1 = some 1 := by kernel_rfl
theorem Tone_23 : oneOf Try.prog 23 = true := by kernel_rfl
theorem Tone_3 : oneOf Try.prog 3 = true := by kernel_rfl
theorem Tsize_23 : (Try.prog.info? 23).map (·.size) = some 1 := by kernel_rfl
theorem Tsize_25 : (Try.prog.info? 25).map (·.size) = some 2 := by kernel_rfl
theorem Tsl_23 : sliceOf Try.prog 23 = some (64, 2, 16, [.int .i64 0, .int .i64 0]) := by kernel_rfl
theorem Tzero_25 : zeroOf Try.prog 25 = some [.int .i64 0, .slice none 0 0] := by kernel_rfl
end DgT
open DgT

/-- What a drawn graph's numbers are like. -/
structure DGr (N : Int) (m : Nat) (es : List Int) : Prop where
  n0 : 0 ≤ N ∧ N ≤ 100
  m0 : m ≤ 201
  len : es.length = m * 2
  es0 : ∀ x ∈ es, -1 ≤ x ∧ x ≤ 200
theorem gE_small {C N : Int} (h1 : 1 ≤ C ∧ C ≤ 8) : ∀ k, ∀ x ∈ fl2 (gE C N k), 0 ≤ x ∧ x ≤ k + 8
  | 0, x, h => by simp [gE, fl2] at h
  | k + 1, x, h => by
    simp only [gE, fl2_append, List.mem_append] at h
    rcases h with (h | h) | h
    · have := gE_small h1 k x h; omega
    · split at h
      · simp only [fl2, List.mem_cons, List.not_mem_nil, or_false] at h; omega
      · simp [fl2] at h
    · split at h
      · simp only [fl2, List.mem_cons, List.not_mem_nil, or_false] at h; omega
      · simp [fl2] at h
theorem grid_dg (R C : Int) : DGr (gridN R C) (gridE R C).length (fl2 (gridE R C)) := by
  have h0 := gridE_le R C
  refine ⟨?_, by omega, by simp, fun x hx => ?_⟩
  · unfold gridN; split
    · rename_i h
      obtain ⟨h1, h2, h3⟩ := gridOk_iff.1 h
      have := mul_range h1 h2; omega
    · omega
  · unfold gridE at hx; split at hx
    · rename_i h
      obtain ⟨h1, h2, h3⟩ := gridOk_iff.1 h
      have := gE_small (N := R * C) h2 _ x hx
      have := mul_range h1 h2
      omega
    · simp [fl2] at hx
theorem gridE_200 (R C : Int) : (gridE R C).length ≤ 200 := by have := gridE_le R C; omega
theorem rgE_200 (N : Int) : (rgE N).length ≤ 200 := by have := rgE_le N; omega
theorem ring_dg (N : Int) : DGr (rgN N) (rgE N).length (fl2 (rgE N)) := by
  have h0 := rgE_le N
  refine ⟨?_, by omega, by simp, fun x hx => ?_⟩
  · unfold rgN; split
    · rename_i h; have := within_iff.1 h; omega
    · omega
  · by_cases h : rgOk N = true
    · have h1 := (ring_same h).2.2.2.2
      have h2 := within_iff.1 h
      rw [← h1] at hx
      simp only [List.mem_append, List.mem_cons, List.not_mem_nil, or_false] at hx
      have hg := (grid_dg 1 N).es0
      rcases hx with (hx | hx | hx) | hx
      · have := hg x (List.mem_of_mem_take hx); omega
      · omega
      · omega
      · have := hg x (List.mem_of_mem_drop hx); omega
    · unfold rgE at hx; rw [if_neg h] at hx; simp [fl2] at hx

set_option maxHeartbeats 1000000 in
set_option maxRecDepth 20000 in
theorem graph_spec {bc n : Nat} {vc : Value} {cs : List Int} {s : Nat × Int} {w : World} (hat : s.1 < 2305843009213000000) (hc : Cur w bc vc n cs) (hst : St (Of [.blk bc 60 [vc, .int .i64 (((s.1 : Nat) : Int)), .int .u64 (s.2)]]) w w [.blk bc 60 [vc, .int .i64 (((s.1 : Nat) : Int)), .int .u64 (s.2)]]) : Calls Try.prog 71 #[.pointer (some ⟨bc, 0, none⟩)] w (Post (Of [.blk bc 60 [vc, .int .i64 (((s.1 : Nat) : Int)), .int .u64 (s.2)]]) w fun v H => ∃ (N : Int) (u : Value) (m : Nat) (es : List Int) (s1 : Nat × Int), (DGr N m es ∧ m ≤ 200) ∧ s1.1 ≤ s.1 + 300 ∧ v = .agg #[.int .i64 N, u] ∧ H = [.own u 64 2 m (ints es), .blk bc 60 [vc, .int .i64 (s1.1 : Nat), .int .u64 s1.2]]) := by
  refine enter (n := 67) (args := [.pointer (some ⟨bc, 0, none⟩)]) Try.func71 rfl rfl (hst) ?_
  refine Run.seq ?_
  refine Run.region ?_
  refine Run.step rfl (OpStep.alloc (zs := [.int .i64 0, .slice none 0 0]) Tzero_25 fun b1 => ?_)
  refine Run.done ?_
  refine Run.seq ?_
  refine Run.region ?_
  refine Run.q (v := .pointer (some ⟨bc, 0, none⟩)) rfl (OpQ.y (OpY.pure rfl)) ?_
  refine Run.step rfl (OpStep.callM (H1 := [.blk bc 60 [vc, .int .i64 (((s.1 : Nat) : Int)), .int .u64 (s.2)]]) (H2 := [.blk b1 25 [.int .i64 0, .slice none 0 0]]) (vs := [.pointer (some ⟨bc, 0, none⟩), .int .i64 4]) (caps := []) Tcall_47 rfl rfl (Weak.front [.blk b1 25 [.int .i64 0, .slice none 0 0]] (.blk bc 60 [vc, .int .i64 (((s.1 : Nat) : Int)), .int .u64 (s.2)]) []) (fun w hs => pick_ex (by omega) (hc.go hs) (hs.sub (List.sublist_append_left _ _)).self) ?_)
  rintro _ _ ⟨x1, s1, hx1, hs1, rfl, rfl⟩
  show Run _ _ (putF _ _ _ (.int .i64 x1)) [.blk bc 60 [vc, .int .i64 (((s1.1 : Nat) : Int)), .int .u64 (s1.2)], .blk b1 25 [.int .i64 0, .slice none 0 0]]
  refine Run.q (v := .int .i64 (2 + x1)) rfl (OpQ.y (OpY.add rfl rfl rfl (by omega) (by omega))) ?_
  refine Run.step rfl (OpStep.call (vs := [.int .i64 (2 + x1)]) (caps := []) Tcall_11 rfl rfl (fun w hs => sLineGraph_spec (2 + x1) w) ?_)
  rintro _ _ ⟨u1, rfl, rfl⟩
  show Run _ _ (putF _ _ _ (.tuple #[.agg #[.int .i64 (gridN 1 (2 + x1)), u1], .bool (gridOk 1 (2 + x1))])) [.own u1 64 2 ((gridE 1 (2 + x1)).length) (ints (fl2 (gridE 1 (2 + x1)))), .blk bc 60 [vc, .int .i64 (((s1.1 : Nat) : Int)), .int .u64 (s1.2)], .blk b1 25 [.int .i64 0, .slice none 0 0]]
  have hdgu1 := grid_dg 1 (2 + x1)
  refine Run.q (v := .tuple #[.agg #[.int .i64 (gridN 1 (2 + x1)), u1], .bool (gridOk 1 (2 + x1))]) rfl (OpQ.y (OpY.pure rfl)) ?_
  refine Run.q (v := .agg #[.int .i64 (gridN 1 (2 + x1)), u1]) rfl (OpQ.y (OpY.pure rfl)) ?_
  refine Run.q (v := .bool (gridOk 1 (2 + x1))) rfl (OpQ.y (OpY.pure rfl)) ?_
  refine Run.step rfl (OpStep.alloc (zs := [.int .i64 0, .slice none 0 0]) Tzero_25 fun b2 => ?_)
  refine Run.formOwn (.tail _ (List.Mem.head _)) (fun A_u11 c_u11 hv hcapc_u11 hmaxc_u11 => ?_) (fun _ _ _ => ⟨nofun, nofun, nofun⟩)
  subst hv
  refine Run.step rfl (OpStep.storeAll (us := [.int .i64 (gridN 1 (2 + x1)), .slice A_u11 ((gridE 1 (2 + x1)).length) c_u11]) Tsize_25 rfl rfl rfl (.here _) rfl ?_)
  refine Run.q (v := .bool (gridOk 1 (2 + x1))) rfl (OpQ.y (OpY.pure rfl)) ?_
  refine Run.done ?_
  refine Run.seq ?_
  refine Run.seq ?_
  refine Run.region ?_
  refine Run.q (v := .pointer (some ⟨bc, 0, none⟩)) rfl (OpQ.y (OpY.pure rfl)) ?_
  refine Run.step rfl (OpStep.callM (H1 := [.blk bc 60 [vc, .int .i64 (((s1.1 : Nat) : Int)), .int .u64 (s1.2)]]) (H2 := [.blk b2 25 [.int .i64 (gridN 1 (2 + x1)), .slice A_u11 ((gridE 1 (2 + x1)).length) c_u11], .own (.slice A_u11 ((gridE 1 (2 + x1)).length) c_u11) 64 2 ((gridE 1 (2 + x1)).length) (ints (fl2 (gridE 1 (2 + x1)))), .blk b1 25 [.int .i64 0, .slice none 0 0]]) (vs := [.pointer (some ⟨bc, 0, none⟩), .int .i64 5]) (caps := []) Tcall_47 rfl rfl (Weak.front [.blk b2 25 [.int .i64 (gridN 1 (2 + x1)), .slice A_u11 ((gridE 1 (2 + x1)).length) c_u11], .own (.slice A_u11 ((gridE 1 (2 + x1)).length) c_u11) 64 2 ((gridE 1 (2 + x1)).length) (ints (fl2 (gridE 1 (2 + x1))))] (.blk bc 60 [vc, .int .i64 (((s1.1 : Nat) : Int)), .int .u64 (s1.2)]) [.blk b1 25 [.int .i64 0, .slice none 0 0]]) (fun w hs => pick_ex (by omega) (hc.go hs) (hs.sub (List.sublist_append_left _ _)).self) ?_)
  rintro _ _ ⟨x2, s2, hx2, hs2, rfl, rfl⟩
  show Run _ _ (putF _ _ _ (.int .i64 x2)) [.blk bc 60 [vc, .int .i64 (((s2.1 : Nat) : Int)), .int .u64 (s2.2)], .blk b2 25 [.int .i64 (gridN 1 (2 + x1)), .slice A_u11 ((gridE 1 (2 + x1)).length) c_u11], .own (.slice A_u11 ((gridE 1 (2 + x1)).length) c_u11) 64 2 ((gridE 1 (2 + x1)).length) (ints (fl2 (gridE 1 (2 + x1)))), .blk b1 25 [.int .i64 0, .slice none 0 0]]
  refine Run.done ?_
  refine Run.block ?_
  refine Run.seq ?_
  refine Run.region ?_
  refine Run.q (v := .bool (x2 == 0)) rfl (OpQ.y (OpY.pure rfl)) ?_
  refine Run.q (v := .bool (x2 == 0)) rfl (OpQ.y (OpY.pure rfl)) ?_
  refine Run.done ?_
  refine Run.cond (b := x2 == 0) rfl (fun h17 => ?_) (fun h17 => ?_)
  · have p17 := h17; try simp only [decide_eq_true_eq, decide_eq_false_iff_not, beq_iff_eq, bne_iff_ne, beq_eq_false_iff_ne, ne_eq, gt_iff_lt, ge_iff_le, Int.not_lt, Int.not_le, bne_eq_false_iff_eq, Bool.not_eq_true', Bool.not_eq_false', Bool.and_eq_true, Bool.and_eq_false_iff, Bool.or_eq_true, Bool.or_eq_false_iff, Decidable.not_not, List.cons.injEq, and_true] at p17
    refine Run.region ?_
    refine Run.q (v := .pointer (some ⟨bc, 0, none⟩)) rfl (OpQ.y (OpY.pure rfl)) ?_
    refine Run.step rfl (OpStep.callM (H1 := [.blk bc 60 [vc, .int .i64 (((s2.1 : Nat) : Int)), .int .u64 (s2.2)]]) (H2 := [.blk b2 25 [.int .i64 (gridN 1 (2 + x1)), .slice A_u11 ((gridE 1 (2 + x1)).length) c_u11], .own (.slice A_u11 ((gridE 1 (2 + x1)).length) c_u11) 64 2 ((gridE 1 (2 + x1)).length) (ints (fl2 (gridE 1 (2 + x1)))), .blk b1 25 [.int .i64 0, .slice none 0 0]]) (vs := [.pointer (some ⟨bc, 0, none⟩), .int .i64 3]) (caps := []) Tcall_47 rfl rfl (Weak.refl _) (fun w hs => pick_ex (by omega) (hc.go hs) (hs.sub (List.sublist_append_left _ _)).self) ?_)
    rintro _ _ ⟨x3, s3, hx3, hs3, rfl, rfl⟩
    show Run _ _ (putF _ _ _ (.int .i64 x3)) [.blk bc 60 [vc, .int .i64 (((s3.1 : Nat) : Int)), .int .u64 (s3.2)], .blk b2 25 [.int .i64 (gridN 1 (2 + x1)), .slice A_u11 ((gridE 1 (2 + x1)).length) c_u11], .own (.slice A_u11 ((gridE 1 (2 + x1)).length) c_u11) 64 2 ((gridE 1 (2 + x1)).length) (ints (fl2 (gridE 1 (2 + x1)))), .blk b1 25 [.int .i64 0, .slice none 0 0]]
    refine Run.q (v := .int .i64 (3 + x3)) rfl (OpQ.y (OpY.add rfl rfl rfl (by omega) (by omega))) ?_
    refine Run.step rfl (OpStep.call (vs := [.int .i64 (3 + x3)]) (caps := []) Tcall_81 rfl rfl (fun w hs => sRingGraph_spec (3 + x3) w) ?_)
    rintro _ _ ⟨u2, rfl, rfl⟩
    show Run _ _ (putF _ _ _ (.tuple #[.agg #[.int .i64 (rgN (3 + x3)), u2], .bool (rgOk (3 + x3))])) [.own u2 64 2 ((rgE (3 + x3)).length) (ints (fl2 (rgE (3 + x3)))), .blk bc 60 [vc, .int .i64 (((s3.1 : Nat) : Int)), .int .u64 (s3.2)], .blk b2 25 [.int .i64 (gridN 1 (2 + x1)), .slice A_u11 ((gridE 1 (2 + x1)).length) c_u11], .own (.slice A_u11 ((gridE 1 (2 + x1)).length) c_u11) 64 2 ((gridE 1 (2 + x1)).length) (ints (fl2 (gridE 1 (2 + x1)))), .blk b1 25 [.int .i64 0, .slice none 0 0]]
    have hdgu2 := ring_dg (3 + x3)
    refine Run.q (v := .tuple #[.agg #[.int .i64 (rgN (3 + x3)), u2], .bool (rgOk (3 + x3))]) rfl (OpQ.y (OpY.pure rfl)) ?_
    refine Run.q (v := .agg #[.int .i64 (rgN (3 + x3)), u2]) rfl (OpQ.y (OpY.pure rfl)) ?_
    refine Run.q (v := .bool (rgOk (3 + x3))) rfl (OpQ.y (OpY.pure rfl)) ?_
    refine Run.formOwn (.head _) (fun A_u21 c_u21 hv hcapc_u21 hmaxc_u21 => ?_) (fun _ _ _ => ⟨nofun, nofun, nofun⟩)
    subst hv
    refine Run.step rfl (OpStep.storeAll (us := [.int .i64 (rgN (3 + x3)), .slice A_u21 ((rgE (3 + x3)).length) c_u21]) Tsize_25 rfl rfl rfl (.there _ (.there _ (.here _))) rfl ?_)
    refine Run.done ?_
    refine Run.blockEnd ?_
    refine Run.seq ?_
    refine Run.region ?_
    refine Run.q (v := .agg #[.int .i64 (rgN (3 + x3)), .slice A_u21 ((rgE (3 + x3)).length) c_u21]) rfl (OpQ.y (OpY.loadN (cs := [.int .i64 (rgN (3 + x3)), .slice A_u21 ((rgE (3 + x3)).length) c_u21]) Tagg_25 rfl (Cells.blk (.tail _ (.tail _ (List.Mem.head _))) ⟨rfl, rfl, trivial⟩))) ?_
    refine Run.step rfl (OpStep.storeAll (us := [.int .i64 (rgN (3 + x3)), .slice A_u21 ((rgE (3 + x3)).length) c_u21]) Tsize_25 rfl rfl rfl (.there _ (.there _ (.there _ (.there _ (.here _))))) rfl ?_)
    refine Run.done ?_
    refine Run.ret ?_
    refine ⟨.agg #[.int .i64 (rgN (3 + x3)), .slice A_u21 ((rgE (3 + x3)).length) c_u21], [.own (.slice A_u21 ((rgE (3 + x3)).length) c_u21) 64 2 ((rgE (3 + x3)).length) (ints (fl2 (rgE (3 + x3)))), .blk bc 60 [vc, .int .i64 (((s3.1 : Nat) : Int)), .int .u64 (s3.2)]], Out.cell1 (cs := [.int .i64 (rgN (3 + x3)), .slice A_u21 ((rgE (3 + x3)).length) c_u21]) rfl Tagg_25 rfl (Cells.blk (.tail _ (.tail _ (.tail _ (.tail _ (List.Mem.head _))))) ⟨rfl, rfl, trivial⟩), (Some'.weak (.take (.take (.nil _)))), ?_⟩
    exact ⟨_, _, _, _, _, ⟨ring_dg _, rgE_200 _⟩, by omega, rfl, rfl⟩
  · have p17 := h17; try simp only [decide_eq_true_eq, decide_eq_false_iff_not, beq_iff_eq, bne_iff_ne, beq_eq_false_iff_ne, ne_eq, gt_iff_lt, ge_iff_le, Int.not_lt, Int.not_le, bne_eq_false_iff_eq, Bool.not_eq_true', Bool.not_eq_false', Bool.and_eq_true, Bool.and_eq_false_iff, Bool.or_eq_true, Bool.or_eq_false_iff, Decidable.not_not, List.cons.injEq, and_true] at p17
    refine Run.seq ?_
    refine Run.region ?_
    refine Run.q (v := .bool (x2 == 1)) rfl (OpQ.y (OpY.pure rfl)) ?_
    refine Run.q (v := .bool (x2 == 1)) rfl (OpQ.y (OpY.pure rfl)) ?_
    refine Run.done ?_
    refine Run.cond (b := x2 == 1) rfl (fun h26 => ?_) (fun h26 => ?_)
    · have p26 := h26; try simp only [decide_eq_true_eq, decide_eq_false_iff_not, beq_iff_eq, bne_iff_ne, beq_eq_false_iff_ne, ne_eq, gt_iff_lt, ge_iff_le, Int.not_lt, Int.not_le, bne_eq_false_iff_eq, Bool.not_eq_true', Bool.not_eq_false', Bool.and_eq_true, Bool.and_eq_false_iff, Bool.or_eq_true, Bool.or_eq_false_iff, Decidable.not_not, List.cons.injEq, and_true] at p26
      refine Run.region ?_
      refine Run.q (v := .pointer (some ⟨bc, 0, none⟩)) rfl (OpQ.y (OpY.pure rfl)) ?_
      refine Run.step rfl (OpStep.callM (H1 := [.blk bc 60 [vc, .int .i64 (((s2.1 : Nat) : Int)), .int .u64 (s2.2)]]) (H2 := [.blk b2 25 [.int .i64 (gridN 1 (2 + x1)), .slice A_u11 ((gridE 1 (2 + x1)).length) c_u11], .own (.slice A_u11 ((gridE 1 (2 + x1)).length) c_u11) 64 2 ((gridE 1 (2 + x1)).length) (ints (fl2 (gridE 1 (2 + x1)))), .blk b1 25 [.int .i64 0, .slice none 0 0]]) (vs := [.pointer (some ⟨bc, 0, none⟩), .int .i64 2]) (caps := []) Tcall_47 rfl rfl (Weak.refl _) (fun w hs => pick_ex (by omega) (hc.go hs) (hs.sub (List.sublist_append_left _ _)).self) ?_)
      rintro _ _ ⟨x4, s4, hx4, hs4, rfl, rfl⟩
      show Run _ _ (putF _ _ _ (.int .i64 x4)) [.blk bc 60 [vc, .int .i64 (((s4.1 : Nat) : Int)), .int .u64 (s4.2)], .blk b2 25 [.int .i64 (gridN 1 (2 + x1)), .slice A_u11 ((gridE 1 (2 + x1)).length) c_u11], .own (.slice A_u11 ((gridE 1 (2 + x1)).length) c_u11) 64 2 ((gridE 1 (2 + x1)).length) (ints (fl2 (gridE 1 (2 + x1)))), .blk b1 25 [.int .i64 0, .slice none 0 0]]
      refine Run.q (v := .int .i64 (2 + x4)) rfl (OpQ.y (OpY.add rfl rfl rfl (by omega) (by omega))) ?_
      refine Run.step rfl (OpStep.call (vs := [.int .i64 2, .int .i64 (2 + x4)]) (caps := []) Tcall_82 rfl rfl (fun w hs => sGridGraph_spec 2 (2 + x4) w) ?_)
      rintro _ _ ⟨u3, rfl, rfl⟩
      show Run _ _ (putF _ _ _ (.tuple #[.agg #[.int .i64 (gridN 2 (2 + x4)), u3], .bool (gridOk 2 (2 + x4))])) [.own u3 64 2 ((gridE 2 (2 + x4)).length) (ints (fl2 (gridE 2 (2 + x4)))), .blk bc 60 [vc, .int .i64 (((s4.1 : Nat) : Int)), .int .u64 (s4.2)], .blk b2 25 [.int .i64 (gridN 1 (2 + x1)), .slice A_u11 ((gridE 1 (2 + x1)).length) c_u11], .own (.slice A_u11 ((gridE 1 (2 + x1)).length) c_u11) 64 2 ((gridE 1 (2 + x1)).length) (ints (fl2 (gridE 1 (2 + x1)))), .blk b1 25 [.int .i64 0, .slice none 0 0]]
      have hdgu3 := grid_dg 2 (2 + x4)
      refine Run.q (v := .tuple #[.agg #[.int .i64 (gridN 2 (2 + x4)), u3], .bool (gridOk 2 (2 + x4))]) rfl (OpQ.y (OpY.pure rfl)) ?_
      refine Run.q (v := .agg #[.int .i64 (gridN 2 (2 + x4)), u3]) rfl (OpQ.y (OpY.pure rfl)) ?_
      refine Run.q (v := .bool (gridOk 2 (2 + x4))) rfl (OpQ.y (OpY.pure rfl)) ?_
      refine Run.formOwn (.head _) (fun A_u31 c_u31 hv hcapc_u31 hmaxc_u31 => ?_) (fun _ _ _ => ⟨nofun, nofun, nofun⟩)
      subst hv
      refine Run.step rfl (OpStep.storeAll (us := [.int .i64 (gridN 2 (2 + x4)), .slice A_u31 ((gridE 2 (2 + x4)).length) c_u31]) Tsize_25 rfl rfl rfl (.there _ (.there _ (.here _))) rfl ?_)
      refine Run.done ?_
      refine Run.blockEnd ?_
      refine Run.seq ?_
      refine Run.region ?_
      refine Run.q (v := .agg #[.int .i64 (gridN 2 (2 + x4)), .slice A_u31 ((gridE 2 (2 + x4)).length) c_u31]) rfl (OpQ.y (OpY.loadN (cs := [.int .i64 (gridN 2 (2 + x4)), .slice A_u31 ((gridE 2 (2 + x4)).length) c_u31]) Tagg_25 rfl (Cells.blk (.tail _ (.tail _ (List.Mem.head _))) ⟨rfl, rfl, trivial⟩))) ?_
      refine Run.step rfl (OpStep.storeAll (us := [.int .i64 (gridN 2 (2 + x4)), .slice A_u31 ((gridE 2 (2 + x4)).length) c_u31]) Tsize_25 rfl rfl rfl (.there _ (.there _ (.there _ (.there _ (.here _))))) rfl ?_)
      refine Run.done ?_
      refine Run.ret ?_
      refine ⟨.agg #[.int .i64 (gridN 2 (2 + x4)), .slice A_u31 ((gridE 2 (2 + x4)).length) c_u31], [.own (.slice A_u31 ((gridE 2 (2 + x4)).length) c_u31) 64 2 ((gridE 2 (2 + x4)).length) (ints (fl2 (gridE 2 (2 + x4)))), .blk bc 60 [vc, .int .i64 (((s4.1 : Nat) : Int)), .int .u64 (s4.2)]], Out.cell1 (cs := [.int .i64 (gridN 2 (2 + x4)), .slice A_u31 ((gridE 2 (2 + x4)).length) c_u31]) rfl Tagg_25 rfl (Cells.blk (.tail _ (.tail _ (.tail _ (.tail _ (List.Mem.head _))))) ⟨rfl, rfl, trivial⟩), (Some'.weak (.take (.take (.nil _)))), ?_⟩
      exact ⟨_, _, _, _, _, ⟨grid_dg _ _, gridE_200 _ _⟩, by omega, rfl, rfl⟩
    · have p26 := h26; try simp only [decide_eq_true_eq, decide_eq_false_iff_not, beq_iff_eq, bne_iff_ne, beq_eq_false_iff_ne, ne_eq, gt_iff_lt, ge_iff_le, Int.not_lt, Int.not_le, bne_eq_false_iff_eq, Bool.not_eq_true', Bool.not_eq_false', Bool.and_eq_true, Bool.and_eq_false_iff, Bool.or_eq_true, Bool.or_eq_false_iff, Decidable.not_not, List.cons.injEq, and_true] at p26
      refine Run.seq ?_
      refine Run.region ?_
      refine Run.q (v := .bool (x2 == 2)) rfl (OpQ.y (OpY.pure rfl)) ?_
      refine Run.q (v := .bool (x2 == 2)) rfl (OpQ.y (OpY.pure rfl)) ?_
      refine Run.done ?_
      refine Run.cond (b := x2 == 2) rfl (fun h35 => ?_) (fun h35 => ?_)
      · have p35 := h35; try simp only [decide_eq_true_eq, decide_eq_false_iff_not, beq_iff_eq, bne_iff_ne, beq_eq_false_iff_ne, ne_eq, gt_iff_lt, ge_iff_le, Int.not_lt, Int.not_le, bne_eq_false_iff_eq, Bool.not_eq_true', Bool.not_eq_false', Bool.and_eq_true, Bool.and_eq_false_iff, Bool.or_eq_true, Bool.or_eq_false_iff, Decidable.not_not, List.cons.injEq, and_true] at p35
        refine Run.seq ?_
        refine Run.region ?_
        refine Run.q (v := .pointer (some ⟨bc, 0, none⟩)) rfl (OpQ.y (OpY.pure rfl)) ?_
        refine Run.step rfl (OpStep.callM (H1 := [.blk bc 60 [vc, .int .i64 (((s2.1 : Nat) : Int)), .int .u64 (s2.2)]]) (H2 := [.blk b2 25 [.int .i64 (gridN 1 (2 + x1)), .slice A_u11 ((gridE 1 (2 + x1)).length) c_u11], .own (.slice A_u11 ((gridE 1 (2 + x1)).length) c_u11) 64 2 ((gridE 1 (2 + x1)).length) (ints (fl2 (gridE 1 (2 + x1)))), .blk b1 25 [.int .i64 0, .slice none 0 0]]) (vs := [.pointer (some ⟨bc, 0, none⟩), .int .i64 4]) (caps := []) Tcall_47 rfl rfl (Weak.refl _) (fun w hs => pick_ex (by omega) (hc.go hs) (hs.sub (List.sublist_append_left _ _)).self) ?_)
        rintro _ _ ⟨x5, s5, hx5, hs5, rfl, rfl⟩
        show Run _ _ (putF _ _ _ (.int .i64 x5)) [.blk bc 60 [vc, .int .i64 (((s5.1 : Nat) : Int)), .int .u64 (s5.2)], .blk b2 25 [.int .i64 (gridN 1 (2 + x1)), .slice A_u11 ((gridE 1 (2 + x1)).length) c_u11], .own (.slice A_u11 ((gridE 1 (2 + x1)).length) c_u11) 64 2 ((gridE 1 (2 + x1)).length) (ints (fl2 (gridE 1 (2 + x1)))), .blk b1 25 [.int .i64 0, .slice none 0 0]]
        refine Run.q (v := .int .i64 (2 + x5)) rfl (OpQ.y (OpY.add rfl rfl rfl (by omega) (by omega))) ?_
        refine Run.q (v := .agg #[.int .i64 (2 + x5), .slice none 0 0]) rfl (OpQ.y (OpY.build (cs := [.int .i64 (2 + x5), .slice none 0 0]) (by kernel_rfl))) ?_
        refine Run.step rfl (OpStep.alloc (zs := [.int .i64 0, .slice none 0 0]) Tzero_25 fun b3 => ?_)
        refine Run.step rfl (OpStep.storeAll (us := [.int .i64 (2 + x5), .slice none 0 0]) Tsize_25 rfl rfl rfl (.here _) rfl ?_)
        refine Run.done ?_
        refine Run.seq ?_
        refine Run.seq ?_
        refine Run.region ?_
        refine Run.q (v := .int .i64 0) rfl (OpQ.y (OpY.pure rfl)) ?_
        refine Run.done ?_
        refine Run.block ?_
        refine Run.weak (H' := [.own (.slice none 0 0) 64 2 0 ([]), .blk b3 25 [.int .i64 (2 + x5), .slice none 0 0], .blk bc 60 [vc, .int .i64 (((s5.1 : Nat) : Int)), .int .u64 (s5.2)], .blk b2 25 [.int .i64 (gridN 1 (2 + x1)), .slice A_u11 ((gridE 1 (2 + x1)).length) c_u11], .own (.slice A_u11 ((gridE 1 (2 + x1)).length) c_u11) 64 2 ((gridE 1 (2 + x1)).length) (ints (fl2 (gridE 1 (2 + x1)))), .blk b1 25 [.int .i64 0, .slice none 0 0]]) (Weak.nilOwn _ _) ?_ ⟨_, _, rfl, fun _ => nofun, fun _ => nofun⟩
        refine Run.loop (ι := Nat × (Nat × Int) × Value × Nat × List Int) [6, 7, 41, 42, 43, 44, 45, 46, 47, 48, 49, 50, 51, 52, 53, 54, 55, 56, 57, 58, 59, 60, 61, 62, 63, 64] (fun ⟨i, sc, v, q, es⟩ => [(6, .int .i64 (((i : Nat) : Int)))]) (fun ⟨i, sc, v, q, es⟩ => [.blk b3 25 [.int .i64 (2 + x5), v], .blk bc 60 [vc, .int .i64 (((sc.1 : Nat) : Int)), .int .u64 (sc.2)], .blk b2 25 [.int .i64 (gridN 1 (2 + x1)), .slice A_u11 ((gridE 1 (2 + x1)).length) c_u11], .blk b1 25 [.int .i64 0, .slice none 0 0], .own v 64 2 q (ints es)]) (fun ⟨i, sc, v, q, es⟩ => i ≤ 10 ∧ q ≤ 10 * i ∧ sc.1 ≤ s.1 + 10 + 20 * i ∧ es.length = q * 2 ∧ ∀ x ∈ es, -1 ≤ x ∧ x ≤ 100) (fun ⟨i, sc, v, q, es⟩ => 10 - i) (0, s5, .slice none 0 0, 0, []) ?_ ?_ ?_ ?_
        · exact ⟨by omega, by omega, by omega, rfl, by simp⟩
        · exact ⟨rfl, trivial⟩
        · exact (((((Weak.front [.own (.slice none 0 0) 64 2 0 ([]), .blk b3 25 [.int .i64 (2 + x5), .slice none 0 0], .blk bc 60 [vc, .int .i64 (((s5.1 : Nat) : Int)), .int .u64 (s5.2)], .blk b2 25 [.int .i64 (gridN 1 (2 + x1)), .slice A_u11 ((gridE 1 (2 + x1)).length) c_u11], .own (.slice A_u11 ((gridE 1 (2 + x1)).length) c_u11) 64 2 ((gridE 1 (2 + x1)).length) (ints (fl2 (gridE 1 (2 + x1))))] (.blk b1 25 [.int .i64 0, .slice none 0 0]) []).trans (Weak.front [.blk b1 25 [.int .i64 0, .slice none 0 0], .own (.slice none 0 0) 64 2 0 ([]), .blk b3 25 [.int .i64 (2 + x5), .slice none 0 0], .blk bc 60 [vc, .int .i64 (((s5.1 : Nat) : Int)), .int .u64 (s5.2)]] (.blk b2 25 [.int .i64 (gridN 1 (2 + x1)), .slice A_u11 ((gridE 1 (2 + x1)).length) c_u11]) [.own (.slice A_u11 ((gridE 1 (2 + x1)).length) c_u11) 64 2 ((gridE 1 (2 + x1)).length) (ints (fl2 (gridE 1 (2 + x1))))])).trans (Weak.front [.blk b2 25 [.int .i64 (gridN 1 (2 + x1)), .slice A_u11 ((gridE 1 (2 + x1)).length) c_u11], .blk b1 25 [.int .i64 0, .slice none 0 0], .own (.slice none 0 0) 64 2 0 ([]), .blk b3 25 [.int .i64 (2 + x5), .slice none 0 0]] (.blk bc 60 [vc, .int .i64 (((s5.1 : Nat) : Int)), .int .u64 (s5.2)]) [.own (.slice A_u11 ((gridE 1 (2 + x1)).length) c_u11) 64 2 ((gridE 1 (2 + x1)).length) (ints (fl2 (gridE 1 (2 + x1))))])).trans (Weak.front [.blk bc 60 [vc, .int .i64 (((s5.1 : Nat) : Int)), .int .u64 (s5.2)], .blk b2 25 [.int .i64 (gridN 1 (2 + x1)), .slice A_u11 ((gridE 1 (2 + x1)).length) c_u11], .blk b1 25 [.int .i64 0, .slice none 0 0], .own (.slice none 0 0) 64 2 0 ([])] (.blk b3 25 [.int .i64 (2 + x5), .slice none 0 0]) [.own (.slice A_u11 ((gridE 1 (2 + x1)).length) c_u11) 64 2 ((gridE 1 (2 + x1)).length) (ints (fl2 (gridE 1 (2 + x1))))])).trans (Some'.weak (.takeEq (by first | rfl | simp [ints]) (.takeEq (by first | rfl | simp [ints]) (.take (.take (.takeEq (by first | rfl | simp [ints]) (.nil _))))))))
        · rintro ⟨i, sc, v, q, es⟩ fr hinv
          show Run _ _ (over _ _ [(6, .int .i64 (((i : Nat) : Int)))] fr) [.blk b3 25 [.int .i64 (2 + x5), v], .blk bc 60 [vc, .int .i64 (((sc.1 : Nat) : Int)), .int .u64 (sc.2)], .blk b2 25 [.int .i64 (gridN 1 (2 + x1)), .slice A_u11 ((gridE 1 (2 + x1)).length) c_u11], .blk b1 25 [.int .i64 0, .slice none 0 0], .own v 64 2 q (ints es)]
          try dsimp only at hinv
          obtain ⟨hi, hq, hsc, hel, hes⟩ := hinv
          refine Run.seq ?_
          refine Run.seq ?_
          refine Run.region ?_
          refine Run.q (v := .int .i64 (((i : Nat) : Int))) rfl (OpQ.y (OpY.pure rfl)) ?_
          refine Run.q (v := .pointer (some ⟨b3, 0, none⟩)) rfl (OpQ.y (OpY.fieldAddr Tfo_25_0 rfl rfl)) ?_
          refine Run.q (v := .int .i64 (2 + x5)) rfl (OpQ.y (OpY.load1 Tone_3 rfl (Cells.blk (.head _) ⟨rfl, trivial⟩))) ?_
          refine Run.q (v := .bool (decide ((((i : Nat) : Int)) < (2 + x5)))) rfl (OpQ.y (OpY.pure rfl)) ?_
          refine Run.done ?_
          refine Run.cond (b := decide ((((i : Nat) : Int)) < (2 + x5))) rfl (fun h44 => ?_) (fun h44 => ?_)
          · have p44 := h44; try simp only [decide_eq_true_eq, decide_eq_false_iff_not, beq_iff_eq, bne_iff_ne, beq_eq_false_iff_ne, ne_eq, gt_iff_lt, ge_iff_le, Int.not_lt, Int.not_le, bne_eq_false_iff_eq, Bool.not_eq_true', Bool.not_eq_false', Bool.and_eq_true, Bool.and_eq_false_iff, Bool.or_eq_true, Bool.or_eq_false_iff, Decidable.not_not, List.cons.injEq, and_true] at p44
            refine Run.skip ?_
            refine Run.seq ?_
            refine Run.block ?_
            refine Run.seq ?_
            refine Run.region ?_
            refine Run.q (v := .int .i64 (((i : Nat) : Int))) rfl (OpQ.y (OpY.pure rfl)) ?_
            refine Run.q (v := .int .i64 ((((i : Nat) : Int)) + 1)) rfl (OpQ.y (OpY.add rfl rfl rfl (by omega) (by omega))) ?_
            refine Run.q (v := .int .i64 ((((i : Nat) : Int)) + 1)) rfl (OpQ.y (OpY.pure rfl)) ?_
            refine Run.done ?_
            refine Run.block ?_
            refine Run.loop (ι := Nat × (Nat × Int) × Value × Nat × List Int) [7, 49, 50, 51, 52, 53, 54, 55, 56, 57, 58, 59, 60, 61, 62, 63, 64] (fun ⟨j, sd, v2, q2, es2⟩ => [(7, .int .i64 (((j : Nat) : Int)))]) (fun ⟨j, sd, v2, q2, es2⟩ => [.blk b3 25 [.int .i64 (2 + x5), v2], .blk bc 60 [vc, .int .i64 (((sd.1 : Nat) : Int)), .int .u64 (sd.2)], .blk b2 25 [.int .i64 (gridN 1 (2 + x1)), .slice A_u11 ((gridE 1 (2 + x1)).length) c_u11], .blk b1 25 [.int .i64 0, .slice none 0 0], .own v2 64 2 q2 (ints es2)]) (fun ⟨j, sd, v2, q2, es2⟩ => j ≤ 10 ∧ q2 ≤ 10 * i + j ∧ sd.1 ≤ s.1 + 10 + 20 * i + 2 * j ∧ es2.length = q2 * 2 ∧ ∀ x ∈ es2, -1 ≤ x ∧ x ≤ 100) (fun ⟨j, sd, v2, q2, es2⟩ => 10 - j) (i + 1, sc, v, q, es) ?_ ?_ ?_ ?_
            · exact ⟨by omega, by omega, by omega, hel, hes⟩
            · exact ⟨rfl, trivial⟩
            · exact ((((((Weak.front [.blk b3 25 [.int .i64 (2 + x5), v], .blk bc 60 [vc, .int .i64 (((sc.1 : Nat) : Int)), .int .u64 (sc.2)], .blk b2 25 [.int .i64 (gridN 1 (2 + x1)), .slice A_u11 ((gridE 1 (2 + x1)).length) c_u11], .blk b1 25 [.int .i64 0, .slice none 0 0]] (.own v 64 2 q (ints es)) []).trans (Weak.front [.own v 64 2 q (ints es), .blk b3 25 [.int .i64 (2 + x5), v], .blk bc 60 [vc, .int .i64 (((sc.1 : Nat) : Int)), .int .u64 (sc.2)], .blk b2 25 [.int .i64 (gridN 1 (2 + x1)), .slice A_u11 ((gridE 1 (2 + x1)).length) c_u11]] (.blk b1 25 [.int .i64 0, .slice none 0 0]) [])).trans (Weak.front [.blk b1 25 [.int .i64 0, .slice none 0 0], .own v 64 2 q (ints es), .blk b3 25 [.int .i64 (2 + x5), v], .blk bc 60 [vc, .int .i64 (((sc.1 : Nat) : Int)), .int .u64 (sc.2)]] (.blk b2 25 [.int .i64 (gridN 1 (2 + x1)), .slice A_u11 ((gridE 1 (2 + x1)).length) c_u11]) [])).trans (Weak.front [.blk b2 25 [.int .i64 (gridN 1 (2 + x1)), .slice A_u11 ((gridE 1 (2 + x1)).length) c_u11], .blk b1 25 [.int .i64 0, .slice none 0 0], .own v 64 2 q (ints es), .blk b3 25 [.int .i64 (2 + x5), v]] (.blk bc 60 [vc, .int .i64 (((sc.1 : Nat) : Int)), .int .u64 (sc.2)]) [])).trans (Weak.front [.blk bc 60 [vc, .int .i64 (((sc.1 : Nat) : Int)), .int .u64 (sc.2)], .blk b2 25 [.int .i64 (gridN 1 (2 + x1)), .slice A_u11 ((gridE 1 (2 + x1)).length) c_u11], .blk b1 25 [.int .i64 0, .slice none 0 0], .own v 64 2 q (ints es)] (.blk b3 25 [.int .i64 (2 + x5), v]) [])).trans (Some'.weak (.takeEq (by first | rfl | simp) (.takeEq (by first | rfl | simp) (.take (.take (.takeEq (by first | rfl | simp) (.nil _))))))))
            · rintro ⟨j, sd, v2, q2, es2⟩ fr hinv
              show Run _ _ (over _ _ [(7, .int .i64 (((j : Nat) : Int)))] fr) [.blk b3 25 [.int .i64 (2 + x5), v2], .blk bc 60 [vc, .int .i64 (((sd.1 : Nat) : Int)), .int .u64 (sd.2)], .blk b2 25 [.int .i64 (gridN 1 (2 + x1)), .slice A_u11 ((gridE 1 (2 + x1)).length) c_u11], .blk b1 25 [.int .i64 0, .slice none 0 0], .own v2 64 2 q2 (ints es2)]
              try dsimp only at hinv
              have hl2 := hinv
              obtain ⟨hj, hq2, hsd, _, _⟩ := hinv
              refine Run.seq ?_
              refine Run.seq ?_
              refine Run.region ?_
              refine Run.q (v := .int .i64 (((j : Nat) : Int))) rfl (OpQ.y (OpY.pure rfl)) ?_
              refine Run.q (v := .pointer (some ⟨b3, 0, none⟩)) rfl (OpQ.y (OpY.fieldAddr Tfo_25_0 rfl rfl)) ?_
              refine Run.q (v := .int .i64 (2 + x5)) rfl (OpQ.y (OpY.load1 Tone_3 rfl (Cells.blk (.head _) ⟨rfl, trivial⟩))) ?_
              refine Run.q (v := .bool (decide ((((j : Nat) : Int)) < (2 + x5)))) rfl (OpQ.y (OpY.pure rfl)) ?_
              refine Run.done ?_
              refine Run.cond (b := decide ((((j : Nat) : Int)) < (2 + x5))) rfl (fun h52 => ?_) (fun h52 => ?_)
              · have p52 := h52; try simp only [decide_eq_true_eq, decide_eq_false_iff_not, beq_iff_eq, bne_iff_ne, beq_eq_false_iff_ne, ne_eq, gt_iff_lt, ge_iff_le, Int.not_lt, Int.not_le, bne_eq_false_iff_eq, Bool.not_eq_true', Bool.not_eq_false', Bool.and_eq_true, Bool.and_eq_false_iff, Bool.or_eq_true, Bool.or_eq_false_iff, Decidable.not_not, List.cons.injEq, and_true] at p52
                refine Run.skip ?_
                refine Run.seq ?_
                refine Run.block ?_
                refine Run.seq ?_
                refine Run.region ?_
                refine Run.q (v := .pointer (some ⟨bc, 0, none⟩)) rfl (OpQ.y (OpY.pure rfl)) ?_
                refine Run.step rfl (OpStep.callM (H1 := [.blk bc 60 [vc, .int .i64 (((sd.1 : Nat) : Int)), .int .u64 (sd.2)]]) (H2 := [.blk b3 25 [.int .i64 (2 + x5), v2], .blk b2 25 [.int .i64 (gridN 1 (2 + x1)), .slice A_u11 ((gridE 1 (2 + x1)).length) c_u11], .blk b1 25 [.int .i64 0, .slice none 0 0], .own v2 64 2 q2 (ints es2)]) (vs := [.pointer (some ⟨bc, 0, none⟩), .int .i64 2]) (caps := []) Tcall_60 rfl rfl (Weak.front [.blk b3 25 [.int .i64 (2 + x5), v2]] (.blk bc 60 [vc, .int .i64 (((sd.1 : Nat) : Int)), .int .u64 (sd.2)]) [.blk b2 25 [.int .i64 (gridN 1 (2 + x1)), .slice A_u11 ((gridE 1 (2 + x1)).length) c_u11], .blk b1 25 [.int .i64 0, .slice none 0 0], .own v2 64 2 q2 (ints es2)]) (fun w hs => one_ex (by omega) (hc.go hs) (hs.sub (List.sublist_append_left _ _)).self) ?_)
                rintro _ _ ⟨x6, s6, hs6, rfl, rfl⟩
                show Run _ _ (putF _ _ _ (.bool x6)) [.blk bc 60 [vc, .int .i64 (((s6.1 : Nat) : Int)), .int .u64 (s6.2)], .blk b3 25 [.int .i64 (2 + x5), v2], .blk b2 25 [.int .i64 (gridN 1 (2 + x1)), .slice A_u11 ((gridE 1 (2 + x1)).length) c_u11], .blk b1 25 [.int .i64 0, .slice none 0 0], .own v2 64 2 q2 (ints es2)]
                refine Run.done ?_
                refine Run.cond (b := x6) rfl (fun h56 => ?_) (fun h56 => ?_)
                · have p56 := h56; try simp only [decide_eq_true_eq, decide_eq_false_iff_not, beq_iff_eq, bne_iff_ne, beq_eq_false_iff_ne, ne_eq, gt_iff_lt, ge_iff_le, Int.not_lt, Int.not_le, bne_eq_false_iff_eq, Bool.not_eq_true', Bool.not_eq_false', Bool.and_eq_true, Bool.and_eq_false_iff, Bool.or_eq_true, Bool.or_eq_false_iff, Decidable.not_not, List.cons.injEq, and_true] at p56
                  refine Run.region ?_
                  refine Run.q (v := .pointer (some ⟨b3, 1, none⟩)) rfl (OpQ.y (OpY.fieldAddr Tfo_25_1 rfl rfl)) ?_
                  refine Run.q (v := v2) rfl (OpQ.y (OpY.load1 Tone_23 rfl (Cells.blk (.tail _ (List.Mem.head _)) ⟨rfl, trivial⟩))) ?_
                  refine Run.q (v := .int .i64 (((i : Nat) : Int))) rfl (OpQ.y (OpY.pure rfl)) ?_
                  refine Run.q (v := .int .i64 (((j : Nat) : Int))) rfl (OpQ.y (OpY.pure rfl)) ?_
                  refine Run.q (v := .agg #[.int .i64 (((i : Nat) : Int)), .int .i64 (((j : Nat) : Int))]) rfl (OpQ.y (OpY.build (cs := [.int .i64 (((i : Nat) : Int)), .int .i64 (((j : Nat) : Int))]) (by kernel_rfl))) ?_
                  refine Run.step rfl (OpStep.buildSlice (us := [.int .i64 (((i : Nat) : Int)), .int .i64 (((j : Nat) : Int))]) Tsl_23 (by decide) (by decide) ⟨rfl, [.int .i64 (((i : Nat) : Int)), .int .i64 (((j : Nat) : Int))], _, rfl, rfl, rfl, rfl⟩ rfl fun b4 => ?_)
                  refine Run.step rfl (OpStep.append (H1 := [.own (.slice (some ⟨b4, 0, none⟩) 1 1) 64 2 1 ([.int .i64 (((i : Nat) : Int)), .int .i64 (((j : Nat) : Int))]), .blk bc 60 [vc, .int .i64 (((s6.1 : Nat) : Int)), .int .u64 (s6.2)], .blk b3 25 [.int .i64 (2 + x5), v2], .blk b2 25 [.int .i64 (gridN 1 (2 + x1)), .slice A_u11 ((gridE 1 (2 + x1)).length) c_u11], .blk b1 25 [.int .i64 0, .slice none 0 0]]) (H2 := []) (v := v2) (u := .slice (some ⟨b4, 0, none⟩) 1 1) (n := q2) (m := 1) (xs := ints es2) (ys := [.int .i64 (((i : Nat) : Int)), .int .i64 (((j : Nat) : Int))]) Tsl_23 (by decide) rfl rfl rfl rfl (fun w hs => hs.slOwn (.head _)) (by simp [Value.oneCell']) (by omega) (by simp only [maxLen]; omega) fun av1 hnav1 => ?_)
                  refine Run.weak (H' := [.own (.slice (some ⟨b4, 0, none⟩) 1 1) 64 2 1 ([.int .i64 (((i : Nat) : Int)), .int .i64 (((j : Nat) : Int))]), .blk bc 60 [vc, .int .i64 (((s6.1 : Nat) : Int)), .int .u64 (s6.2)], .blk b3 25 [.int .i64 (2 + x5), v2], .blk b2 25 [.int .i64 (gridN 1 (2 + x1)), .slice A_u11 ((gridE 1 (2 + x1)).length) c_u11], .blk b1 25 [.int .i64 0, .slice none 0 0], .own av1 64 2 (q2 + 1) (ints (es2 ++ [(i : Int), (j : Int)]))]) (Some'.weak (.take (.take (.take (.take (.take (.takeEq (by simp [ints]) (.nil _)))))))) ?_ ⟨_, _, rfl, fun _ => nofun, fun _ => nofun⟩
                  refine Run.q (v := .pointer (some ⟨b3, 1, none⟩)) rfl (OpQ.y (OpY.fieldAddr Tfo_25_1 rfl rfl)) ?_
                  refine Run.formOwn (.tail _ (.tail _ (.tail _ (.tail _ (.tail _ (List.Mem.head _)))))) (fun A_av11 c_av11 hv hcapc_av11 hmaxc_av11 => ?_) (fun _ _ _ => ⟨nofun, nofun, nofun⟩)
                  subst hv
                  refine Run.step rfl (OpStep.store (us := [.slice A_av11 (q2 + 1) c_av11]) Tsize_23 rfl rfl rfl (.there _ (.there _ (.here _))) (by simp only [List.length_cons, List.length_nil]; omega) ?_)
                  show Run _ _ _ [.own (.slice (some ⟨b4, 0, none⟩) 1 1) 64 2 1 ([.int .i64 (((i : Nat) : Int)), .int .i64 (((j : Nat) : Int))]), .blk bc 60 [vc, .int .i64 (((s6.1 : Nat) : Int)), .int .u64 (s6.2)], .blk b3 25 [.int .i64 (2 + x5), .slice A_av11 (q2 + 1) c_av11], .blk b2 25 [.int .i64 (gridN 1 (2 + x1)), .slice A_u11 ((gridE 1 (2 + x1)).length) c_u11], .blk b1 25 [.int .i64 0, .slice none 0 0], .own (.slice A_av11 (q2 + 1) c_av11) 64 2 (q2 + 1) (ints (es2 ++ [(i : Int), (j : Int)]))]
                  refine Run.done ?_
                  refine Run.blockEnd ?_
                  refine Run.region ?_
                  refine Run.q (v := .int .i64 (((j : Nat) : Int))) rfl (OpQ.y (OpY.pure rfl)) ?_
                  refine Run.q (v := .int .i64 ((((j : Nat) : Int)) + 1)) rfl (OpQ.y (OpY.add rfl rfl rfl (by omega) (by omega))) ?_
                  refine Run.q (v := .int .i64 ((((j : Nat) : Int)) + 1)) rfl (OpQ.y (OpY.pure rfl)) ?_
                  refine Run.done ?_
                  refine Run.goal ⟨(by repeat (first | exact Same.refl _ _ | refine Same.put rfl ?_ | refine Same.over rfl rfl ?_)), (j + 1, s6, .slice A_av11 (q2 + 1) c_av11, q2 + 1, es2 ++ [(i : Int), (j : Int)]), ?_, ?_, ?_, ?_⟩
                  · first | exact ⟨by omega, by omega, by omega, by simp; omega, fun x hx => by
                      rcases List.mem_append.1 hx with h | h
                      · exact hl2.2.2.2.2 x h
                      · simp only [List.mem_cons, List.not_mem_nil, or_false] at h; omega⟩ | exact ⟨by omega, by omega, by omega, hl2.2.2.2.1, hl2.2.2.2.2⟩
                  · show 10 - (j + 1) < 10 - j; omega
                  · exact ⟨(by first | rfl | (congr 1; omega) | simp), trivial⟩
                  · exact ((((((Weak.front [.own (.slice (some ⟨b4, 0, none⟩) 1 1) 64 2 1 ([.int .i64 (((i : Nat) : Int)), .int .i64 (((j : Nat) : Int))]), .blk bc 60 [vc, .int .i64 (((s6.1 : Nat) : Int)), .int .u64 (s6.2)], .blk b3 25 [.int .i64 (2 + x5), .slice A_av11 (q2 + 1) c_av11], .blk b2 25 [.int .i64 (gridN 1 (2 + x1)), .slice A_u11 ((gridE 1 (2 + x1)).length) c_u11], .blk b1 25 [.int .i64 0, .slice none 0 0]] (.own (.slice A_av11 (q2 + 1) c_av11) 64 2 (q2 + 1) (ints (es2 ++ [(i : Int), (j : Int)]))) []).trans (Weak.front [.own (.slice A_av11 (q2 + 1) c_av11) 64 2 (q2 + 1) (ints (es2 ++ [(i : Int), (j : Int)])), .own (.slice (some ⟨b4, 0, none⟩) 1 1) 64 2 1 ([.int .i64 (((i : Nat) : Int)), .int .i64 (((j : Nat) : Int))]), .blk bc 60 [vc, .int .i64 (((s6.1 : Nat) : Int)), .int .u64 (s6.2)], .blk b3 25 [.int .i64 (2 + x5), .slice A_av11 (q2 + 1) c_av11], .blk b2 25 [.int .i64 (gridN 1 (2 + x1)), .slice A_u11 ((gridE 1 (2 + x1)).length) c_u11]] (.blk b1 25 [.int .i64 0, .slice none 0 0]) [])).trans (Weak.front [.blk b1 25 [.int .i64 0, .slice none 0 0], .own (.slice A_av11 (q2 + 1) c_av11) 64 2 (q2 + 1) (ints (es2 ++ [(i : Int), (j : Int)])), .own (.slice (some ⟨b4, 0, none⟩) 1 1) 64 2 1 ([.int .i64 (((i : Nat) : Int)), .int .i64 (((j : Nat) : Int))]), .blk bc 60 [vc, .int .i64 (((s6.1 : Nat) : Int)), .int .u64 (s6.2)], .blk b3 25 [.int .i64 (2 + x5), .slice A_av11 (q2 + 1) c_av11]] (.blk b2 25 [.int .i64 (gridN 1 (2 + x1)), .slice A_u11 ((gridE 1 (2 + x1)).length) c_u11]) [])).trans (Weak.front [.blk b2 25 [.int .i64 (gridN 1 (2 + x1)), .slice A_u11 ((gridE 1 (2 + x1)).length) c_u11], .blk b1 25 [.int .i64 0, .slice none 0 0], .own (.slice A_av11 (q2 + 1) c_av11) 64 2 (q2 + 1) (ints (es2 ++ [(i : Int), (j : Int)])), .own (.slice (some ⟨b4, 0, none⟩) 1 1) 64 2 1 ([.int .i64 (((i : Nat) : Int)), .int .i64 (((j : Nat) : Int))])] (.blk bc 60 [vc, .int .i64 (((s6.1 : Nat) : Int)), .int .u64 (s6.2)]) [.blk b3 25 [.int .i64 (2 + x5), .slice A_av11 (q2 + 1) c_av11]])).trans (Weak.front [.blk bc 60 [vc, .int .i64 (((s6.1 : Nat) : Int)), .int .u64 (s6.2)], .blk b2 25 [.int .i64 (gridN 1 (2 + x1)), .slice A_u11 ((gridE 1 (2 + x1)).length) c_u11], .blk b1 25 [.int .i64 0, .slice none 0 0], .own (.slice A_av11 (q2 + 1) c_av11) 64 2 (q2 + 1) (ints (es2 ++ [(i : Int), (j : Int)])), .own (.slice (some ⟨b4, 0, none⟩) 1 1) 64 2 1 ([.int .i64 (((i : Nat) : Int)), .int .i64 (((j : Nat) : Int))])] (.blk b3 25 [.int .i64 (2 + x5), .slice A_av11 (q2 + 1) c_av11]) [])).trans (Some'.weak (.takeEq (by first | rfl | simp) (.takeEq (by first | rfl | simp) (.take (.take (.takeEq (by first | rfl | simp) (.nil _))))))))
                · have p56 := h56; try simp only [decide_eq_true_eq, decide_eq_false_iff_not, beq_iff_eq, bne_iff_ne, beq_eq_false_iff_ne, ne_eq, gt_iff_lt, ge_iff_le, Int.not_lt, Int.not_le, bne_eq_false_iff_eq, Bool.not_eq_true', Bool.not_eq_false', Bool.and_eq_true, Bool.and_eq_false_iff, Bool.or_eq_true, Bool.or_eq_false_iff, Decidable.not_not, List.cons.injEq, and_true] at p56
                  refine Run.skip ?_
                  refine Run.blockEnd ?_
                  refine Run.region ?_
                  refine Run.q (v := .int .i64 (((j : Nat) : Int))) rfl (OpQ.y (OpY.pure rfl)) ?_
                  refine Run.q (v := .int .i64 ((((j : Nat) : Int)) + 1)) rfl (OpQ.y (OpY.add rfl rfl rfl (by omega) (by omega))) ?_
                  refine Run.q (v := .int .i64 ((((j : Nat) : Int)) + 1)) rfl (OpQ.y (OpY.pure rfl)) ?_
                  refine Run.done ?_
                  refine Run.goal ⟨(by repeat (first | exact Same.refl _ _ | refine Same.put rfl ?_ | refine Same.over rfl rfl ?_)), (j + 1, s6, v2, q2, es2), ?_, ?_, ?_, ?_⟩
                  · first | exact ⟨by omega, by omega, by omega, by simp; omega, fun x hx => by
                      rcases List.mem_append.1 hx with h | h
                      · exact hl2.2.2.2.2 x h
                      · simp only [List.mem_cons, List.not_mem_nil, or_false] at h; omega⟩ | exact ⟨by omega, by omega, by omega, hl2.2.2.2.1, hl2.2.2.2.2⟩
                  · show 10 - (j + 1) < 10 - j; omega
                  · exact ⟨(by first | rfl | (congr 1; omega) | simp), trivial⟩
                  · exact ((((((Weak.front [.blk bc 60 [vc, .int .i64 (((s6.1 : Nat) : Int)), .int .u64 (s6.2)], .blk b3 25 [.int .i64 (2 + x5), v2], .blk b2 25 [.int .i64 (gridN 1 (2 + x1)), .slice A_u11 ((gridE 1 (2 + x1)).length) c_u11], .blk b1 25 [.int .i64 0, .slice none 0 0]] (.own v2 64 2 q2 (ints es2)) []).trans (Weak.front [.own v2 64 2 q2 (ints es2), .blk bc 60 [vc, .int .i64 (((s6.1 : Nat) : Int)), .int .u64 (s6.2)], .blk b3 25 [.int .i64 (2 + x5), v2], .blk b2 25 [.int .i64 (gridN 1 (2 + x1)), .slice A_u11 ((gridE 1 (2 + x1)).length) c_u11]] (.blk b1 25 [.int .i64 0, .slice none 0 0]) [])).trans (Weak.front [.blk b1 25 [.int .i64 0, .slice none 0 0], .own v2 64 2 q2 (ints es2), .blk bc 60 [vc, .int .i64 (((s6.1 : Nat) : Int)), .int .u64 (s6.2)], .blk b3 25 [.int .i64 (2 + x5), v2]] (.blk b2 25 [.int .i64 (gridN 1 (2 + x1)), .slice A_u11 ((gridE 1 (2 + x1)).length) c_u11]) [])).trans (Weak.front [.blk b2 25 [.int .i64 (gridN 1 (2 + x1)), .slice A_u11 ((gridE 1 (2 + x1)).length) c_u11], .blk b1 25 [.int .i64 0, .slice none 0 0], .own v2 64 2 q2 (ints es2)] (.blk bc 60 [vc, .int .i64 (((s6.1 : Nat) : Int)), .int .u64 (s6.2)]) [.blk b3 25 [.int .i64 (2 + x5), v2]])).trans (Weak.front [.blk bc 60 [vc, .int .i64 (((s6.1 : Nat) : Int)), .int .u64 (s6.2)], .blk b2 25 [.int .i64 (gridN 1 (2 + x1)), .slice A_u11 ((gridE 1 (2 + x1)).length) c_u11], .blk b1 25 [.int .i64 0, .slice none 0 0], .own v2 64 2 q2 (ints es2)] (.blk b3 25 [.int .i64 (2 + x5), v2]) [])).trans (Some'.weak (.take (.takeEq (by first | rfl | simp) (.take (.take (.takeEq (by first | rfl | simp) (.nil _))))))))
              · have p52 := h52; try simp only [decide_eq_true_eq, decide_eq_false_iff_not, beq_iff_eq, bne_iff_ne, beq_eq_false_iff_ne, ne_eq, gt_iff_lt, ge_iff_le, Int.not_lt, Int.not_le, bne_eq_false_iff_eq, Bool.not_eq_true', Bool.not_eq_false', Bool.and_eq_true, Bool.and_eq_false_iff, Bool.or_eq_true, Bool.or_eq_false_iff, Decidable.not_not, List.cons.injEq, and_true] at p52
                refine Run.exit rfl ?_
                refine Run.blockEnd ?_
                refine Run.region ?_
                refine Run.q (v := .int .i64 (((i : Nat) : Int))) rfl (OpQ.y (OpY.pure rfl)) ?_
                refine Run.q (v := .int .i64 ((((i : Nat) : Int)) + 1)) rfl (OpQ.y (OpY.add rfl rfl rfl (by omega) (by omega))) ?_
                refine Run.q (v := .int .i64 ((((i : Nat) : Int)) + 1)) rfl (OpQ.y (OpY.pure rfl)) ?_
                refine Run.done ?_
                refine Run.goal ⟨(by repeat (first | exact Same.refl _ _ | refine Same.put rfl ?_ | refine Same.over rfl rfl ?_)), (i + 1, sd, v2, q2, es2), ?_, ?_, ?_, ?_⟩
                · exact ⟨by omega, by omega, by omega, hl2.2.2.2.1, hl2.2.2.2.2⟩
                · show 10 - (i + 1) < 10 - i; omega
                · exact ⟨(by first | rfl | (congr 1; omega) | simp), trivial⟩
                · exact ((((((Weak.front [.blk b3 25 [.int .i64 (2 + x5), v2], .blk bc 60 [vc, .int .i64 (((sd.1 : Nat) : Int)), .int .u64 (sd.2)], .blk b2 25 [.int .i64 (gridN 1 (2 + x1)), .slice A_u11 ((gridE 1 (2 + x1)).length) c_u11], .blk b1 25 [.int .i64 0, .slice none 0 0]] (.own v2 64 2 q2 (ints es2)) []).trans (Weak.front [.own v2 64 2 q2 (ints es2), .blk b3 25 [.int .i64 (2 + x5), v2], .blk bc 60 [vc, .int .i64 (((sd.1 : Nat) : Int)), .int .u64 (sd.2)], .blk b2 25 [.int .i64 (gridN 1 (2 + x1)), .slice A_u11 ((gridE 1 (2 + x1)).length) c_u11]] (.blk b1 25 [.int .i64 0, .slice none 0 0]) [])).trans (Weak.front [.blk b1 25 [.int .i64 0, .slice none 0 0], .own v2 64 2 q2 (ints es2), .blk b3 25 [.int .i64 (2 + x5), v2], .blk bc 60 [vc, .int .i64 (((sd.1 : Nat) : Int)), .int .u64 (sd.2)]] (.blk b2 25 [.int .i64 (gridN 1 (2 + x1)), .slice A_u11 ((gridE 1 (2 + x1)).length) c_u11]) [])).trans (Weak.front [.blk b2 25 [.int .i64 (gridN 1 (2 + x1)), .slice A_u11 ((gridE 1 (2 + x1)).length) c_u11], .blk b1 25 [.int .i64 0, .slice none 0 0], .own v2 64 2 q2 (ints es2), .blk b3 25 [.int .i64 (2 + x5), v2]] (.blk bc 60 [vc, .int .i64 (((sd.1 : Nat) : Int)), .int .u64 (sd.2)]) [])).trans (Weak.front [.blk bc 60 [vc, .int .i64 (((sd.1 : Nat) : Int)), .int .u64 (sd.2)], .blk b2 25 [.int .i64 (gridN 1 (2 + x1)), .slice A_u11 ((gridE 1 (2 + x1)).length) c_u11], .blk b1 25 [.int .i64 0, .slice none 0 0], .own v2 64 2 q2 (ints es2)] (.blk b3 25 [.int .i64 (2 + x5), v2]) [])).trans (Some'.weak (.takeEq (by first | rfl | simp [ints]) (.takeEq (by first | rfl | simp [ints]) (.take (.take (.takeEq (by first | rfl | simp [ints]) (.nil _))))))))
          · have p44 := h44; try simp only [decide_eq_true_eq, decide_eq_false_iff_not, beq_iff_eq, bne_iff_ne, beq_eq_false_iff_ne, ne_eq, gt_iff_lt, ge_iff_le, Int.not_lt, Int.not_le, bne_eq_false_iff_eq, Bool.not_eq_true', Bool.not_eq_false', Bool.and_eq_true, Bool.and_eq_false_iff, Bool.or_eq_true, Bool.or_eq_false_iff, Decidable.not_not, List.cons.injEq, and_true] at p44
            have hdgv : DGr (2 + x5) q es := ⟨by omega, by omega, hel, fun x hx => by have := hes x hx; omega⟩
            refine Run.exit rfl ?_
            refine Run.region ?_
            refine Run.q (v := .agg #[.int .i64 (2 + x5), v]) rfl (OpQ.y (OpY.loadN (cs := [.int .i64 (2 + x5), v]) Tagg_25 rfl (Cells.blk (.head _) ⟨rfl, rfl, trivial⟩))) ?_
            refine Run.formOwn (.tail _ (.tail _ (.tail _ (.tail _ (List.Mem.head _))))) (fun A_v1 c_v1 hv hcapc_v1 hmaxc_v1 => ?_) (fun _ _ _ => ⟨nofun, nofun, nofun⟩)
            subst hv
            refine Run.step rfl (OpStep.storeAll (us := [.int .i64 (2 + x5), .slice A_v1 q c_v1]) Tsize_25 rfl rfl rfl (.there _ (.there _ (.here _))) rfl ?_)
            refine Run.done ?_
            refine Run.blockEnd ?_
            refine Run.seq ?_
            refine Run.region ?_
            refine Run.q (v := .agg #[.int .i64 (2 + x5), .slice A_v1 q c_v1]) rfl (OpQ.y (OpY.loadN (cs := [.int .i64 (2 + x5), .slice A_v1 q c_v1]) Tagg_25 rfl (Cells.blk (.tail _ (.tail _ (List.Mem.head _))) ⟨rfl, rfl, trivial⟩))) ?_
            refine Run.step rfl (OpStep.storeAll (us := [.int .i64 (2 + x5), .slice A_v1 q c_v1]) Tsize_25 rfl rfl rfl (.there _ (.there _ (.there _ (.here _)))) rfl ?_)
            refine Run.done ?_
            refine Run.ret ?_
            refine ⟨.agg #[.int .i64 (2 + x5), .slice A_v1 q c_v1], [.own (.slice A_v1 q c_v1) 64 2 q (ints es), .blk bc 60 [vc, .int .i64 (((sc.1 : Nat) : Int)), .int .u64 (sc.2)]], Out.cell1 (cs := [.int .i64 (2 + x5), .slice A_v1 q c_v1]) rfl Tagg_25 rfl (Cells.blk (.tail _ (.tail _ (.tail _ (List.Mem.head _)))) ⟨rfl, rfl, trivial⟩), (((Weak.front [.blk b3 25 [.int .i64 (2 + x5), .slice A_v1 q c_v1]] (.blk bc 60 [vc, .int .i64 (((sc.1 : Nat) : Int)), .int .u64 (sc.2)]) [.blk b2 25 [.int .i64 (2 + x5), .slice A_v1 q c_v1], .blk b1 25 [.int .i64 (2 + x5), .slice A_v1 q c_v1], .own (.slice A_v1 q c_v1) 64 2 q (ints es)]).trans (Weak.front [.blk bc 60 [vc, .int .i64 (((sc.1 : Nat) : Int)), .int .u64 (sc.2)], .blk b3 25 [.int .i64 (2 + x5), .slice A_v1 q c_v1], .blk b2 25 [.int .i64 (2 + x5), .slice A_v1 q c_v1], .blk b1 25 [.int .i64 (2 + x5), .slice A_v1 q c_v1]] (.own (.slice A_v1 q c_v1) 64 2 q (ints es)) [])).trans (Some'.weak (.take (.take (.nil _))))), ?_⟩
            exact ⟨_, _, _, _, _, ⟨hdgv, by omega⟩, by omega, rfl, rfl⟩
      · have p35 := h35; try simp only [decide_eq_true_eq, decide_eq_false_iff_not, beq_iff_eq, bne_iff_ne, beq_eq_false_iff_ne, ne_eq, gt_iff_lt, ge_iff_le, Int.not_lt, Int.not_le, bne_eq_false_iff_eq, Bool.not_eq_true', Bool.not_eq_false', Bool.and_eq_true, Bool.and_eq_false_iff, Bool.or_eq_true, Bool.or_eq_false_iff, Decidable.not_not, List.cons.injEq, and_true] at p35
        refine Run.skip ?_
        refine Run.blockEnd ?_
        refine Run.seq ?_
        refine Run.region ?_
        refine Run.q (v := .agg #[.int .i64 (gridN 1 (2 + x1)), .slice A_u11 ((gridE 1 (2 + x1)).length) c_u11]) rfl (OpQ.y (OpY.loadN (cs := [.int .i64 (gridN 1 (2 + x1)), .slice A_u11 ((gridE 1 (2 + x1)).length) c_u11]) Tagg_25 rfl (Cells.blk (.tail _ (List.Mem.head _)) ⟨rfl, rfl, trivial⟩))) ?_
        refine Run.step rfl (OpStep.storeAll (us := [.int .i64 (gridN 1 (2 + x1)), .slice A_u11 ((gridE 1 (2 + x1)).length) c_u11]) Tsize_25 rfl rfl rfl (.there _ (.there _ (.there _ (.here _)))) rfl ?_)
        refine Run.done ?_
        refine Run.ret ?_
        refine ⟨.agg #[.int .i64 (gridN 1 (2 + x1)), .slice A_u11 ((gridE 1 (2 + x1)).length) c_u11], [.own (.slice A_u11 ((gridE 1 (2 + x1)).length) c_u11) 64 2 ((gridE 1 (2 + x1)).length) (ints (fl2 (gridE 1 (2 + x1)))), .blk bc 60 [vc, .int .i64 (((s2.1 : Nat) : Int)), .int .u64 (s2.2)]], Out.cell1 (cs := [.int .i64 (gridN 1 (2 + x1)), .slice A_u11 ((gridE 1 (2 + x1)).length) c_u11]) rfl Tagg_25 rfl (Cells.blk (.tail _ (.tail _ (.tail _ (List.Mem.head _)))) ⟨rfl, rfl, trivial⟩), ((Weak.front [.blk bc 60 [vc, .int .i64 (((s2.1 : Nat) : Int)), .int .u64 (s2.2)], .blk b2 25 [.int .i64 (gridN 1 (2 + x1)), .slice A_u11 ((gridE 1 (2 + x1)).length) c_u11]] (.own (.slice A_u11 ((gridE 1 (2 + x1)).length) c_u11) 64 2 ((gridE 1 (2 + x1)).length) (ints (fl2 (gridE 1 (2 + x1))))) [.blk b1 25 [.int .i64 (gridN 1 (2 + x1)), .slice A_u11 ((gridE 1 (2 + x1)).length) c_u11]]).trans (Some'.weak (.take (.take (.nil _))))), ?_⟩
        exact ⟨_, _, _, _, _, ⟨grid_dg _ _, gridE_200 _ _⟩, by omega, rfl, rfl⟩

end Go.Proofs.Ytgghmjijjdboeaa
