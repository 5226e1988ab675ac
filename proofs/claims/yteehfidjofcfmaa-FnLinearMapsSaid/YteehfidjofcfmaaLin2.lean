/- Walks: which linear maps are valid, by program and reference. -/
import Derived.Test.YteehfidjofcfmaaLin
import Derived.Test.YteehfidjofcfmaaProg
set_option linter.unusedSimpArgs false
set_option linter.unusedVariables false
namespace Go.Proofs.Yteehfidjofcfmaa
open Go Go.RowKit
namespace Lin2T
theorem Tcall_109 : callable Try.prog 109 = true := by kernel_rfl
theorem Tcall_111 : callable Try.prog 111 = true := by kernel_rfl
theorem Tcall_113 : callable Try.prog 113 = true := by kernel_rfl
theorem Tcall_73 : callable Try.prog 73 = true := by kernel_rfl
theorem Tcall_74 : callable Try.prog 74 = true := by kernel_rfl
theorem Tcall_75 : callable Try.prog 75 = true := by kernel_rfl
theorem Tcall_76 : callable Try.prog 76 = true := by kernel_rfl
theorem Tfo_28_0 : fieldOff Try.prog 28 0 = some 0 := by kernel_rfl
theorem Tone_22 : oneOf Try.prog 22 = true := by kernel_rfl
theorem Tone_3 : oneOf Try.prog 3 = true := by kernel_rfl
theorem Tsize_3 : (Try.prog.info? 3).map (·.size) = some 1 := by kernel_rfl
theorem Tsl_22 : sliceOf Try.prog 22 = some (3, 1, 8, [.int .i64 0]) := by kernel_rfl
theorem Tzero_3 : zeroOf Try.prog 3 = some [.int .i64 0] := by kernel_rfl
end Lin2T
open Lin2T

theorem rkS_b {l : List Nat} {b : Nat} (h : hasB b (rkS l b).1 = true) : rkS l (b + 1) = (pstep b (rkS l b).1, (rkS l b).2 + 1) := by rw [rkS, if_pos h]
theorem rkS_n {l : List Nat} {b : Nat} (h : hasB b (rkS l b).1 = false) : rkS l (b + 1) = rkS l b := by rw [rkS, if_neg (by rw [h]; decide)]
theorem pstep_add (b : Nat) (l : List Nat) : addK b (nx l (idxB b l)) (l.eraseIdx (idxB b l)) (l.eraseIdx (idxB b l)).length = pstep b l := by rw [addK_all]; rfl

set_option maxHeartbeats 1000000 in
set_option maxRecDepth 20000 in
theorem rankOf_spec {va : Value} {r : List Nat} {w : World} (h0 : 0 < r.length) (h5 : r.length ≤ 5) (hb : ∀ x ∈ r, x < 2 ^ 10) (ha : Sl w va 1 r.length (ints (nl r))) : Calls Try.prog 76 #[va] w (Post No w fun v _ => v = .int .i64 ((rkS r 10).2 : Nat)) := by
  refine enter (n := 52) (args := [va]) Try.func76 rfl rfl (St.empty _ _) ?_
  refine Run.seq ?_
  refine Run.region ?_
  refine Run.q (v := .int .i64 0) rfl (OpQ.y (OpY.pure rfl)) ?_
  refine Run.done ?_
  refine Run.seq ?_
  refine Run.region ?_
  refine Run.q (v := va) rfl (OpQ.y (OpY.pure rfl)) ?_
  refine Run.step rfl (OpStep.call (vs := [va]) (caps := []) Tcall_109 rfl rfl (fun w hs => CloneInt_spec (n := r.length) (by omega) h0 (hs.sl ha)) ?_)
  rintro uc _ rfl
  show Run _ _ (putF _ _ _ uc) [.own uc 3 1 (r.length) (ints (nl r))]
  refine Run.q (v := uc) rfl (OpQ.y (OpY.pure rfl)) ?_
  refine Run.q (v := .int .i64 0) rfl (OpQ.y (OpY.pure rfl)) ?_
  refine Run.done ?_
  refine Run.seq ?_
  refine Run.seq ?_
  refine Run.region ?_
  refine Run.q (v := .int .i64 0) rfl (OpQ.y (OpY.pure rfl)) ?_
  refine Run.done ?_
  refine Run.block ?_
  refine Run.loop (ι := Nat × Value) [3, 4, 5, 6, 7, 8, 9, 12, 13, 14, 15, 16, 17, 18, 19, 20, 21, 22, 23, 24, 25, 26, 27, 28, 29, 30, 31, 32, 33, 34, 35, 36, 37, 38, 39, 40, 41, 42, 43, 44, 45, 46, 47, 48, 49, 50] (fun ⟨bb, v⟩ => [(3, v), (4, .int .i64 ((((rkS r bb).2 : Nat) : Int))), (12, .int .i64 (((bb : Nat) : Int)))]) (fun ⟨bb, v⟩ => [.own v 3 1 (((rkS r bb).1).length) (ints (nl ((rkS r bb).1)))]) (fun ⟨bb, v⟩ => bb ≤ 10) (fun ⟨bb, v⟩ => 10 - bb) (0, uc) ?_ ?_ ?_ ?_
  · exact Nat.zero_le _
  · exact ⟨rfl, rfl, rfl, trivial⟩
  · exact (Some'.weak (.takeEq (by first | rfl | (rw [hnx]; done) | (rw [hnx]; show Res.own _ _ _ _ _ = Res.own _ _ _ (pstep bb _).length (ints (nl (pstep bb _))); rw [← hfin]; simp)) (.nil _)))
  · rintro ⟨bb, v⟩ fr hinv
    show Run _ _ (over _ _ [(3, v), (4, .int .i64 ((((rkS r bb).2 : Nat) : Int))), (12, .int .i64 (((bb : Nat) : Int)))] fr) [.own v 3 1 (((rkS r bb).1).length) (ints (nl ((rkS r bb).1)))]
    try dsimp only at hinv
    refine Run.seq ?_
    refine Run.region ?_
    refine Run.q (v := .bool (decide ((((bb : Nat) : Int)) < 10))) rfl (OpQ.y (OpY.pure rfl)) ?_
    refine Run.done ?_
    refine Run.seq ?_
    refine Run.cond (b := decide ((((bb : Nat) : Int)) < 10)) rfl (fun h13 => ?_) (fun h13 => ?_)
    · have p13 := h13; try simp only [bs] at p13
      have hnl1 := nl_length (rkS r bb).1
      have hlb := rkS_len r bb
      have hbd := rkS_bound r (k := 10) hb bb
      have hidx := findI_idx ((rkS r bb).1) bb
      refine Run.skip ?_
      refine Run.seq ?_
      refine Run.block ?_
      refine Run.seq ?_
      refine Run.region ?_
      refine Run.q (v := .int .i64 (((bb : Nat) : Int))) rfl (OpQ.y (OpY.pure rfl)) ?_
      refine Run.step rfl (OpStep.alloc (zs := [.int .i64 0]) Tzero_3 fun b1 => ?_)
      refine Run.step rfl (OpStep.storeAll (us := [.int .i64 (((bb : Nat) : Int))]) Tsize_3 rfl rfl rfl (.here _) rfl ?_)
      refine Run.done ?_
      refine Run.seq ?_
      refine Run.region ?_
      refine Run.q (v := v) rfl (OpQ.y (OpY.pure rfl)) ?_
      refine Run.q (v := .func (.func 112) #[] #[.pointer (some ⟨b1, 0, none⟩)]) rfl (OpQ.y (OpY.makeFunc (caps := [.pointer (some ⟨b1, 0, none⟩)]) rfl)) ?_
      refine Run.q (v := .int .i64 (findI (fun i => bitI (ix (nl ((rkS r bb).1)) i) bb) ((rkS r bb).1).length)) rfl (OpQ.call (vs := [v, .func (.func 112) #[] #[.pointer (some ⟨b1, 0, none⟩)]]) (caps := []) Tcall_111 rfl rfl (fun w hs => IndexFuncRank_spec (bb := bb) (hs.slOwn (.tail _ (List.Mem.head _))) (hs.slBlk (.head _)) (by omega))) ?_
      refine Run.q (v := .int .i64 (findI (fun i => bitI (ix (nl ((rkS r bb).1)) i) bb) ((rkS r bb).1).length)) rfl (OpQ.y (OpY.pure rfl)) ?_
      refine Run.done ?_
      refine Run.seq ?_
      refine Run.seq ?_
      refine Run.region ?_
      refine Run.q (v := .int .i64 (findI (fun i => bitI (ix (nl ((rkS r bb).1)) i) bb) ((rkS r bb).1).length)) rfl (OpQ.y (OpY.pure rfl)) ?_
      refine Run.q (v := .bool (decide ((findI (fun i => bitI (ix (nl ((rkS r bb).1)) i) bb) ((rkS r bb).1).length) < 0))) rfl (OpQ.y (OpY.pure rfl)) ?_
      refine Run.done ?_
      refine Run.cond (b := decide ((findI (fun i => bitI (ix (nl ((rkS r bb).1)) i) bb) ((rkS r bb).1).length) < 0)) rfl (fun h19 => ?_) (fun h19 => ?_)
      · have p19 := h19; try simp only [bs] at p19
        have hn : hasB bb (rkS r bb).1 = false := by
          cases hh : hasB bb (rkS r bb).1 with
          | false => rfl
          | true => rw [hh, if_pos rfl] at hidx; omega
        have hnx := rkS_n hn
        refine Run.exit rfl ?_
        refine Run.region ?_
        refine Run.q (v := .int .i64 ((((bb : Nat) : Int)) + 1)) rfl (OpQ.y (OpY.add rfl rfl rfl (by omega) (by omega))) ?_
        refine Run.q (v := .int .i64 ((((bb : Nat) : Int)) + 1)) rfl (OpQ.y (OpY.pure rfl)) ?_
        refine Run.done ?_
        refine Run.goal ⟨(by repeat (first | exact Same.refl _ _ | refine Same.put rfl ?_ | refine Same.over rfl rfl ?_)), (bb + 1, v), ?_, ?_, ?_, ?_⟩
        · show bb + 1 ≤ 10; omega
        · show 10 - (bb + 1) < 10 - bb; omega
        · exact ⟨(by first | rfl | (congr 1; omega) | simp), (by show Value.int _ _ = Value.int _ _; congr 1; rw [hnx]; try (push_cast; rfl)), (by first | rfl | (congr 1; omega) | simp), trivial⟩
        · exact (Some'.weak (.skip (.takeEq (by first | rfl | (rw [hnx]; done) | (rw [hnx]; show Res.own _ _ _ _ _ = Res.own _ _ _ (pstep bb _).length (ints (nl (pstep bb _))); rw [← hfin]; simp)) (.nil _))))
      · have p19 := h19; try simp only [bs] at p19
        have hh : hasB bb (rkS r bb).1 = true := by
          cases hh : hasB bb (rkS r bb).1 with
          | true => rfl
          | false => rw [hh, if_neg (by decide)] at hidx; omega
        rw [hh, if_pos rfl] at hidx
        have hil := idxB_lt hh
        have hnx := rkS_b hh
        have hdl : (((rkS r bb).1.eraseIdx (idxB bb (rkS r bb).1))).length = (rkS r bb).1.length - 1 := by rw [List.length_eraseIdx, if_pos hil]
        rw [hidx]
        refine Run.skip ?_
        refine Run.seq ?_
        refine Run.openOwn (.tail _ (List.Mem.head _)) (by omega) (fun g cg hvg hcapg _ => ?_) (fun _ _ _ => ⟨nofun, nofun, nofun⟩)
        subst hvg
        refine Run.region ?_
        refine Run.q (v := .slice (some ⟨g, 0, none⟩) (((rkS r bb).1).length) cg) rfl (OpQ.y (OpY.pure rfl)) ?_
        refine Run.q (v := .int .i64 (((idxB bb (rkS r bb).1 : Nat) : Int))) rfl (OpQ.y (OpY.pure rfl)) ?_
        refine Run.q (v := .pointer (some ⟨g, idxB bb (rkS r bb).1, none⟩)) rfl (OpQ.y (OpY.index (kk := idxB bb (rkS r bb).1) Tsl_22 rfl rfl (by omega) (by omega) (by first | rfl | omega))) ?_
        refine Run.q (v := .int .i64 (ix (nl ((rkS r bb).1)) (idxB bb (rkS r bb).1))) rfl (OpQ.y (OpY.load1 Tone_3 rfl (Cells.own0 (.tail _ (List.Mem.head _)) (pre1 (by omega))))) ?_
        refine Run.q (v := .int .i64 (ix (nl ((rkS r bb).1)) (idxB bb (rkS r bb).1))) rfl (OpQ.y (OpY.pure rfl)) ?_
        refine Run.done ?_
        refine Run.seq ?_
        refine Run.region ?_
        refine Run.q (v := .slice (some ⟨g, 0, none⟩) (((rkS r bb).1).length) cg) rfl (OpQ.y (OpY.pure rfl)) ?_
        refine Run.q (v := .int .i64 (((idxB bb (rkS r bb).1 : Nat) : Int))) rfl (OpQ.y (OpY.pure rfl)) ?_
        refine Run.q (v := .int .i64 (((idxB bb (rkS r bb).1 : Nat) : Int))) rfl (OpQ.y (OpY.pure rfl)) ?_
        refine Run.q (v := .int .i64 ((((idxB bb (rkS r bb).1 : Nat) : Int)) + 1)) rfl (OpQ.y (OpY.add rfl rfl rfl (by omega) (by omega))) ?_
        refine Run.step rfl (OpStep.callM (H1 := [.own (.slice (some ⟨g, 0, none⟩) (((rkS r bb).1).length) cg) 3 1 (((rkS r bb).1).length) (ints (nl ((rkS r bb).1)))]) (H2 := [.blk b1 3 [.int .i64 (((bb : Nat) : Int))]]) (vs := [.slice (some ⟨g, 0, none⟩) (((rkS r bb).1).length) cg, .int .i64 (((idxB bb (rkS r bb).1 : Nat) : Int)), .int .i64 ((((idxB bb (rkS r bb).1 : Nat) : Int)) + 1)]) (caps := []) Tcall_113 rfl rfl (Weak.front [.blk b1 3 [.int .i64 (((bb : Nat) : Int))]] (.own (.slice (some ⟨g, 0, none⟩) (((rkS r bb).1).length) cg) 3 1 (((rkS r bb).1).length) (ints (nl ((rkS r bb).1)))) []) (fun w hs => (by have h := DeleteInt_spec (hs.holds _ (.head _)) hil; rw [nl_erase, ← hdl] at h; exact h)) ?_)
        rintro vd _ rfl
        show Run _ _ (putF _ _ _ vd) [.own vd 3 1 ((((rkS r bb).1.eraseIdx (idxB bb (rkS r bb).1))).length) (ints (nl (((rkS r bb).1.eraseIdx (idxB bb (rkS r bb).1))))), .blk b1 3 [.int .i64 (((bb : Nat) : Int))]]
        refine Run.q (v := vd) rfl (OpQ.y (OpY.pure rfl)) ?_
        refine Run.done ?_
        refine Run.seq ?_
        refine Run.seq ?_
        refine Run.region ?_
        refine Run.q (v := vd) rfl (OpQ.y (OpY.pure rfl)) ?_
        refine Run.formOwn (.head _) (fun A_vd1 c_vd1 hv hcapc_vd1 hmaxc_vd1 => ?_) (fun _ _ _ => ⟨nofun, nofun, nofun⟩)
        subst hv
        refine Run.q (v := .int .i64 ((((((rkS r bb).1.eraseIdx (idxB bb (rkS r bb).1))).length : Nat) : Int))) rfl (OpQ.y (OpY.len Tsl_22 rfl)) ?_
        refine Run.q (v := .int .i64 0) rfl (OpQ.y (OpY.pure rfl)) ?_
        refine Run.done ?_
        refine Run.block ?_
        refine Run.loop (ι := Nat) [8, 9, 31, 32, 33, 34, 35, 36, 37, 38, 39, 40, 41, 42, 43, 44, 45, 46, 47] (fun j => [(31, .int .i64 (((j : Nat) : Int)))]) (fun j => [.own (.slice A_vd1 ((((rkS r bb).1.eraseIdx (idxB bb (rkS r bb).1))).length) c_vd1) 3 1 ((((rkS r bb).1.eraseIdx (idxB bb (rkS r bb).1))).length) (ints (nl (addK bb (nx (rkS r bb).1 (idxB bb (rkS r bb).1)) ((rkS r bb).1.eraseIdx (idxB bb (rkS r bb).1)) j))), .blk b1 3 [.int .i64 (((bb : Nat) : Int))]]) (fun j => j ≤ (((rkS r bb).1.eraseIdx (idxB bb (rkS r bb).1))).length) (fun j => (((rkS r bb).1.eraseIdx (idxB bb (rkS r bb).1))).length - j) 0 ?_ ?_ ?_ ?_
        · exact Nat.zero_le _
        · exact ⟨rfl, trivial⟩
        · exact (Some'.weak (.takeEq (by first | rfl | (rw [hX]; done) | (rw [hX, nl_set]; done) | (rw [nl_erase, ← hdl]; rfl) | (rw [nl_set])) (.take (.nil _))))
        · rintro j fr hinv
          show Run _ _ (over _ _ [(31, .int .i64 (((j : Nat) : Int)))] fr) [.own (.slice A_vd1 ((((rkS r bb).1.eraseIdx (idxB bb (rkS r bb).1))).length) c_vd1) 3 1 ((((rkS r bb).1.eraseIdx (idxB bb (rkS r bb).1))).length) (ints (nl (addK bb (nx (rkS r bb).1 (idxB bb (rkS r bb).1)) ((rkS r bb).1.eraseIdx (idxB bb (rkS r bb).1)) j))), .blk b1 3 [.int .i64 (((bb : Nat) : Int))]]
          try dsimp only at hinv
          refine Run.seq ?_
          refine Run.region ?_
          refine Run.q (v := .bool (decide ((((j : Nat) : Int)) < ((((((rkS r bb).1.eraseIdx (idxB bb (rkS r bb).1))).length : Nat) : Int))))) rfl (OpQ.y (OpY.pure rfl)) ?_
          refine Run.done ?_
          refine Run.seq ?_
          refine Run.cond (b := decide ((((j : Nat) : Int)) < ((((((rkS r bb).1.eraseIdx (idxB bb (rkS r bb).1))).length : Nat) : Int)))) rfl (fun h32 => ?_) (fun h32 => ?_)
          · have p32 := h32; try simp only [bs] at p32
            have hlt : j < (((rkS r bb).1.eraseIdx (idxB bb (rkS r bb).1))).length := by omega
            have hal := addK_length bb (nx (rkS r bb).1 (idxB bb (rkS r bb).1)) ((rkS r bb).1.eraseIdx (idxB bb (rkS r bb).1)) j
            have hnl2 := nl_length (addK bb (nx (rkS r bb).1 (idxB bb (rkS r bb).1)) ((rkS r bb).1.eraseIdx (idxB bb (rkS r bb).1)) j)
            refine Run.openOwn (.head _) (by omega) (fun g2 cg2 hvg2 hcapg2 _ => ?_) (fun _ _ _ => ⟨nofun, nofun, nofun⟩)
            injection hvg2 with hAg2 _ hcg2; subst hAg2; subst hcg2
            refine Run.skip ?_
            refine Run.seq ?_
            refine Run.block ?_
            refine Run.seq ?_
            refine Run.region ?_
            refine Run.q (v := .int .i64 (((j : Nat) : Int))) rfl (OpQ.y (OpY.pure rfl)) ?_
            refine Run.q (v := .pointer (some ⟨g2, j, none⟩)) rfl (OpQ.y (OpY.index (kk := j) Tsl_22 rfl rfl (by omega) (by omega) (by first | rfl | omega))) ?_
            refine Run.q (v := .int .i64 (ix (nl (addK bb (nx (rkS r bb).1 (idxB bb (rkS r bb).1)) ((rkS r bb).1.eraseIdx (idxB bb (rkS r bb).1)) j)) (j))) rfl (OpQ.y (OpY.load1 Tone_3 rfl (Cells.own0 (.head _) (pre1 (by omega))))) ?_
            refine Run.q (v := .int .i64 (((j : Nat) : Int))) rfl (OpQ.y (OpY.pure rfl)) ?_
            refine Run.q (v := .int .i64 (ix (nl (addK bb (nx (rkS r bb).1 (idxB bb (rkS r bb).1)) ((rkS r bb).1.eraseIdx (idxB bb (rkS r bb).1)) j)) (j))) rfl (OpQ.y (OpY.pure rfl)) ?_
            refine Run.done ?_
            refine Run.seq ?_
            refine Run.region ?_
            refine Run.q (v := .int .i64 (ix (nl (addK bb (nx (rkS r bb).1 (idxB bb (rkS r bb).1)) ((rkS r bb).1.eraseIdx (idxB bb (rkS r bb).1)) j)) (j))) rfl (OpQ.y (OpY.pure rfl)) ?_
            refine Run.q (v := .int .i64 (((bb : Nat) : Int))) rfl (OpQ.y (OpY.load1 Tone_3 rfl (Cells.blk (.tail _ (List.Mem.head _)) ⟨rfl, trivial⟩))) ?_
            refine Run.q (v := .int .i64 ((ix (nl (addK bb (nx (rkS r bb).1 (idxB bb (rkS r bb).1)) ((rkS r bb).1.eraseIdx (idxB bb (rkS r bb).1)) j)) (j)) >>> bb)) rfl (OpQ.y (OpY.shr rfl rfl (by first | rfl | omega) (by omega))) ?_
            refine Run.q (v := .int .i64 (((ix (nl (addK bb (nx (rkS r bb).1 (idxB bb (rkS r bb).1)) ((rkS r bb).1.eraseIdx (idxB bb (rkS r bb).1)) j)) (j)) >>> bb) % 2)) rfl (OpQ.y (OpY.and1 rfl rfl)) ?_
            refine Run.q (v := .bool ((((ix (nl (addK bb (nx (rkS r bb).1 (idxB bb (rkS r bb).1)) ((rkS r bb).1.eraseIdx (idxB bb (rkS r bb).1)) j)) (j)) >>> bb) % 2) == 1)) rfl (OpQ.y (OpY.pure rfl)) ?_
            refine Run.done ?_
            refine Run.cond (b := (((ix (nl (addK bb (nx (rkS r bb).1 (idxB bb (rkS r bb).1)) ((rkS r bb).1.eraseIdx (idxB bb (rkS r bb).1)) j)) (j)) >>> bb) % 2) == 1) rfl (fun h40 => ?_) (fun h40 => ?_)
            · have p40 := h40; try simp only [bs] at p40
              have hbit : (nx (addK bb (nx (rkS r bb).1 (idxB bb (rkS r bb).1)) ((rkS r bb).1.eraseIdx (idxB bb (rkS r bb).1)) j) j).testBit bb = true := by rw [← bitI_nl]; exact bitI_true p40
              have hX : addK bb (nx (rkS r bb).1 (idxB bb (rkS r bb).1)) ((rkS r bb).1.eraseIdx (idxB bb (rkS r bb).1)) (j + 1) = (addK bb (nx (rkS r bb).1 (idxB bb (rkS r bb).1)) ((rkS r bb).1.eraseIdx (idxB bb (rkS r bb).1)) j).set j (nx (addK bb (nx (rkS r bb).1 (idxB bb (rkS r bb).1)) ((rkS r bb).1.eraseIdx (idxB bb (rkS r bb).1)) j) j ^^^ nx (rkS r bb).1 (idxB bb (rkS r bb).1)) := by rw [addK, if_pos hbit]
              have hv : nx (addK bb (nx (rkS r bb).1 (idxB bb (rkS r bb).1)) ((rkS r bb).1.eraseIdx (idxB bb (rkS r bb).1)) j) j < 2 ^ 10 := by
                rw [nx_addK (by omega) hlt, if_neg (fun h => absurd h.1 (Nat.lt_irrefl _))]
                exact nx_lt (fun x hx => hbd x (List.mem_of_mem_eraseIdx hx)) _
              have hpv : nx (rkS r bb).1 (idxB bb (rkS r bb).1) < 2 ^ 10 := nx_lt hbd _
              refine Run.region ?_
              refine Run.q (v := .slice (some ⟨g2, 0, none⟩) ((((rkS r bb).1.eraseIdx (idxB bb (rkS r bb).1))).length) c_vd1) rfl (OpQ.y (OpY.pure rfl)) ?_
              refine Run.q (v := .int .i64 (((j : Nat) : Int))) rfl (OpQ.y (OpY.pure rfl)) ?_
              refine Run.q (v := .int .i64 (ix (nl (addK bb (nx (rkS r bb).1 (idxB bb (rkS r bb).1)) ((rkS r bb).1.eraseIdx (idxB bb (rkS r bb).1)) j)) (j))) rfl (OpQ.y (OpY.pure rfl)) ?_
              refine Run.q (v := .int .i64 (ix (nl ((rkS r bb).1)) (idxB bb (rkS r bb).1))) rfl (OpQ.y (OpY.pure rfl)) ?_
              refine Run.q (v := .int .i64 (((nx (addK bb (nx (rkS r bb).1 (idxB bb (rkS r bb).1)) ((rkS r bb).1.eraseIdx (idxB bb (rkS r bb).1)) j) j ^^^ nx (rkS r bb).1 (idxB bb (rkS r bb).1) : Nat) : Int))) rfl (OpQ.y (OpY.xorNat rfl rfl (ix_nl _ _) (ix_nl _ _) (by omega) (by omega))) ?_
              refine Run.q (v := .pointer (some ⟨g2, j, none⟩)) rfl (OpQ.y (OpY.index (kk := j) Tsl_22 rfl rfl (by omega) (by omega) (by first | rfl | omega))) ?_
              refine Run.step rfl (OpStep.storeOwnInt (o := j) (a := ((nx (addK bb (nx (rkS r bb).1 (idxB bb (rkS r bb).1)) ((rkS r bb).1.eraseIdx (idxB bb (rkS r bb).1)) j) j ^^^ nx (rkS r bb).1 (idxB bb (rkS r bb).1) : Nat) : Int)) Tsize_3 rfl rfl (.here _) (by omega) ?_)
              refine Run.done ?_
              refine Run.blockEnd ?_
              refine Run.region ?_
              refine Run.q (v := .int .i64 ((((j : Nat) : Int)) + 1)) rfl (OpQ.y (OpY.add rfl rfl rfl (by omega) (by omega))) ?_
              refine Run.q (v := .int .i64 ((((j : Nat) : Int)) + 1)) rfl (OpQ.y (OpY.pure rfl)) ?_
              refine Run.done ?_
              refine Run.goal ⟨(by repeat (first | exact Same.refl _ _ | refine Same.put rfl ?_ | refine Same.over rfl rfl ?_)), j + 1, ?_, ?_, ?_, ?_⟩
              · omega
              · omega
              · exact ⟨(by first | rfl | (congr 1; omega) | simp), trivial⟩
              · exact (Some'.weak (.takeEq (by first | rfl | (rw [hX]; done) | (rw [hX, nl_set]; done) | (rw [nl_erase, ← hdl]; rfl) | (rw [nl_set])) (.take (.nil _))))
            · have p40 := h40; try simp only [bs] at p40
              have hbit : (nx (addK bb (nx (rkS r bb).1 (idxB bb (rkS r bb).1)) ((rkS r bb).1.eraseIdx (idxB bb (rkS r bb).1)) j) j).testBit bb = false := by rw [← bitI_nl]; exact bitI_ne1 p40
              have hX : addK bb (nx (rkS r bb).1 (idxB bb (rkS r bb).1)) ((rkS r bb).1.eraseIdx (idxB bb (rkS r bb).1)) (j + 1) = addK bb (nx (rkS r bb).1 (idxB bb (rkS r bb).1)) ((rkS r bb).1.eraseIdx (idxB bb (rkS r bb).1)) j := by rw [addK, if_neg (by rw [hbit]; decide)]
              refine Run.skip ?_
              refine Run.blockEnd ?_
              refine Run.region ?_
              refine Run.q (v := .int .i64 ((((j : Nat) : Int)) + 1)) rfl (OpQ.y (OpY.add rfl rfl rfl (by omega) (by omega))) ?_
              refine Run.q (v := .int .i64 ((((j : Nat) : Int)) + 1)) rfl (OpQ.y (OpY.pure rfl)) ?_
              refine Run.done ?_
              refine Run.goal ⟨(by repeat (first | exact Same.refl _ _ | refine Same.put rfl ?_ | refine Same.over rfl rfl ?_)), j + 1, ?_, ?_, ?_, ?_⟩
              · omega
              · omega
              · exact ⟨(by first | rfl | (congr 1; omega) | simp), trivial⟩
              · exact (Some'.weak (.takeEq (by first | rfl | (rw [hX]; done) | (rw [hX, nl_set]; done) | (rw [nl_erase, ← hdl]; rfl) | (rw [nl_set])) (.take (.nil _))))
          · have p32 := h32; try simp only [bs] at p32
            have hj : j = (((rkS r bb).1.eraseIdx (idxB bb (rkS r bb).1))).length := by omega
            have hfin : addK bb (nx (rkS r bb).1 (idxB bb (rkS r bb).1)) ((rkS r bb).1.eraseIdx (idxB bb (rkS r bb).1)) j = pstep bb (rkS r bb).1 := by rw [hj]; exact pstep_add bb (rkS r bb).1
            refine Run.exit rfl ?_
            refine Run.region ?_
            refine Run.q (v := .int .i64 ((((rkS r bb).2 : Nat) : Int))) rfl (OpQ.y (OpY.pure rfl)) ?_
            refine Run.q (v := .int .i64 (((((rkS r bb).2 : Nat) : Int)) + 1)) rfl (OpQ.y (OpY.add rfl rfl rfl (by omega) (by omega))) ?_
            refine Run.q (v := .int .i64 (((((rkS r bb).2 : Nat) : Int)) + 1)) rfl (OpQ.y (OpY.pure rfl)) ?_
            refine Run.done ?_
            refine Run.blockEnd ?_
            refine Run.region ?_
            refine Run.q (v := .int .i64 ((((bb : Nat) : Int)) + 1)) rfl (OpQ.y (OpY.add rfl rfl rfl (by omega) (by omega))) ?_
            refine Run.q (v := .int .i64 ((((bb : Nat) : Int)) + 1)) rfl (OpQ.y (OpY.pure rfl)) ?_
            refine Run.done ?_
            refine Run.goal ⟨(by repeat (first | exact Same.refl _ _ | refine Same.put rfl ?_ | refine Same.over rfl rfl ?_)), (bb + 1, .slice A_vd1 ((((rkS r bb).1.eraseIdx (idxB bb (rkS r bb).1))).length) c_vd1), ?_, ?_, ?_, ?_⟩
            · show bb + 1 ≤ 10; omega
            · show 10 - (bb + 1) < 10 - bb; omega
            · exact ⟨(by first | rfl | (congr 1; omega) | simp), (by show Value.int _ _ = Value.int _ _; congr 1; rw [hnx]; try (push_cast; rfl)), (by first | rfl | (congr 1; omega) | simp), trivial⟩
            · exact (Some'.weak (.takeEq (by first | rfl | (rw [hnx]; done) | (rw [hnx]; show Res.own _ _ _ _ _ = Res.own _ _ _ (pstep bb _).length (ints (nl (pstep bb _))); rw [← hfin]; simp)) (.nil _)))
    · have p13 := h13; try simp only [bs] at p13
      have hb10 : bb = 10 := by omega
      refine Run.exit rfl ?_
      refine Run.seq ?_
      refine Run.region ?_
      refine Run.q (v := .int .i64 ((((rkS r bb).2 : Nat) : Int))) rfl (OpQ.y (OpY.pure rfl)) ?_
      refine Run.q (v := .int .i64 ((((rkS r bb).2 : Nat) : Int))) rfl (OpQ.y (OpY.pure rfl)) ?_
      refine Run.done ?_
      refine Run.ret ?_
      refine ⟨.int .i64 ((((rkS r bb).2 : Nat) : Int)), [], Out.one rfl rfl, (Some'.weak (.nil _)), ?_⟩
      show _ = _; rw [hb10]

set_option maxHeartbeats 1000000 in
set_option maxRecDepth 20000 in
theorem linClo_spec {x : Int} {nn p : Nat} {w : World} (hc : Sl w (.slice (some ⟨p, 0, none⟩) 1 1) 1 1 [.int .i64 nn]) (hn5 : nn ≤ 5) : Calls Try.prog 75 #[.int .i64 x, .pointer (some ⟨p, 0, none⟩)] w (Post No w fun v _ => v = .bool (!within x 0 (((2 ^ nn : Nat) : Int) - 1))) := by
  have hp5 := pow5 hn5
  obtain ⟨q, hq⟩ : ∃ q : Nat, q = 2 ^ nn := ⟨_, rfl⟩
  rw [← hq] at hp5 ⊢
  refine enter (n := 10) (args := [.int .i64 x, .pointer (some ⟨p, 0, none⟩)]) Try.func75 rfl rfl (St.empty _ _) ?_
  refine Run.seq ?_
  refine Run.region ?_
  refine Run.q (v := .bool false) rfl (OpQ.y (OpY.pure rfl)) ?_
  refine Run.done ?_
  refine Run.seq ?_
  refine Run.region ?_
  refine Run.q (v := .int .i64 x) rfl (OpQ.y (OpY.pure rfl)) ?_
  refine Run.q (v := .int .i64 (((nn : Nat) : Int))) rfl (OpQ.y (OpY.load1 Tone_3 rfl (Cells.env (k := 0) hc rfl (by decide) ⟨rfl, trivial⟩))) ?_
  refine Run.q (v := .int .i64 (((q : Nat) : Int))) rfl (OpQ.y (OpY.shlOne rfl rfl rfl (by omega) hq)) ?_
  refine Run.q (v := .int .i64 ((((q : Nat) : Int)) - 1)) rfl (OpQ.y (OpY.sub rfl rfl rfl (by omega) (by omega))) ?_
  refine Run.q (v := .bool (within x 0 (((q : Nat) : Int) - 1))) rfl (OpQ.call (vs := [.int .i64 x, .int .i64 0, .int .i64 ((((q : Nat) : Int)) - 1)]) (caps := []) Tcall_73 rfl rfl (fun w hs => within_spec _ _ _ w)) ?_
  refine Run.q (v := .bool (!(within x 0 (((q : Nat) : Int) - 1)))) rfl (OpQ.y (OpY.pure rfl)) ?_
  refine Run.q (v := .bool (!(within x 0 (((q : Nat) : Int) - 1)))) rfl (OpQ.y (OpY.pure rfl)) ?_
  refine Run.done ?_
  refine Run.ret ?_
  refine ⟨.bool (!(within x 0 (((q : Nat) : Int) - 1))), [], Out.one rfl rfl, (Some'.weak (.nil _)), ?_⟩
  rfl

set_option maxHeartbeats 1000000 in
set_option maxRecDepth 20000 in
theorem IndexFuncLin_spec {nn p : Nat} {va : Value} {n : Nat} {xs : List Int} {w : World} (ha : Sl w va 1 n (ints xs)) (hc : Sl w (.slice (some ⟨p, 0, none⟩) 1 1) 1 1 [.int .i64 nn]) (hn5 : nn ≤ 5) : Calls Try.prog 111 #[va, .func (.func 75) #[] #[.pointer (some ⟨p, 0, none⟩)]] w (Post No w fun v _ => v = .int .i64 (findI (fun i => !within (ix xs i) 0 (((2 ^ nn : Nat) : Int) - 1)) n)) := by
  have hxl := ha.len
  have hn := ha.le
  obtain ⟨A, c, rfl, _, _⟩ := ha.form0
  refine enter (n := 19) (args := [.slice A n c, .func (.func 75) #[] #[.pointer (some ⟨p, 0, none⟩)]]) Try.func111 rfl rfl (St.empty _ _) ?_
  refine Run.seq ?_
  refine Run.region ?_
  refine Run.q (v := .int .i64 0) rfl (OpQ.y (OpY.pure rfl)) ?_
  refine Run.done ?_
  refine Run.seq ?_
  refine Run.seq ?_
  refine Run.region ?_
  refine Run.q (v := .slice A n c) rfl (OpQ.y (OpY.pure rfl)) ?_
  refine Run.q (v := .int .i64 (((n : Nat) : Int))) rfl (OpQ.y (OpY.len Tsl_22 rfl)) ?_
  refine Run.q (v := .int .i64 0) rfl (OpQ.y (OpY.pure rfl)) ?_
  refine Run.done ?_
  refine Run.block ?_
  refine Run.loop (ι := Nat) [4, 5, 8, 9, 10, 11, 12, 13, 14, 15, 16, 17, 18] (fun k => [(8, .int .i64 (((k : Nat) : Int)))]) (fun k => []) (fun k => k ≤ n ∧ (∀ i, i < k → (!within (ix xs i) 0 (((2 ^ nn : Nat) : Int) - 1)) = false)) (fun k => n - k) 0 ?_ ?_ ?_ ?_
  · exact ⟨Nat.zero_le _, by first | trivial | (intro i hi; omega)⟩
  · exact ⟨rfl, trivial⟩
  · exact (Some'.weak (.nil _))
  · rintro k fr hinv
    show Run _ _ (over _ _ [(8, .int .i64 (((k : Nat) : Int)))] fr) []
    try dsimp only at hinv
    refine Run.seq ?_
    refine Run.region ?_
    refine Run.q (v := .bool (decide ((((k : Nat) : Int)) < (((n : Nat) : Int))))) rfl (OpQ.y (OpY.pure rfl)) ?_
    refine Run.done ?_
    refine Run.seq ?_
    refine Run.cond (b := decide ((((k : Nat) : Int)) < (((n : Nat) : Int)))) rfl (fun h9 => ?_) (fun h9 => ?_)
    · have p9 := h9; try simp only [bs] at p9
      have hltk : k < n := by omega
      obtain ⟨b, o, rfl⟩ := ha.opn (by omega)
      refine Run.skip ?_
      refine Run.seq ?_
      refine Run.block ?_
      refine Run.seq ?_
      refine Run.region ?_
      refine Run.q (v := .int .i64 (((k : Nat) : Int))) rfl (OpQ.y (OpY.pure rfl)) ?_
      refine Run.q (v := .int .i64 (((k : Nat) : Int))) rfl (OpQ.y (OpY.pure rfl)) ?_
      refine Run.done ?_
      refine Run.seq ?_
      refine Run.region ?_
      refine Run.q (v := .func (.func 75) #[] #[.pointer (some ⟨p, 0, none⟩)]) rfl (OpQ.y (OpY.pure rfl)) ?_
      refine Run.q (v := .slice (some ⟨b, o, none⟩) n c) rfl (OpQ.y (OpY.pure rfl)) ?_
      refine Run.q (v := .int .i64 (((k : Nat) : Int))) rfl (OpQ.y (OpY.pure rfl)) ?_
      refine Run.q (v := .pointer (some ⟨b, o + k, none⟩)) rfl (OpQ.y (OpY.index (kk := k) Tsl_22 rfl rfl (by omega) (by omega) (by first | rfl | omega))) ?_
      refine Run.q (v := .int .i64 (ix xs (k))) rfl (OpQ.y (OpY.load1 Tone_3 rfl (Cells.arg (k := k) ha rfl (by omega) (pre1 (by omega))))) ?_
      refine Run.q (v := .bool (!within (ix xs k) 0 (((2 ^ nn : Nat) : Int) - 1))) rfl (OpQ.call (vs := [.int .i64 (ix xs (k)), .pointer (some ⟨p, 0, none⟩)]) (caps := [.pointer (some ⟨p, 0, none⟩)]) Tcall_75 rfl rfl (fun w hs => linClo_spec (hs.sl hc) hn5)) ?_
      refine Run.done ?_
      refine Run.cond (b := !within (ix xs k) 0 (((2 ^ nn : Nat) : Int) - 1)) rfl (fun h16 => ?_) (fun h16 => ?_)
      · have p16 := h16; try simp only [bs] at p16
        refine Run.seq ?_
        have hres : findI (fun i => !within (ix xs i) 0 (((2 ^ nn : Nat) : Int) - 1)) n = k := findI_hit hinv.2 h16 hltk
        refine Run.region ?_
        refine Run.q (v := .int .i64 (((k : Nat) : Int))) rfl (OpQ.y (OpY.pure rfl)) ?_
        refine Run.q (v := .int .i64 (((k : Nat) : Int))) rfl (OpQ.y (OpY.pure rfl)) ?_
        refine Run.done ?_
        refine Run.ret ?_
        refine ⟨.int .i64 (((k : Nat) : Int)), [], Out.one rfl rfl, (Some'.weak (.nil _)), ?_⟩
        show _ = _; rw [hres]
      · have p16 := h16; try simp only [bs] at p16
        refine Run.skip ?_
        refine Run.blockEnd ?_
        have hgood : (!within (ix xs k) 0 (((2 ^ nn : Nat) : Int) - 1)) = false := h16
        refine Run.region ?_
        refine Run.q (v := .int .i64 ((((k : Nat) : Int)) + 1)) rfl (OpQ.y (OpY.add rfl rfl rfl (by omega) (by omega))) ?_
        refine Run.q (v := .int .i64 ((((k : Nat) : Int)) + 1)) rfl (OpQ.y (OpY.pure rfl)) ?_
        refine Run.done ?_
        refine Run.goal ⟨(by repeat (first | exact Same.refl _ _ | refine Same.put rfl ?_ | refine Same.over rfl rfl ?_)), k + 1, ?_, ?_, ?_, ?_⟩
        · refine ⟨by omega, ?_⟩
          intro i hi
          rcases Nat.lt_succ_iff_lt_or_eq.1 hi with h | h
          · exact hinv.2 i h
          · rw [h]; exact hgood
        · omega
        · exact ⟨(by first | rfl | (congr 1; omega) | simp), trivial⟩
        · exact (Some'.weak (.nil _))
    · have p9 := h9; try simp only [bs] at p9
      have hknk : k = n := by omega
      have hres : findI (fun i => !within (ix xs i) 0 (((2 ^ nn : Nat) : Int) - 1)) n = -1 := by rw [← hknk]; exact findI_none hinv.2
      refine Run.exit rfl ?_
      refine Run.seq ?_
      refine Run.region ?_
      refine Run.q (v := .int .i64 (-1)) rfl (OpQ.y (OpY.pure rfl)) ?_
      refine Run.done ?_
      refine Run.ret ?_
      refine ⟨.int .i64 (-1), [], Out.one rfl rfl, (Some'.weak (.nil _)), ?_⟩
      show _ = _; rw [hres]

set_option maxHeartbeats 1000000 in
set_option maxRecDepth 20000 in
theorem ContainsFuncLin_spec {nn p : Nat} {va : Value} {n : Nat} {xs : List Int} {w : World} (ha : Sl w va 1 n (ints xs)) (hc : Sl w (.slice (some ⟨p, 0, none⟩) 1 1) 1 1 [.int .i64 nn]) (hn5 : nn ≤ 5) : Calls Try.prog 74 #[va, .func (.func 75) #[] #[.pointer (some ⟨p, 0, none⟩)]] w (Post No w fun v _ => v = .bool (anyI (fun i => !within (ix xs i) 0 (((2 ^ nn : Nat) : Int) - 1)) n)) := by
  refine enter (n := 9) (args := [va, .func (.func 75) #[] #[.pointer (some ⟨p, 0, none⟩)]]) Try.func74 rfl rfl (St.empty _ _) ?_
  refine Run.seq ?_
  refine Run.region ?_
  refine Run.q (v := .bool false) rfl (OpQ.y (OpY.pure rfl)) ?_
  refine Run.done ?_
  refine Run.seq ?_
  refine Run.region ?_
  refine Run.q (v := va) rfl (OpQ.y (OpY.pure rfl)) ?_
  refine Run.q (v := .func (.func 75) #[] #[.pointer (some ⟨p, 0, none⟩)]) rfl (OpQ.y (OpY.pure rfl)) ?_
  refine Run.q (v := .int .i64 (findI (fun i => !within (ix xs i) 0 (((2 ^ nn : Nat) : Int) - 1)) n)) rfl (OpQ.call (vs := [va, .func (.func 75) #[] #[.pointer (some ⟨p, 0, none⟩)]]) (caps := []) Tcall_111 rfl rfl (fun w hs => IndexFuncLin_spec (hs.sl ha) (hs.sl hc) hn5)) ?_
  refine Run.q (v := .bool (decide ((findI (fun i => !within (ix xs i) 0 (((2 ^ nn : Nat) : Int) - 1)) n) ≥ 0))) rfl (OpQ.y (OpY.pure rfl)) ?_
  refine Run.q (v := .bool (decide ((findI (fun i => !within (ix xs i) 0 (((2 ^ nn : Nat) : Int) - 1)) n) ≥ 0))) rfl (OpQ.y (OpY.pure rfl)) ?_
  refine Run.done ?_
  refine Run.ret ?_
  refine ⟨.bool (decide ((findI (fun i => !within (ix xs i) 0 (((2 ^ nn : Nat) : Int) - 1)) n) ≥ 0)), [], Out.one rfl rfl, (Some'.weak (.nil _)), ?_⟩
  show _ = _; rw [findI_ge]

set_option maxHeartbeats 1000000 in
set_option maxRecDepth 20000 in
theorem IsValidLinear_spec {va : Value} {n : Nat} {xs : List Int} {w : World} (ha : Sl w va 1 n (ints xs)) : Calls Try.prog 35 #[.agg #[va]] w (Post No w fun v _ => v = .bool (linOk xs n)) := by
  have hxl := ha.len
  rw [Nat.mul_one] at hxl
  have hn := ha.le
  obtain ⟨A, c, rfl, _, _⟩ := ha.form0
  refine enter (n := 23) (args := [.agg #[.slice A n c]]) Try.func35 rfl rfl (St.empty _ _) ?_
  refine Run.seq ?_
  refine Run.region ?_
  refine Run.step rfl (OpStep.box (us := [.slice A n c]) rfl fun b1 => ?_)
  refine Run.q (v := .bool false) rfl (OpQ.y (OpY.pure rfl)) ?_
  refine Run.done ?_
  refine Run.seq ?_
  refine Run.region ?_
  refine Run.q (v := .pointer (some ⟨b1, 0, none⟩)) rfl (OpQ.y (OpY.fieldAddr Tfo_28_0 rfl rfl)) ?_
  refine Run.q (v := .slice A n c) rfl (OpQ.y (OpY.load1 Tone_22 rfl (Cells.blk (.head _) ⟨rfl, trivial⟩))) ?_
  refine Run.q (v := .int .i64 (((n : Nat) : Int))) rfl (OpQ.y (OpY.len Tsl_22 rfl)) ?_
  refine Run.step rfl (OpStep.alloc (zs := [.int .i64 0]) Tzero_3 fun b2 => ?_)
  refine Run.step rfl (OpStep.storeAll (us := [.int .i64 (((n : Nat) : Int))]) Tsize_3 rfl rfl rfl (.here _) rfl ?_)
  refine Run.done ?_
  refine Run.seq ?_
  refine Run.draws (by kernel_rfl) (by kernel_rfl) ?_
  refine Lex.q (v := .int .i64 (((n : Nat) : Int))) rfl (OpQ.y (OpY.load1 Tone_3 rfl (Cells.blk (.head _) ⟨rfl, trivial⟩))) ?_
  refine Lex.q (v := .bool (within (n : Int) 1 5)) rfl (OpQ.call (vs := [.int .i64 (((n : Nat) : Int)), .int .i64 1, .int .i64 5]) (caps := []) Tcall_73 rfl rfl (fun w hs => within_spec _ _ _ w)) ?_
  rcases Bool.eq_false_or_eq_true (within (n : Int) 1 5) with h9 | h9
  · refine Lex.q (v := .bool true) rfl (OpQ.y (OpY.moveB rfl h9)) ?_
    have p9 := h9; try simp only [bs] at p9
    have hw5 := within_iff.1 p9
    refine Lex.q (v := .pointer (some ⟨b1, 0, none⟩)) rfl (OpQ.y (OpY.fieldAddr Tfo_28_0 rfl rfl)) ?_
    refine Lex.q (v := .slice A n c) rfl (OpQ.y (OpY.load1 Tone_22 rfl (Cells.blk (.tail _ (List.Mem.head _)) ⟨rfl, trivial⟩))) ?_
    refine Lex.q (v := .func (.func 75) #[] #[.pointer (some ⟨b2, 0, none⟩)]) rfl (OpQ.y (OpY.makeFunc (caps := [.pointer (some ⟨b2, 0, none⟩)]) rfl)) ?_
    refine Lex.q (v := .bool (anyI (fun i => !within (ix xs i) 0 (((2 ^ n : Nat) : Int) - 1)) n)) rfl (OpQ.call (vs := [.slice A n c, .func (.func 75) #[] #[.pointer (some ⟨b2, 0, none⟩)]]) (caps := []) Tcall_74 rfl rfl (fun w hs => ContainsFuncLin_spec (hs.sl ha) (hs.slBlk (.head _)) (by omega))) ?_
    refine Lex.q (v := .bool (!(anyI (fun i => !within (ix xs i) 0 (((2 ^ n : Nat) : Int) - 1)) n))) rfl (OpQ.y (OpY.pure rfl)) ?_
    refine Lex.q (v := .bool (!(anyI (fun i => !within (ix xs i) 0 (((2 ^ n : Nat) : Int) - 1)) n))) rfl (OpQ.y (OpY.pure rfl)) ?_
    rcases Bool.eq_false_or_eq_true (!(anyI (fun i => !within (ix xs i) 0 (((2 ^ n : Nat) : Int) - 1)) n)) with h16 | h16
    · refine Lex.q (v := .bool true) rfl (OpQ.y (OpY.moveB rfl h16)) ?_
      have p16 := h16; try simp only [bs] at p16
      have hin := rows_in hxl (by simpa using p16)
      have hnl : (nats xs).length = n := by simp [nats, hxl]
      have h10 : ∀ x ∈ nats xs, x < 2 ^ 10 := fun x hx => Nat.lt_of_lt_of_le (hin.2 x hx) (Nat.pow_le_pow_right (by omega) (by omega))
      refine Lex.q (v := .pointer (some ⟨b1, 0, none⟩)) rfl (OpQ.y (OpY.fieldAddr Tfo_28_0 rfl rfl)) ?_
      refine Lex.q (v := .slice A n c) rfl (OpQ.y (OpY.load1 Tone_22 rfl (Cells.blk (.tail _ (List.Mem.head _)) ⟨rfl, trivial⟩))) ?_
      refine Lex.q (v := .int .i64 ((((rkS (nats xs) 10).2 : Nat) : Int))) rfl (OpQ.call (vs := [.slice A n c]) (caps := []) Tcall_76 rfl rfl (fun w hs => (by have h := rankOf_spec (r := nats xs) (by rw [hnl]; omega) (by rw [hnl]; omega) h10 (va := .slice A n c) (by rw [hnl, hin.1]; exact hs.sl ha); exact h))) ?_
      refine Lex.q (v := .int .i64 (((n : Nat) : Int))) rfl (OpQ.y (OpY.load1 Tone_3 rfl (Cells.blk (.head _) ⟨rfl, trivial⟩))) ?_
      refine Lex.q (v := .bool (((((rkS (nats xs) 10).2 : Nat) : Int)) == (((n : Nat) : Int)))) rfl (OpQ.y (OpY.pure rfl)) ?_
      refine Lex.q (v := .bool (((((rkS (nats xs) 10).2 : Nat) : Int)) == (((n : Nat) : Int)))) rfl (OpQ.y (OpY.pure rfl)) ?_
      refine Lex.q (v := .bool (((((rkS (nats xs) 10).2 : Nat) : Int)) == (((n : Nat) : Int)))) rfl (OpQ.y (OpY.pure rfl)) ?_
      refine Lex.done ?_
      refine Run.ret ?_
      refine ⟨.bool (((((rkS (nats xs) 10).2 : Nat) : Int)) == (((n : Nat) : Int))), [], Out.one rfl rfl, (Some'.weak (.nil _)), ?_⟩
      show _ = _; rw [linOk]; simp_all; try (rw [Bool.eq_iff_iff]; simp; try omega)
    · refine Lex.q (v := .bool false) rfl (OpQ.y (OpY.moveB rfl h16)) ?_
      have p16 := h16; try simp only [bs] at p16
      refine Lex.pass rfl ?_
      refine Lex.pass rfl ?_
      refine Lex.pass rfl ?_
      refine Lex.pass rfl ?_
      refine Lex.pass rfl ?_
      refine Lex.q (v := .bool false) rfl (OpQ.y (OpY.pure rfl)) ?_
      refine Lex.q (v := .bool false) rfl (OpQ.y (OpY.pure rfl)) ?_
      refine Lex.done ?_
      refine Run.ret ?_
      refine ⟨.bool false, [], Out.one rfl rfl, (Some'.weak (.nil _)), ?_⟩
      show _ = _; rw [linOk]; simp_all; try (rw [Bool.eq_iff_iff]; simp; try omega)
  · refine Lex.q (v := .bool false) rfl (OpQ.y (OpY.moveB rfl h9)) ?_
    have p9 := h9; try simp only [bs] at p9
    refine Lex.pass rfl ?_
    refine Lex.pass rfl ?_
    refine Lex.pass rfl ?_
    refine Lex.pass rfl ?_
    refine Lex.pass rfl ?_
    refine Lex.q (v := .bool false) rfl (OpQ.y (OpY.pure rfl)) ?_
    refine Lex.q (v := .bool false) rfl (OpQ.y (OpY.pure rfl)) ?_
    refine Lex.pass rfl ?_
    refine Lex.pass rfl ?_
    refine Lex.pass rfl ?_
    refine Lex.pass rfl ?_
    refine Lex.pass rfl ?_
    refine Lex.q (v := .bool false) rfl (OpQ.y (OpY.pure rfl)) ?_
    refine Lex.q (v := .bool false) rfl (OpQ.y (OpY.pure rfl)) ?_
    refine Lex.done ?_
    refine Run.ret ?_
    refine ⟨.bool false, [], Out.one rfl rfl, (Some'.weak (.nil _)), ?_⟩
    show _ = _; rw [linOk]; simp_all; try (rw [Bool.eq_iff_iff]; simp; try omega)

end Go.Proofs.Yteehfidjofcfmaa
