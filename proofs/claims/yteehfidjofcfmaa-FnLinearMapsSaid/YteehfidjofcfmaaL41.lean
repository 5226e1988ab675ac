/- The walk of the law FnLinearMaps. -/
import Derived.Test.YteehfidjofcfmaaDlm
import Derived.Test.YteehfidjofcfmaaDcx
import Derived.Test.YteehfidjofcfmaaSli
import Derived.Test.YteehfidjofcfmaaProg
set_option linter.unusedSimpArgs false
set_option linter.unusedVariables false
namespace Go.Proofs.Yteehfidjofcfmaa
open Go Go.RowKit
namespace L41T
theorem Tagg_28 : aggOf Try.prog 28 = some 1 := by kernel_rfl
theorem Tagg_38 : aggOf Try.prog 38 = some 2 := by kernel_rfl
theorem Tbool_4 : Try.prog.underlying 4 = some .bool := by kernel_rfl
theorem Tcall_12 : callable Try.prog 12 = true := by kernel_rfl
theorem Tcall_19 : callable Try.prog 19 = true := by kernel_rfl
theorem Tcall_27 : callable Try.prog 27 = true := by kernel_rfl
theorem Tcall_28 : callable Try.prog 28 = true := by kernel_rfl
theorem Tcall_29 : callable Try.prog 29 = true := by kernel_rfl
theorem Tcall_30 : callable Try.prog 30 = true := by kernel_rfl
theorem Tcall_31 : callable Try.prog 31 = true := by kernel_rfl
theorem Tcall_32 : callable Try.prog 32 = true := by kernel_rfl
theorem Tcall_33 : callable Try.prog 33 = true := by kernel_rfl
theorem Tcall_34 : callable Try.prog 34 = true := by kernel_rfl
theorem Tcall_35 : callable Try.prog 35 = true := by kernel_rfl
theorem Tcall_36 : callable Try.prog 36 = true := by kernel_rfl
theorem Tcall_37 : callable Try.prog 37 = true := by kernel_rfl
theorem Tcall_38 : callable Try.prog 38 = true := by kernel_rfl
theorem Tcall_39 : callable Try.prog 39 = true := by kernel_rfl
theorem Tfo_28_0 : fieldOff Try.prog 28 0 = some 0 := by kernel_rfl
theorem Tfo_38_1 : fieldOff Try.prog 38 1 = some 1 := by kernel_rfl
theorem Tone_22 : oneOf Try.prog 22 = true := by kernel_rfl
theorem Tone_3 : oneOf Try.prog 3 = true := by kernel_rfl
theorem Tone_36 : oneOf Try.prog 36 = true := by kernel_rfl
theorem Tsize_28 : (Try.prog.info? 28).map (·.size) = some 1 := by kernel_rfl
theorem Tsize_38 : (Try.prog.info? 38).map (·.size) = some 2 := by kernel_rfl
theorem Tsl_22 : sliceOf Try.prog 22 = some (3, 1, 8, [.int .i64 0]) := by kernel_rfl
theorem Tsl_36 : sliceOf Try.prog 36 = some (71, 3, 24, [.int .i64 0, .int .i64 0, .int .i64 0]) := by kernel_rfl
theorem Tsl_46 : sliceOf Try.prog 46 = some (5, 1, 1, [.int .u8 0]) := by kernel_rfl
theorem Tzero_28 : zeroOf Try.prog 28 = some [.slice none 0 0] := by kernel_rfl
theorem Tzero_38 : zeroOf Try.prog 38 = some [.int .i64 0, .slice none 0 0] := by kernel_rfl
end L41T
open L41T

theorem q_ne {xs ys : List Int} {k : Nat} (h : ix xs k ≠ ix ys k) : decide (xs = ys) = false := by
  rw [decide_eq_false_iff_not]; intro e; exact h (by rw [e])
theorem q_len {xs ys : List Int} (h : xs.length ≠ ys.length) : decide (xs = ys) = false := by
  rw [decide_eq_false_iff_not]; intro e; exact h (by rw [e])
theorem q_eq {xs ys : List Int} (hl : xs.length = ys.length) (h : ∀ i, i < xs.length → decide (ix xs i = ix ys i) = true) : decide (xs = ys) = true := by
  rw [decide_eq_true_iff]
  refine List.ext_getElem hl fun i h1 h2 => ?_
  have := of_decide_eq_true (h i h1)
  simpa [ix, List.getD, h1, h2] using this
theorem eqc_same (N : Int) (xs : List Int) (n : Nat) : ((N == N) && eqGs xs n xs n) = true := by
  have h : eqGs xs n xs n = true := eqGs_eq rfl fun i _ => by simp [eqG1]
  rw [h, beq_self_eq_true]; rfl
theorem nats_nl (l : List Nat) : nats (nl l) = l := by
  have : nl (nats (nl l)) = nl l := nl_nats fun x hx => by simp only [nl, List.mem_map] at hx; obtain ⟨y, _, rfl⟩ := hx; omega
  exact nl_inj this
theorem lo_syn {n : Nat} {xs : List Int} (hl : xs.length = n) (hok : linOk xs n = true) : loB (syN n xs) (flCX (syW n xs)) (syW n xs).length = true ∧ loL (syN n xs) (flCX (syW n xs)) (syW n xs).length = nats xs := by
  obtain ⟨h1, h5, hnx, hnl, hlt, hin⟩ := lin_facts hl hok
  have h50 := syW_len (n := n) xs
  have e1 : syN n xs = n := by rw [syN, if_pos hok]
  have e2 : syW n xs = (elW n (nats xs)).reverse := by rw [syW, if_pos hok]
  have h := loL_cx ⟨h1, h5⟩ (wok_rev (elW_ok n (nats xs))) (by rw [← e2]; omega)
  rw [← e2, ← e1] at h
  refine ⟨h.1, h.2.trans ?_⟩
  rw [e2]; exact syn_run hnl hlt hin
theorem co_inv {n : Nat} {xs : List Int} (hl : xs.length = n) (hok : linOk xs n = true) : coB n xs (inL n xs).length (nl (inL n xs)) = true ∧ coL n xs (inL n xs).length (nl (inL n xs)) = idL n := by
  obtain ⟨h1, h5, hnx, hnl, hlt, hin⟩ := lin_facts hl hok
  obtain ⟨e1, e2, e3⟩ := inL_facts hl hok
  have hB : coB n xs (inL n xs).length (nl (inL n xs)) = true := by rw [e2, coB, hok, e3, decide_eq_true rfl]; rfl
  refine ⟨hB, ?_⟩
  rw [coL, if_pos hB, nats_nl, e1]; exact comp_inv hnl hlt hin
theorem lo_short {n : Nat} {xs : List Int} (hl : xs.length = n) (h : slB n xs = true) : loB (slN n xs) (flCX (dcw n (slG n xs))) (slG n xs).length = true ∧ loL (slN n xs) (flCX (dcw n (slG n xs))) (slG n xs).length = nats xs := by
  have hok : linOk xs n = true := by simp only [slB, Bool.and_eq_true] at h; exact h.2
  obtain ⟨h1, h5, hnx, hnl, hlt, hin⟩ := lin_facts hl hok
  have hw := sl_LW hl h
  have hlen := sl_len hl h
  have h2 := loL_cx ⟨h1, h5⟩ (dec_ok hw.1) (by rw [dcw_len]; omega)
  rw [dcw_len, ← sl_good h] at h2
  exact ⟨h2.1, h2.2.trans hw.2.1⟩
/-- The circuit by elimination is not shorter than the shortest one. -/
theorem least_le {n : Nat} {xs : List Int} (hl : xs.length = n) (h : slB n xs = true) : (slG n xs).length ≤ (syW n xs).length := by
  have hok : linOk xs n = true := by simp only [slB, Bool.and_eq_true] at h; exact h.2
  obtain ⟨h1, h5, hnx, hnl, hlt, hin⟩ := lin_facts hl hok
  have e2 : syW n xs = (elW n (nats xs)).reverse := by rw [syW, if_pos hok]
  obtain ⟨v, hv, hvl, hvm⟩ := word_of (wok_rev (elW_ok n (nats xs)))
  have := sle_len ((sl_LW hl h).2.2 v hv (by rw [show dcw n v = (elW n (nats xs)).reverse from hvm]; exact syn_run hnl hlt hin))
  rw [e2]; omega
theorem slB_ok {n : Nat} {xs : List Int} (hok : linOk xs n = true) : slB n xs = decide ((n : Int) ≤ 4) := by
  rw [slB, hok, Bool.and_true, decide_eq_decide]; omega

set_option maxHeartbeats 1000000 in
set_option maxRecDepth 20000 in
theorem qInts_spec {va vb : Value} {n m : Nat} {xs ys : List Int} {w : World} (ha : Sl w va 1 n (ints xs)) (hb : Sl w vb 1 m (ints ys)) : Calls Try.prog 34 #[va, vb] w (Post No w fun v _ => v = .bool (decide (xs = ys))) := by
  have hxl := ha.len
  have hyl := hb.len
  have hn := ha.le
  have hm := hb.le
  obtain ⟨A, c, rfl, _, _⟩ := ha.form0
  obtain ⟨B, d, rfl, _, _⟩ := hb.form0
  refine enter (n := 26) (args := [.slice A n c, .slice B m d]) Try.func34 rfl rfl (St.empty _ _) ?_
  refine Run.seq ?_
  refine Run.region ?_
  refine Run.q (v := .bool false) rfl (OpQ.y (OpY.pure rfl)) ?_
  refine Run.done ?_
  refine Run.seq ?_
  refine Run.seq ?_
  refine Run.region ?_
  refine Run.q (v := .slice A n c) rfl (OpQ.y (OpY.pure rfl)) ?_
  refine Run.q (v := .int .i64 (((n : Nat) : Int))) rfl (OpQ.y (OpY.len Tsl_22 rfl)) ?_
  refine Run.q (v := .slice B m d) rfl (OpQ.y (OpY.pure rfl)) ?_
  refine Run.q (v := .int .i64 (((m : Nat) : Int))) rfl (OpQ.y (OpY.len Tsl_22 rfl)) ?_
  refine Run.q (v := .bool ((((n : Nat) : Int)) != (((m : Nat) : Int)))) rfl (OpQ.y (OpY.pure rfl)) ?_
  refine Run.done ?_
  refine Run.cond (b := (((n : Nat) : Int)) != (((m : Nat) : Int))) rfl (fun h10 => ?_) (fun h10 => ?_)
  · have p10 := h10; try simp only [bs] at p10
    have hres : decide (xs = ys) = false := q_len (by omega)
    refine Run.seq ?_
    refine Run.region ?_
    refine Run.q (v := .bool false) rfl (OpQ.y (OpY.pure rfl)) ?_
    refine Run.done ?_
    refine Run.ret ?_
    refine ⟨.bool false, [], Out.one rfl rfl, (Some'.weak (.nil _)), ?_⟩
    show _ = _; rw [hres]
  · have p10 := h10; try simp only [bs] at p10
    refine Run.skip ?_
    refine Run.seq ?_
    refine Run.seq ?_
    refine Run.region ?_
    refine Run.q (v := .slice A n c) rfl (OpQ.y (OpY.pure rfl)) ?_
    refine Run.q (v := .int .i64 (((n : Nat) : Int))) rfl (OpQ.y (OpY.len Tsl_22 rfl)) ?_
    refine Run.q (v := .int .i64 0) rfl (OpQ.y (OpY.pure rfl)) ?_
    refine Run.done ?_
    refine Run.block ?_
    refine Run.loop (ι := Nat) [4, 5, 13, 14, 15, 16, 17, 18, 19, 20, 21, 22, 23, 24, 25] (fun k => [(13, .int .i64 (((k : Nat) : Int)))]) (fun k => []) (fun k => k ≤ n ∧ (∀ i, i < k → decide (ix xs i = ix ys i) = true)) (fun k => n - k) 0 ?_ ?_ ?_ ?_
    · exact ⟨Nat.zero_le _, by first | trivial | (intro i hi; omega)⟩
    · exact ⟨rfl, trivial⟩
    · exact (Some'.weak (.nil _))
    · rintro k fr hinv
      show Run _ _ (over _ _ [(13, .int .i64 (((k : Nat) : Int)))] fr) []
      try dsimp only at hinv
      refine Run.seq ?_
      refine Run.region ?_
      refine Run.q (v := .bool (decide ((((k : Nat) : Int)) < (((n : Nat) : Int))))) rfl (OpQ.y (OpY.pure rfl)) ?_
      refine Run.done ?_
      refine Run.seq ?_
      refine Run.cond (b := decide ((((k : Nat) : Int)) < (((n : Nat) : Int)))) rfl (fun h14 => ?_) (fun h14 => ?_)
      · have p14 := h14; try simp only [bs] at p14
        have hltk : k < n := by omega
        obtain ⟨b, o, rfl⟩ := ha.opn (by omega)
        have hltm : k < m := by omega
        obtain ⟨b2, o2, rfl⟩ := hb.opn (by omega)
        refine Run.skip ?_
        refine Run.seq ?_
        refine Run.block ?_
        refine Run.seq ?_
        refine Run.region ?_
        refine Run.q (v := .int .i64 (((k : Nat) : Int))) rfl (OpQ.y (OpY.pure rfl)) ?_
        refine Run.q (v := .int .i64 (((k : Nat) : Int))) rfl (OpQ.y (OpY.pure rfl)) ?_
        refine Run.done ?_
        refine Run.seq ?_
        refine Run.draws (by kernel_rfl) (by kernel_rfl) ?_
        refine Lex.q (v := .slice (some ⟨b, o, none⟩) n c) rfl (OpQ.y (OpY.pure rfl)) ?_
        refine Lex.q (v := .int .i64 (((k : Nat) : Int))) rfl (OpQ.y (OpY.pure rfl)) ?_
        refine Lex.q (v := .pointer (some ⟨b, o + k, none⟩)) rfl (OpQ.y (OpY.index (kk := k) Tsl_22 rfl rfl (by omega) (by omega) (by first | rfl | omega))) ?_
        refine Lex.q (v := .int .i64 (ix xs (k))) rfl (OpQ.y (OpY.load1 Tone_3 rfl (Cells.arg (k := k) ha rfl (by omega) (pre1 (by omega))))) ?_
        refine Lex.q (v := .slice (some ⟨b2, o2, none⟩) m d) rfl (OpQ.y (OpY.pure rfl)) ?_
        refine Lex.q (v := .int .i64 (((k : Nat) : Int))) rfl (OpQ.y (OpY.pure rfl)) ?_
        refine Lex.q (v := .pointer (some ⟨b2, o2 + k, none⟩)) rfl (OpQ.y (OpY.index (kk := k) Tsl_22 rfl rfl (by omega) (by omega) (by first | rfl | omega))) ?_
        refine Lex.q (v := .int .i64 (ix ys (k))) rfl (OpQ.y (OpY.load1 Tone_3 rfl (Cells.arg (k := k) hb rfl (by omega) (pre1 (by omega))))) ?_
        refine Lex.q (v := .bool ((ix xs (k)) != (ix ys (k)))) rfl (OpQ.y (OpY.pure rfl)) ?_
        refine Lex.done ?_
        refine Run.cond (b := (ix xs (k)) != (ix ys (k))) rfl (fun h24 => ?_) (fun h24 => ?_)
        · have p24 := h24; try simp only [bs] at p24
          have hres : decide (xs = ys) = false := q_ne (k := k) (by omega)
          refine Run.seq ?_
          refine Run.region ?_
          refine Run.q (v := .bool false) rfl (OpQ.y (OpY.pure rfl)) ?_
          refine Run.done ?_
          refine Run.ret ?_
          refine ⟨.bool false, [], Out.one rfl rfl, (Some'.weak (.nil _)), ?_⟩
          show _ = _; rw [hres]
        · have p24 := h24; try simp only [bs] at p24
          have hgood : decide (ix xs k = ix ys k) = true := by simp; omega
          refine Run.skip ?_
          refine Run.blockEnd ?_
          refine Run.region ?_
          refine Run.q (v := .int .i64 ((((k : Nat) : Int)) + 1)) rfl (OpQ.y (OpY.add rfl rfl rfl (by omega) (by omega))) ?_
          refine Run.q (v := .int .i64 ((((k : Nat) : Int)) + 1)) rfl (OpQ.y (OpY.pure rfl)) ?_
          refine Run.done ?_
          refine Run.goal ⟨(by repeat (first | exact Same.refl _ _ | refine Same.put rfl ?_ | refine Same.over rfl rfl ?_)), k + 1, ?_, ?_, ?_, ?_⟩
          · refine ⟨by omega, ?_⟩
            intro i hi
            rcases Nat.lt_succ_iff_lt_or_eq.1 hi with h | h
            · exact hinv.2 i h
            · rw [h]; exact hgood
          · omega
          · exact ⟨(by first | rfl | (congr 1; omega) | simp), trivial⟩
          · exact (Some'.weak (.nil _))
      · have p14 := h14; try simp only [bs] at p14
        have hknk : k = n := by omega
        have hres : decide (xs = ys) = true := q_eq (by omega) fun i hi => hinv.2 i (by omega)
        refine Run.exit rfl ?_
        refine Run.seq ?_
        refine Run.region ?_
        refine Run.q (v := .bool true) rfl (OpQ.y (OpY.pure rfl)) ?_
        refine Run.done ?_
        refine Run.ret ?_
        refine ⟨.bool true, [], Out.one rfl rfl, (Some'.weak (.nil _)), ?_⟩
        show _ = _; rw [hres]

set_option maxHeartbeats 4000000 in
set_option maxRecDepth 20000 in
theorem law_spec {va vb : Value} {n m0 : Nat} {cs ds : List Int} {w : World} (ha : Sl w va 1 n (u8s cs)) (hby : ∀ x ∈ cs, 0 ≤ x ∧ x < 256) (hb : Sl w vb 1 m0 (u8s ds)) (hbz : ∀ x ∈ ds, 0 ≤ x ∧ x < 256) : Calls Try.prog 7 #[va, vb] w (Post No w fun v _ => v = .bool true) := by
  obtain ⟨Ac, cc, rfl, hn0, _⟩ := ha.form0
  obtain ⟨Bc, dd, rfl, hm0, _⟩ := hb.form0
  refine enter (n := 208) (args := [.slice Ac n cc, .slice Bc m0 dd]) Try.func7 rfl rfl (St.empty _ _) ?_
  refine Run.seq ?_
  refine Run.region ?_
  refine Run.q (v := .bool false) rfl (OpQ.y (OpY.pure rfl)) ?_
  refine Run.done ?_
  refine Run.seq ?_
  refine Run.seq ?_
  refine Run.region ?_
  refine Run.q (v := .slice Ac n cc) rfl (OpQ.y (OpY.pure rfl)) ?_
  refine Run.q (v := .int .i64 (((n : Nat) : Int))) rfl (OpQ.y (OpY.len Tsl_46 rfl)) ?_
  refine Run.q (v := .slice Bc m0 dd) rfl (OpQ.y (OpY.pure rfl)) ?_
  refine Run.q (v := .int .i64 (((m0 : Nat) : Int))) rfl (OpQ.y (OpY.len Tsl_46 rfl)) ?_
  refine Run.q (v := .int .i64 (IntKind.i64.wrap (((n : Nat) : Int) + ((m0 : Nat) : Int)))) rfl (OpQ.y (OpY.addW rfl rfl rfl)) ?_
  refine Run.q (v := .bool (decide ((IntKind.i64.wrap (((n : Nat) : Int) + ((m0 : Nat) : Int))) > 1048576))) rfl (OpQ.y (OpY.pure rfl)) ?_
  refine Run.done ?_
  refine Run.cond (b := decide ((IntKind.i64.wrap (((n : Nat) : Int) + ((m0 : Nat) : Int))) > 1048576)) rfl (fun h36 => ?_) (fun h36 => ?_)
  · have p36 := h36; try simp only [bs] at p36
    refine Run.seq ?_
    refine Run.region ?_
    refine Run.q (v := .bool true) rfl (OpQ.y (OpY.pure rfl)) ?_
    refine Run.done ?_
    refine Run.ret ?_
    refine ⟨.bool true, [], Out.one rfl rfl, (Some'.weak (.nil _)), ?_⟩
    rfl
  · have p36 := h36; try simp only [bs] at p36
    refine Run.skip ?_
    refine Run.seq ?_
    refine Run.region ?_
    refine Run.q (v := .slice Ac n cc) rfl (OpQ.y (OpY.pure rfl)) ?_
    refine Run.step rfl (OpStep.call (vs := [.slice Ac n cc]) (caps := []) Tcall_27 rfl rfl (fun w hs => DrawSynthesizeLinear_spec (hs.sl ha) hby) ?_)
    rintro _ _ ⟨Au, cu, vb0, n0, n1, x0, x1, ⟨h6, h7, hrd⟩, rfl, rfl⟩
    show Run _ _ (putF _ _ _ (.agg #[.slice Au n1 cu])) [.own vb0 3 1 n0 (ints x0)]
    refine Run.step rfl (OpStep.alloc (zs := [.slice none 0 0]) Tzero_28 fun b1 => ?_)
    refine Run.step rfl (OpStep.storeAll (us := [.slice Au n1 cu]) Tsize_28 rfl rfl rfl (.here _) rfl ?_)
    refine Run.done ?_
    refine Run.seq ?_
    refine Run.region ?_
    refine Run.q (v := .agg #[.slice Au n1 cu]) rfl (OpQ.y (OpY.loadN (cs := [.slice Au n1 cu]) Tagg_28 rfl (Cells.blk (.head _) ⟨rfl, trivial⟩))) ?_
    refine Run.step rfl (OpStep.call (vs := [.agg #[.slice Au n1 cu]]) (caps := []) Tcall_28 rfl rfl (fun w hs => SynthesizeLinear_spec (hrd _ (hs.holds _ (.tail _ (List.Mem.head _))))) ?_)
    rintro _ _ ⟨uc1, rfl, rfl⟩
    show Run _ _ (putF _ _ _ (.tuple #[.agg #[.int .i64 (syN n1 x1), uc1], .bool (linOk x1 n1)])) [.own uc1 71 3 ((syW n1 x1).length) (ints (flCX (syW n1 x1))), .blk b1 28 [.slice Au n1 cu], .own vb0 3 1 n0 (ints x0)]
    refine Run.q (v := .tuple #[.agg #[.int .i64 (syN n1 x1), uc1], .bool (linOk x1 n1)]) rfl (OpQ.y (OpY.pure rfl)) ?_
    refine Run.q (v := .agg #[.int .i64 (syN n1 x1), uc1]) rfl (OpQ.y (OpY.pure rfl)) ?_
    refine Run.q (v := .bool (linOk x1 n1)) rfl (OpQ.y (OpY.pure rfl)) ?_
    refine Run.step rfl (OpStep.alloc (zs := [.int .i64 0, .slice none 0 0]) Tzero_38 fun b2 => ?_)
    refine Run.formOwn (.tail _ (List.Mem.head _)) (fun A_uc11 c_uc11 hv hcapc_uc11 hmaxc_uc11 => ?_) (fun _ _ _ => ⟨nofun, nofun, nofun⟩)
    subst hv
    refine Run.step rfl (OpStep.storeAll (us := [.int .i64 (syN n1 x1), .slice A_uc11 ((syW n1 x1).length) c_uc11]) Tsize_38 rfl rfl rfl (.here _) rfl ?_)
    refine Run.q (v := .bool (linOk x1 n1)) rfl (OpQ.y (OpY.pure rfl)) ?_
    refine Run.done ?_
    refine Run.seq ?_
    refine Run.region ?_
    refine Run.q (v := .agg #[.slice Au n1 cu]) rfl (OpQ.y (OpY.loadN (cs := [.slice Au n1 cu]) Tagg_28 rfl (Cells.blk (.tail _ (.tail _ (List.Mem.head _))) ⟨rfl, trivial⟩))) ?_
    refine Run.step rfl (OpStep.call (vs := [.agg #[.slice Au n1 cu]]) (caps := []) Tcall_29 rfl rfl (fun w hs => sSynthesizeLinear_spec (hrd _ (hs.holds _ (.tail _ (.tail _ (.tail _ (List.Mem.head _))))))) ?_)
    rintro _ _ ⟨uc2, rfl, rfl⟩
    show Run _ _ (putF _ _ _ (.tuple #[.agg #[.int .i64 (syN n1 x1), uc2], .bool (linOk x1 n1)])) [.own uc2 71 3 ((syW n1 x1).length) (ints (flCX (syW n1 x1))), .blk b2 38 [.int .i64 (syN n1 x1), .slice A_uc11 ((syW n1 x1).length) c_uc11], .own (.slice A_uc11 ((syW n1 x1).length) c_uc11) 71 3 ((syW n1 x1).length) (ints (flCX (syW n1 x1))), .blk b1 28 [.slice Au n1 cu], .own vb0 3 1 n0 (ints x0)]
    refine Run.q (v := .tuple #[.agg #[.int .i64 (syN n1 x1), uc2], .bool (linOk x1 n1)]) rfl (OpQ.y (OpY.pure rfl)) ?_
    refine Run.q (v := .agg #[.int .i64 (syN n1 x1), uc2]) rfl (OpQ.y (OpY.pure rfl)) ?_
    refine Run.q (v := .bool (linOk x1 n1)) rfl (OpQ.y (OpY.pure rfl)) ?_
    refine Run.step rfl (OpStep.alloc (zs := [.int .i64 0, .slice none 0 0]) Tzero_38 fun b3 => ?_)
    refine Run.formOwn (.tail _ (List.Mem.head _)) (fun A_uc21 c_uc21 hv hcapc_uc21 hmaxc_uc21 => ?_) (fun _ _ _ => ⟨nofun, nofun, nofun⟩)
    subst hv
    refine Run.step rfl (OpStep.storeAll (us := [.int .i64 (syN n1 x1), .slice A_uc21 ((syW n1 x1).length) c_uc21]) Tsize_38 rfl rfl rfl (.here _) rfl ?_)
    refine Run.q (v := .bool (linOk x1 n1)) rfl (OpQ.y (OpY.pure rfl)) ?_
    refine Run.done ?_
    refine Run.seq ?_
    refine Run.region ?_
    refine Run.q (v := .slice Bc m0 dd) rfl (OpQ.y (OpY.pure rfl)) ?_
    refine Run.step rfl (OpStep.call (vs := [.slice Bc m0 dd]) (caps := []) Tcall_30 rfl rfl (fun w hs => DrawLinearOf_spec (hs.sl hb) hbz) ?_)
    rintro _ _ ⟨Q, ug, g, gx, hg20, rfl, rfl⟩
    show Run _ _ (putF _ _ _ (.agg #[.int .i64 Q, ug])) [.own ug 71 3 g (ints gx), .blk b3 38 [.int .i64 (syN n1 x1), .slice A_uc21 ((syW n1 x1).length) c_uc21], .own (.slice A_uc21 ((syW n1 x1).length) c_uc21) 71 3 ((syW n1 x1).length) (ints (flCX (syW n1 x1))), .blk b2 38 [.int .i64 (syN n1 x1), .slice A_uc11 ((syW n1 x1).length) c_uc11], .own (.slice A_uc11 ((syW n1 x1).length) c_uc11) 71 3 ((syW n1 x1).length) (ints (flCX (syW n1 x1))), .blk b1 28 [.slice Au n1 cu], .own vb0 3 1 n0 (ints x0)]
    refine Run.step rfl (OpStep.alloc (zs := [.int .i64 0, .slice none 0 0]) Tzero_38 fun b4 => ?_)
    refine Run.formOwn (.tail _ (List.Mem.head _)) (fun A_ug1 c_ug1 hv hcapc_ug1 hmaxc_ug1 => ?_) (fun _ _ _ => ⟨nofun, nofun, nofun⟩)
    subst hv
    refine Run.step rfl (OpStep.storeAll (us := [.int .i64 Q, .slice A_ug1 g c_ug1]) Tsize_38 rfl rfl rfl (.here _) rfl ?_)
    refine Run.done ?_
    refine Run.seq ?_
    refine Run.region ?_
    refine Run.q (v := .agg #[.int .i64 Q, .slice A_ug1 g c_ug1]) rfl (OpQ.y (OpY.loadN (cs := [.int .i64 Q, .slice A_ug1 g c_ug1]) Tagg_38 rfl (Cells.blk (.head _) ⟨rfl, rfl, trivial⟩))) ?_
    refine Run.step rfl (OpStep.call (vs := [.agg #[.int .i64 Q, .slice A_ug1 g c_ug1]]) (caps := []) Tcall_31 rfl rfl (fun w hs => LinearOf_spec (N := Q) (hs.slOwn (.tail _ (List.Mem.head _)))) ?_)
    rintro _ _ ⟨ul1, rfl, rfl⟩
    show Run _ _ (putF _ _ _ (.tuple #[.agg #[ul1], .bool (loB Q gx g)])) [.own ul1 3 1 ((loL Q gx g).length) (ints (nl (loL Q gx g))), .blk b4 38 [.int .i64 Q, .slice A_ug1 g c_ug1], .own (.slice A_ug1 g c_ug1) 71 3 g (ints gx), .blk b3 38 [.int .i64 (syN n1 x1), .slice A_uc21 ((syW n1 x1).length) c_uc21], .own (.slice A_uc21 ((syW n1 x1).length) c_uc21) 71 3 ((syW n1 x1).length) (ints (flCX (syW n1 x1))), .blk b2 38 [.int .i64 (syN n1 x1), .slice A_uc11 ((syW n1 x1).length) c_uc11], .own (.slice A_uc11 ((syW n1 x1).length) c_uc11) 71 3 ((syW n1 x1).length) (ints (flCX (syW n1 x1))), .blk b1 28 [.slice Au n1 cu], .own vb0 3 1 n0 (ints x0)]
    refine Run.q (v := .tuple #[.agg #[ul1], .bool (loB Q gx g)]) rfl (OpQ.y (OpY.pure rfl)) ?_
    refine Run.q (v := .agg #[ul1]) rfl (OpQ.y (OpY.pure rfl)) ?_
    refine Run.q (v := .bool (loB Q gx g)) rfl (OpQ.y (OpY.pure rfl)) ?_
    refine Run.step rfl (OpStep.alloc (zs := [.slice none 0 0]) Tzero_28 fun b5 => ?_)
    refine Run.formOwn (.tail _ (List.Mem.head _)) (fun A_ul11 c_ul11 hv hcapc_ul11 hmaxc_ul11 => ?_) (fun _ _ _ => ⟨nofun, nofun, nofun⟩)
    subst hv
    refine Run.step rfl (OpStep.storeAll (us := [.slice A_ul11 ((loL Q gx g).length) c_ul11]) Tsize_28 rfl rfl rfl (.here _) rfl ?_)
    refine Run.q (v := .bool (loB Q gx g)) rfl (OpQ.y (OpY.pure rfl)) ?_
    refine Run.done ?_
    refine Run.seq ?_
    refine Run.region ?_
    refine Run.q (v := .agg #[.int .i64 Q, .slice A_ug1 g c_ug1]) rfl (OpQ.y (OpY.loadN (cs := [.int .i64 Q, .slice A_ug1 g c_ug1]) Tagg_38 rfl (Cells.blk (.tail _ (.tail _ (List.Mem.head _))) ⟨rfl, rfl, trivial⟩))) ?_
    refine Run.step rfl (OpStep.call (vs := [.agg #[.int .i64 Q, .slice A_ug1 g c_ug1]]) (caps := []) Tcall_32 rfl rfl (fun w hs => sLinearOf_spec (N := Q) (hs.slOwn (.tail _ (.tail _ (.tail _ (List.Mem.head _)))))) ?_)
    rintro _ _ ⟨ul2, rfl, rfl⟩
    show Run _ _ (putF _ _ _ (.tuple #[.agg #[ul2], .bool (loB Q gx g)])) [.own ul2 3 1 ((loL Q gx g).length) (ints (nl (loL Q gx g))), .blk b5 28 [.slice A_ul11 ((loL Q gx g).length) c_ul11], .own (.slice A_ul11 ((loL Q gx g).length) c_ul11) 3 1 ((loL Q gx g).length) (ints (nl (loL Q gx g))), .blk b4 38 [.int .i64 Q, .slice A_ug1 g c_ug1], .own (.slice A_ug1 g c_ug1) 71 3 g (ints gx), .blk b3 38 [.int .i64 (syN n1 x1), .slice A_uc21 ((syW n1 x1).length) c_uc21], .own (.slice A_uc21 ((syW n1 x1).length) c_uc21) 71 3 ((syW n1 x1).length) (ints (flCX (syW n1 x1))), .blk b2 38 [.int .i64 (syN n1 x1), .slice A_uc11 ((syW n1 x1).length) c_uc11], .own (.slice A_uc11 ((syW n1 x1).length) c_uc11) 71 3 ((syW n1 x1).length) (ints (flCX (syW n1 x1))), .blk b1 28 [.slice Au n1 cu], .own vb0 3 1 n0 (ints x0)]
    refine Run.q (v := .tuple #[.agg #[ul2], .bool (loB Q gx g)]) rfl (OpQ.y (OpY.pure rfl)) ?_
    refine Run.q (v := .agg #[ul2]) rfl (OpQ.y (OpY.pure rfl)) ?_
    refine Run.q (v := .bool (loB Q gx g)) rfl (OpQ.y (OpY.pure rfl)) ?_
    refine Run.step rfl (OpStep.alloc (zs := [.slice none 0 0]) Tzero_28 fun b6 => ?_)
    refine Run.formOwn (.tail _ (List.Mem.head _)) (fun A_ul21 c_ul21 hv hcapc_ul21 hmaxc_ul21 => ?_) (fun _ _ _ => ⟨nofun, nofun, nofun⟩)
    subst hv
    refine Run.step rfl (OpStep.storeAll (us := [.slice A_ul21 ((loL Q gx g).length) c_ul21]) Tsize_28 rfl rfl rfl (.here _) rfl ?_)
    refine Run.q (v := .bool (loB Q gx g)) rfl (OpQ.y (OpY.pure rfl)) ?_
    refine Run.done ?_
    refine Run.seq ?_
    refine Run.seq ?_
    refine Run.region ?_
    refine Run.q (v := .bool (linOk x1 n1)) rfl (OpQ.y (OpY.pure rfl)) ?_
    refine Run.q (v := .bool (linOk x1 n1)) rfl (OpQ.y (OpY.pure rfl)) ?_
    refine Run.q (v := .bool false) rfl (OpQ.y (OpY.neqBSame Tbool_4 rfl rfl rfl)) ?_
    refine Run.q (v := .bool false) rfl (OpQ.y (OpY.pure rfl)) ?_
    refine Run.q (v := .agg #[.int .i64 (syN n1 x1), .slice A_uc11 ((syW n1 x1).length) c_uc11]) rfl (OpQ.y (OpY.loadN (cs := [.int .i64 (syN n1 x1), .slice A_uc11 ((syW n1 x1).length) c_uc11]) Tagg_38 rfl (Cells.blk (.tail _ (.tail _ (.tail _ (.tail _ (.tail _ (.tail _ (.tail _ (.tail _ (List.Mem.head _))))))))) ⟨rfl, rfl, trivial⟩))) ?_
    refine Run.q (v := .agg #[.int .i64 (syN n1 x1), .slice A_uc21 ((syW n1 x1).length) c_uc21]) rfl (OpQ.y (OpY.loadN (cs := [.int .i64 (syN n1 x1), .slice A_uc21 ((syW n1 x1).length) c_uc21]) Tagg_38 rfl (Cells.blk (.tail _ (.tail _ (.tail _ (.tail _ (.tail _ (.tail _ (List.Mem.head _))))))) ⟨rfl, rfl, trivial⟩))) ?_
    refine Run.q (v := .bool true) rfl (OpQ.call (vs := [.agg #[.int .i64 (syN n1 x1), .slice A_uc11 ((syW n1 x1).length) c_uc11], .agg #[.int .i64 (syN n1 x1), .slice A_uc21 ((syW n1 x1).length) c_uc21]]) (caps := []) Tcall_33 rfl rfl (fun w hs => (by have h := EqualCircuits_spec (N := syN n1 x1) (M := syN n1 x1) (hs.slOwn (.tail _ (.tail _ (.tail _ (.tail _ (.tail _ (.tail _ (.tail _ (.tail _ (.tail _ (List.Mem.head _))))))))))) (hs.slOwn (.tail _ (.tail _ (.tail _ (.tail _ (.tail _ (.tail _ (.tail _ (List.Mem.head _))))))))); rw [eqc_same] at h; exact h))) ?_
    refine Run.q (v := .bool false) rfl (OpQ.y (OpY.pure rfl)) ?_
    refine Run.q (v := .bool false) rfl (OpQ.y (OpY.pure rfl)) ?_
    refine Run.q (v := .bool false) rfl (OpQ.y (OpY.pure rfl)) ?_
    refine Run.q (v := .bool (loB Q gx g)) rfl (OpQ.y (OpY.pure rfl)) ?_
    refine Run.q (v := .bool (loB Q gx g)) rfl (OpQ.y (OpY.pure rfl)) ?_
    refine Run.q (v := .bool false) rfl (OpQ.y (OpY.neqBSame Tbool_4 rfl rfl rfl)) ?_
    refine Run.q (v := .bool false) rfl (OpQ.y (OpY.pure rfl)) ?_
    refine Run.q (v := .bool false) rfl (OpQ.y (OpY.pure rfl)) ?_
    refine Run.q (v := .pointer (some ⟨b5, 0, none⟩)) rfl (OpQ.y (OpY.fieldAddr Tfo_28_0 rfl rfl)) ?_
    refine Run.q (v := .slice A_ul11 ((loL Q gx g).length) c_ul11) rfl (OpQ.y (OpY.load1 Tone_22 rfl (Cells.blk (.tail _ (.tail _ (List.Mem.head _))) ⟨rfl, trivial⟩))) ?_
    refine Run.q (v := .pointer (some ⟨b6, 0, none⟩)) rfl (OpQ.y (OpY.fieldAddr Tfo_28_0 rfl rfl)) ?_
    refine Run.q (v := .slice A_ul21 ((loL Q gx g).length) c_ul21) rfl (OpQ.y (OpY.load1 Tone_22 rfl (Cells.blk (.head _) ⟨rfl, trivial⟩))) ?_
    refine Run.q (v := .bool true) rfl (OpQ.call (vs := [.slice A_ul11 ((loL Q gx g).length) c_ul11, .slice A_ul21 ((loL Q gx g).length) c_ul21]) (caps := []) Tcall_34 rfl rfl (fun w hs => (by have h := qInts_spec (xs := (nl (loL Q gx g))) (ys := (nl (loL Q gx g))) (hs.slOwn (.tail _ (.tail _ (.tail _ (List.Mem.head _))))) (hs.slOwn (.tail _ (List.Mem.head _))); rw [decide_eq_true rfl] at h; exact h))) ?_
    refine Run.q (v := .bool false) rfl (OpQ.y (OpY.pure rfl)) ?_
    refine Run.q (v := .bool false) rfl (OpQ.y (OpY.pure rfl)) ?_
    refine Run.q (v := .bool false) rfl (OpQ.y (OpY.pure rfl)) ?_
    refine Run.q (v := .agg #[.slice Au n1 cu]) rfl (OpQ.y (OpY.loadN (cs := [.slice Au n1 cu]) Tagg_28 rfl (Cells.blk (.tail _ (.tail _ (.tail _ (.tail _ (.tail _ (.tail _ (.tail _ (.tail _ (.tail _ (.tail _ (List.Mem.head _))))))))))) ⟨rfl, trivial⟩))) ?_
    refine Run.q (v := .bool (linOk x1 n1)) rfl (OpQ.call (vs := [.agg #[.slice Au n1 cu]]) (caps := []) Tcall_35 rfl rfl (fun w hs => IsValidLinear_spec (hrd _ (hs.holds _ (.tail _ (.tail _ (.tail _ (.tail _ (.tail _ (.tail _ (.tail _ (.tail _ (.tail _ (.tail _ (.tail _ (List.Mem.head _)))))))))))))))) ?_
    refine Run.q (v := .bool (linOk x1 n1)) rfl (OpQ.y (OpY.pure rfl)) ?_
    refine Run.q (v := .bool false) rfl (OpQ.y (OpY.neqBSame Tbool_4 rfl rfl rfl)) ?_
    refine Run.q (v := .bool false) rfl (OpQ.y (OpY.pure rfl)) ?_
    refine Run.done ?_
    refine Run.cond (b := false) rfl (fun h => nomatch h) (fun _ => ?_)
    refine Run.skip ?_
    refine Run.seq ?_
    refine Run.seq ?_
    refine Run.region ?_
    refine Run.q (v := .bool (linOk x1 n1)) rfl (OpQ.y (OpY.pure rfl)) ?_
    refine Run.q (v := .bool (!(linOk x1 n1))) rfl (OpQ.y (OpY.pure rfl)) ?_
    refine Run.done ?_
    refine Run.cond (b := !(linOk x1 n1)) rfl (fun h90 => ?_) (fun h90 => ?_)
    · have p90 := h90; try simp only [bs] at p90
      refine Run.seq ?_
      refine Run.region ?_
      refine Run.q (v := .bool true) rfl (OpQ.y (OpY.pure rfl)) ?_
      refine Run.done ?_
      refine Run.ret ?_
      refine ⟨.bool true, [], Out.one rfl rfl, (Some'.weak (.nil _)), ?_⟩
      rfl
    · have p90 := h90; try simp only [bs] at p90
      have hok : linOk x1 n1 = true := by simpa using p90
      have hxl := h7
      obtain ⟨h1, h5, hnx, hnl, hlt, hin⟩ := lin_facts hxl hok
      have hsyn := lo_syn hxl hok
      have hco := co_inv hxl hok
      have hsb := slB_ok hok
      refine Run.skip ?_
      refine Run.seq ?_
      refine Run.region ?_
      refine Run.q (v := .agg #[.slice Au n1 cu]) rfl (OpQ.y (OpY.loadN (cs := [.slice Au n1 cu]) Tagg_28 rfl (Cells.blk (.tail _ (.tail _ (.tail _ (.tail _ (.tail _ (.tail _ (.tail _ (.tail _ (.tail _ (.tail _ (List.Mem.head _))))))))))) ⟨rfl, trivial⟩))) ?_
      refine Run.step rfl (OpStep.call (vs := [.agg #[.slice Au n1 cu]]) (caps := []) Tcall_36 rfl rfl (fun w hs => (by have h := InvertLinear_spec (hrd _ (hs.holds _ (.tail _ (.tail _ (.tail _ (.tail _ (.tail _ (.tail _ (.tail _ (.tail _ (.tail _ (.tail _ (.tail _ (List.Mem.head _)))))))))))))); rw [hok] at h; exact h)) ?_)
      rintro _ _ ⟨ui, rfl, rfl⟩
      show Run _ _ (putF _ _ _ (.tuple #[.agg #[ui], .bool true])) [.own ui 3 1 ((inL n1 x1).length) (ints (nl (inL n1 x1))), .blk b6 28 [.slice A_ul21 ((loL Q gx g).length) c_ul21], .own (.slice A_ul21 ((loL Q gx g).length) c_ul21) 3 1 ((loL Q gx g).length) (ints (nl (loL Q gx g))), .blk b5 28 [.slice A_ul11 ((loL Q gx g).length) c_ul11], .own (.slice A_ul11 ((loL Q gx g).length) c_ul11) 3 1 ((loL Q gx g).length) (ints (nl (loL Q gx g))), .blk b4 38 [.int .i64 Q, .slice A_ug1 g c_ug1], .own (.slice A_ug1 g c_ug1) 71 3 g (ints gx), .blk b3 38 [.int .i64 (syN n1 x1), .slice A_uc21 ((syW n1 x1).length) c_uc21], .own (.slice A_uc21 ((syW n1 x1).length) c_uc21) 71 3 ((syW n1 x1).length) (ints (flCX (syW n1 x1))), .blk b2 38 [.int .i64 (syN n1 x1), .slice A_uc11 ((syW n1 x1).length) c_uc11], .own (.slice A_uc11 ((syW n1 x1).length) c_uc11) 71 3 ((syW n1 x1).length) (ints (flCX (syW n1 x1))), .blk b1 28 [.slice Au n1 cu], .own vb0 3 1 n0 (ints x0)]
      refine Run.q (v := .tuple #[.agg #[ui], .bool true]) rfl (OpQ.y (OpY.pure rfl)) ?_
      refine Run.q (v := .agg #[ui]) rfl (OpQ.y (OpY.pure rfl)) ?_
      refine Run.q (v := .bool true) rfl (OpQ.y (OpY.pure rfl)) ?_
      refine Run.step rfl (OpStep.alloc (zs := [.slice none 0 0]) Tzero_28 fun b7 => ?_)
      refine Run.formOwn (.tail _ (List.Mem.head _)) (fun A_ui1 c_ui1 hv hcapc_ui1 hmaxc_ui1 => ?_) (fun _ _ _ => ⟨nofun, nofun, nofun⟩)
      subst hv
      refine Run.step rfl (OpStep.storeAll (us := [.slice A_ui1 ((inL n1 x1).length) c_ui1]) Tsize_28 rfl rfl rfl (.here _) rfl ?_)
      refine Run.q (v := .bool true) rfl (OpQ.y (OpY.pure rfl)) ?_
      refine Run.done ?_
      refine Run.seq ?_
      refine Run.region ?_
      refine Run.q (v := .agg #[.slice Au n1 cu]) rfl (OpQ.y (OpY.loadN (cs := [.slice Au n1 cu]) Tagg_28 rfl (Cells.blk (.tail _ (.tail _ (.tail _ (.tail _ (.tail _ (.tail _ (.tail _ (.tail _ (.tail _ (.tail _ (.tail _ (.tail _ (List.Mem.head _))))))))))))) ⟨rfl, trivial⟩))) ?_
      refine Run.q (v := .agg #[.slice A_ui1 ((inL n1 x1).length) c_ui1]) rfl (OpQ.y (OpY.loadN (cs := [.slice A_ui1 ((inL n1 x1).length) c_ui1]) Tagg_28 rfl (Cells.blk (.head _) ⟨rfl, trivial⟩))) ?_
      refine Run.step rfl (OpStep.call (vs := [.agg #[.slice Au n1 cu], .agg #[.slice A_ui1 ((inL n1 x1).length) c_ui1]]) (caps := []) Tcall_37 rfl rfl (fun w hs => (by have h := ComposeLinear_spec (hrd _ (hs.holds _ (.tail _ (.tail _ (.tail _ (.tail _ (.tail _ (.tail _ (.tail _ (.tail _ (.tail _ (.tail _ (.tail _ (.tail _ (.tail _ (List.Mem.head _)))))))))))))))) (hs.slOwn (.tail _ (List.Mem.head _))); rw [hco.1, hco.2, idL_length] at h; exact h)) ?_)
      rintro _ _ ⟨uo, rfl, rfl⟩
      show Run _ _ (putF _ _ _ (.tuple #[.agg #[uo], .bool true])) [.own uo 3 1 n1 (ints (nl (idL n1))), .blk b7 28 [.slice A_ui1 ((inL n1 x1).length) c_ui1], .own (.slice A_ui1 ((inL n1 x1).length) c_ui1) 3 1 ((inL n1 x1).length) (ints (nl (inL n1 x1))), .blk b6 28 [.slice A_ul21 ((loL Q gx g).length) c_ul21], .own (.slice A_ul21 ((loL Q gx g).length) c_ul21) 3 1 ((loL Q gx g).length) (ints (nl (loL Q gx g))), .blk b5 28 [.slice A_ul11 ((loL Q gx g).length) c_ul11], .own (.slice A_ul11 ((loL Q gx g).length) c_ul11) 3 1 ((loL Q gx g).length) (ints (nl (loL Q gx g))), .blk b4 38 [.int .i64 Q, .slice A_ug1 g c_ug1], .own (.slice A_ug1 g c_ug1) 71 3 g (ints gx), .blk b3 38 [.int .i64 (syN n1 x1), .slice A_uc21 ((syW n1 x1).length) c_uc21], .own (.slice A_uc21 ((syW n1 x1).length) c_uc21) 71 3 ((syW n1 x1).length) (ints (flCX (syW n1 x1))), .blk b2 38 [.int .i64 (syN n1 x1), .slice A_uc11 ((syW n1 x1).length) c_uc11], .own (.slice A_uc11 ((syW n1 x1).length) c_uc11) 71 3 ((syW n1 x1).length) (ints (flCX (syW n1 x1))), .blk b1 28 [.slice Au n1 cu], .own vb0 3 1 n0 (ints x0)]
      refine Run.q (v := .tuple #[.agg #[uo], .bool true]) rfl (OpQ.y (OpY.pure rfl)) ?_
      refine Run.q (v := .agg #[uo]) rfl (OpQ.y (OpY.pure rfl)) ?_
      refine Run.q (v := .bool true) rfl (OpQ.y (OpY.pure rfl)) ?_
      refine Run.step rfl (OpStep.alloc (zs := [.slice none 0 0]) Tzero_28 fun b8 => ?_)
      refine Run.formOwn (.tail _ (List.Mem.head _)) (fun A_uo1 c_uo1 hv hcapc_uo1 hmaxc_uo1 => ?_) (fun _ _ _ => ⟨nofun, nofun, nofun⟩)
      subst hv
      refine Run.step rfl (OpStep.storeAll (us := [.slice A_uo1 n1 c_uo1]) Tsize_28 rfl rfl rfl (.here _) rfl ?_)
      refine Run.q (v := .bool true) rfl (OpQ.y (OpY.pure rfl)) ?_
      refine Run.done ?_
      refine Run.seq ?_
      refine Run.region ?_
      refine Run.q (v := .pointer (some ⟨b1, 0, none⟩)) rfl (OpQ.y (OpY.fieldAddr Tfo_28_0 rfl rfl)) ?_
      refine Run.q (v := .slice Au n1 cu) rfl (OpQ.y (OpY.load1 Tone_22 rfl (Cells.blk (.tail _ (.tail _ (.tail _ (.tail _ (.tail _ (.tail _ (.tail _ (.tail _ (.tail _ (.tail _ (.tail _ (.tail _ (.tail _ (.tail _ (List.Mem.head _))))))))))))))) ⟨rfl, trivial⟩))) ?_
      refine Run.q (v := .int .i64 (((n1 : Nat) : Int))) rfl (OpQ.y (OpY.len Tsl_22 rfl)) ?_
      refine Run.step rfl (OpStep.call (vs := [.int .i64 (((n1 : Nat) : Int))]) (caps := []) Tcall_38 rfl rfl (fun w hs => IdentityLinear_spec h1 h5 w) ?_)
      rintro _ _ ⟨ud, rfl, rfl⟩
      show Run _ _ (putF _ _ _ (.tuple #[.agg #[ud], .bool true])) [.own ud 3 1 n1 (ints (nl (idL n1))), .blk b8 28 [.slice A_uo1 n1 c_uo1], .own (.slice A_uo1 n1 c_uo1) 3 1 n1 (ints (nl (idL n1))), .blk b7 28 [.slice A_ui1 ((inL n1 x1).length) c_ui1], .own (.slice A_ui1 ((inL n1 x1).length) c_ui1) 3 1 ((inL n1 x1).length) (ints (nl (inL n1 x1))), .blk b6 28 [.slice A_ul21 ((loL Q gx g).length) c_ul21], .own (.slice A_ul21 ((loL Q gx g).length) c_ul21) 3 1 ((loL Q gx g).length) (ints (nl (loL Q gx g))), .blk b5 28 [.slice A_ul11 ((loL Q gx g).length) c_ul11], .own (.slice A_ul11 ((loL Q gx g).length) c_ul11) 3 1 ((loL Q gx g).length) (ints (nl (loL Q gx g))), .blk b4 38 [.int .i64 Q, .slice A_ug1 g c_ug1], .own (.slice A_ug1 g c_ug1) 71 3 g (ints gx), .blk b3 38 [.int .i64 (syN n1 x1), .slice A_uc21 ((syW n1 x1).length) c_uc21], .own (.slice A_uc21 ((syW n1 x1).length) c_uc21) 71 3 ((syW n1 x1).length) (ints (flCX (syW n1 x1))), .blk b2 38 [.int .i64 (syN n1 x1), .slice A_uc11 ((syW n1 x1).length) c_uc11], .own (.slice A_uc11 ((syW n1 x1).length) c_uc11) 71 3 ((syW n1 x1).length) (ints (flCX (syW n1 x1))), .blk b1 28 [.slice Au n1 cu], .own vb0 3 1 n0 (ints x0)]
      refine Run.q (v := .tuple #[.agg #[ud], .bool true]) rfl (OpQ.y (OpY.pure rfl)) ?_
      refine Run.q (v := .agg #[ud]) rfl (OpQ.y (OpY.pure rfl)) ?_
      refine Run.q (v := .bool true) rfl (OpQ.y (OpY.pure rfl)) ?_
      refine Run.step rfl (OpStep.alloc (zs := [.slice none 0 0]) Tzero_28 fun b9 => ?_)
      refine Run.formOwn (.tail _ (List.Mem.head _)) (fun A_ud1 c_ud1 hv hcapc_ud1 hmaxc_ud1 => ?_) (fun _ _ _ => ⟨nofun, nofun, nofun⟩)
      subst hv
      refine Run.step rfl (OpStep.storeAll (us := [.slice A_ud1 n1 c_ud1]) Tsize_28 rfl rfl rfl (.here _) rfl ?_)
      refine Run.q (v := .bool true) rfl (OpQ.y (OpY.pure rfl)) ?_
      refine Run.done ?_
      refine Run.seq ?_
      refine Run.region ?_
      refine Run.q (v := .agg #[.int .i64 (syN n1 x1), .slice A_uc11 ((syW n1 x1).length) c_uc11]) rfl (OpQ.y (OpY.loadN (cs := [.int .i64 (syN n1 x1), .slice A_uc11 ((syW n1 x1).length) c_uc11]) Tagg_38 rfl (Cells.blk (.tail _ (.tail _ (.tail _ (.tail _ (.tail _ (.tail _ (.tail _ (.tail _ (.tail _ (.tail _ (.tail _ (.tail _ (.tail _ (.tail _ (List.Mem.head _))))))))))))))) ⟨rfl, rfl, trivial⟩))) ?_
      refine Run.step rfl (OpStep.call (vs := [.agg #[.int .i64 (syN n1 x1), .slice A_uc11 ((syW n1 x1).length) c_uc11]]) (caps := []) Tcall_31 rfl rfl (fun w hs => (by have h := LinearOf_spec (N := syN n1 x1) (hs.slOwn (.tail _ (.tail _ (.tail _ (.tail _ (.tail _ (.tail _ (.tail _ (.tail _ (.tail _ (.tail _ (.tail _ (.tail _ (.tail _ (.tail _ (.tail _ (List.Mem.head _))))))))))))))))); rw [hsyn.1, hsyn.2] at h; exact h)) ?_)
      rintro _ _ ⟨ul3, rfl, rfl⟩
      show Run _ _ (putF _ _ _ (.tuple #[.agg #[ul3], .bool true])) [.own ul3 3 1 ((nats x1).length) (ints (nl (nats x1))), .blk b9 28 [.slice A_ud1 n1 c_ud1], .own (.slice A_ud1 n1 c_ud1) 3 1 n1 (ints (nl (idL n1))), .blk b8 28 [.slice A_uo1 n1 c_uo1], .own (.slice A_uo1 n1 c_uo1) 3 1 n1 (ints (nl (idL n1))), .blk b7 28 [.slice A_ui1 ((inL n1 x1).length) c_ui1], .own (.slice A_ui1 ((inL n1 x1).length) c_ui1) 3 1 ((inL n1 x1).length) (ints (nl (inL n1 x1))), .blk b6 28 [.slice A_ul21 ((loL Q gx g).length) c_ul21], .own (.slice A_ul21 ((loL Q gx g).length) c_ul21) 3 1 ((loL Q gx g).length) (ints (nl (loL Q gx g))), .blk b5 28 [.slice A_ul11 ((loL Q gx g).length) c_ul11], .own (.slice A_ul11 ((loL Q gx g).length) c_ul11) 3 1 ((loL Q gx g).length) (ints (nl (loL Q gx g))), .blk b4 38 [.int .i64 Q, .slice A_ug1 g c_ug1], .own (.slice A_ug1 g c_ug1) 71 3 g (ints gx), .blk b3 38 [.int .i64 (syN n1 x1), .slice A_uc21 ((syW n1 x1).length) c_uc21], .own (.slice A_uc21 ((syW n1 x1).length) c_uc21) 71 3 ((syW n1 x1).length) (ints (flCX (syW n1 x1))), .blk b2 38 [.int .i64 (syN n1 x1), .slice A_uc11 ((syW n1 x1).length) c_uc11], .own (.slice A_uc11 ((syW n1 x1).length) c_uc11) 71 3 ((syW n1 x1).length) (ints (flCX (syW n1 x1))), .blk b1 28 [.slice Au n1 cu], .own vb0 3 1 n0 (ints x0)]
      refine Run.q (v := .tuple #[.agg #[ul3], .bool true]) rfl (OpQ.y (OpY.pure rfl)) ?_
      refine Run.q (v := .agg #[ul3]) rfl (OpQ.y (OpY.pure rfl)) ?_
      refine Run.q (v := .bool true) rfl (OpQ.y (OpY.pure rfl)) ?_
      refine Run.step rfl (OpStep.alloc (zs := [.slice none 0 0]) Tzero_28 fun b10 => ?_)
      refine Run.formOwn (.tail _ (List.Mem.head _)) (fun A_ul31 c_ul31 hv hcapc_ul31 hmaxc_ul31 => ?_) (fun _ _ _ => ⟨nofun, nofun, nofun⟩)
      subst hv
      refine Run.step rfl (OpStep.storeAll (us := [.slice A_ul31 ((nats x1).length) c_ul31]) Tsize_28 rfl rfl rfl (.here _) rfl ?_)
      refine Run.q (v := .bool true) rfl (OpQ.y (OpY.pure rfl)) ?_
      refine Run.done ?_
      refine Run.seq ?_
      refine Run.region ?_
      refine Run.q (v := .pointer (some ⟨b1, 0, none⟩)) rfl (OpQ.y (OpY.fieldAddr Tfo_28_0 rfl rfl)) ?_
      refine Run.q (v := .slice Au n1 cu) rfl (OpQ.y (OpY.load1 Tone_22 rfl (Cells.blk (.tail _ (.tail _ (.tail _ (.tail _ (.tail _ (.tail _ (.tail _ (.tail _ (.tail _ (.tail _ (.tail _ (.tail _ (.tail _ (.tail _ (.tail _ (.tail _ (.tail _ (.tail _ (List.Mem.head _))))))))))))))))))) ⟨rfl, trivial⟩))) ?_
      refine Run.q (v := .tuple #[.int .i64 (((n1 : Nat) : Int)), .bool true]) rfl (OpQ.call (vs := [.slice Au n1 cu]) (caps := []) Tcall_39 rfl rfl (fun w hs => RankOf_spec hok (hrd _ (hs.holds _ (.tail _ (.tail _ (.tail _ (.tail _ (.tail _ (.tail _ (.tail _ (.tail _ (.tail _ (.tail _ (.tail _ (.tail _ (.tail _ (.tail _ (.tail _ (.tail _ (.tail _ (.tail _ (.tail _ (List.Mem.head _)))))))))))))))))))))))) ?_
      refine Run.q (v := .tuple #[.int .i64 (((n1 : Nat) : Int)), .bool true]) rfl (OpQ.y (OpY.pure rfl)) ?_
      refine Run.q (v := .int .i64 (((n1 : Nat) : Int))) rfl (OpQ.y (OpY.pure rfl)) ?_
      refine Run.q (v := .bool true) rfl (OpQ.y (OpY.pure rfl)) ?_
      refine Run.q (v := .int .i64 (((n1 : Nat) : Int))) rfl (OpQ.y (OpY.pure rfl)) ?_
      refine Run.q (v := .bool true) rfl (OpQ.y (OpY.pure rfl)) ?_
      refine Run.done ?_
      refine Run.seq ?_
      refine Run.seq ?_
      refine Run.region ?_
      refine Run.q (v := .bool true) rfl (OpQ.y (OpY.pure rfl)) ?_
      refine Run.q (v := .bool false) rfl (OpQ.y (OpY.pure rfl)) ?_
      refine Run.q (v := .bool false) rfl (OpQ.y (OpY.pure rfl)) ?_
      refine Run.q (v := .bool true) rfl (OpQ.y (OpY.pure rfl)) ?_
      refine Run.q (v := .bool false) rfl (OpQ.y (OpY.pure rfl)) ?_
      refine Run.q (v := .bool false) rfl (OpQ.y (OpY.pure rfl)) ?_
      refine Run.q (v := .bool false) rfl (OpQ.y (OpY.pure rfl)) ?_
      refine Run.q (v := .bool true) rfl (OpQ.y (OpY.pure rfl)) ?_
      refine Run.q (v := .bool false) rfl (OpQ.y (OpY.pure rfl)) ?_
      refine Run.q (v := .bool false) rfl (OpQ.y (OpY.pure rfl)) ?_
      refine Run.q (v := .bool false) rfl (OpQ.y (OpY.pure rfl)) ?_
      refine Run.q (v := .bool true) rfl (OpQ.y (OpY.pure rfl)) ?_
      refine Run.q (v := .bool false) rfl (OpQ.y (OpY.pure rfl)) ?_
      refine Run.q (v := .bool false) rfl (OpQ.y (OpY.pure rfl)) ?_
      refine Run.q (v := .bool false) rfl (OpQ.y (OpY.pure rfl)) ?_
      refine Run.q (v := .bool true) rfl (OpQ.y (OpY.pure rfl)) ?_
      refine Run.q (v := .bool false) rfl (OpQ.y (OpY.pure rfl)) ?_
      refine Run.q (v := .bool false) rfl (OpQ.y (OpY.pure rfl)) ?_
      refine Run.q (v := .bool false) rfl (OpQ.y (OpY.pure rfl)) ?_
      refine Run.q (v := .int .i64 (((n1 : Nat) : Int))) rfl (OpQ.y (OpY.pure rfl)) ?_
      refine Run.q (v := .pointer (some ⟨b1, 0, none⟩)) rfl (OpQ.y (OpY.fieldAddr Tfo_28_0 rfl rfl)) ?_
      refine Run.q (v := .slice Au n1 cu) rfl (OpQ.y (OpY.load1 Tone_22 rfl (Cells.blk (.tail _ (.tail _ (.tail _ (.tail _ (.tail _ (.tail _ (.tail _ (.tail _ (.tail _ (.tail _ (.tail _ (.tail _ (.tail _ (.tail _ (.tail _ (.tail _ (.tail _ (.tail _ (List.Mem.head _))))))))))))))))))) ⟨rfl, trivial⟩))) ?_
      refine Run.q (v := .int .i64 (((n1 : Nat) : Int))) rfl (OpQ.y (OpY.len Tsl_22 rfl)) ?_
      refine Run.q (v := .bool false) rfl (OpQ.y (OpY.neqSame rfl rfl rfl)) ?_
      refine Run.q (v := .bool false) rfl (OpQ.y (OpY.pure rfl)) ?_
      refine Run.q (v := .bool false) rfl (OpQ.y (OpY.pure rfl)) ?_
      refine Run.q (v := .pointer (some ⟨b8, 0, none⟩)) rfl (OpQ.y (OpY.fieldAddr Tfo_28_0 rfl rfl)) ?_
      refine Run.q (v := .slice A_uo1 n1 c_uo1) rfl (OpQ.y (OpY.load1 Tone_22 rfl (Cells.blk (.tail _ (.tail _ (.tail _ (.tail _ (List.Mem.head _))))) ⟨rfl, trivial⟩))) ?_
      refine Run.q (v := .pointer (some ⟨b9, 0, none⟩)) rfl (OpQ.y (OpY.fieldAddr Tfo_28_0 rfl rfl)) ?_
      refine Run.q (v := .slice A_ud1 n1 c_ud1) rfl (OpQ.y (OpY.load1 Tone_22 rfl (Cells.blk (.tail _ (.tail _ (List.Mem.head _))) ⟨rfl, trivial⟩))) ?_
      refine Run.q (v := .bool true) rfl (OpQ.call (vs := [.slice A_uo1 n1 c_uo1, .slice A_ud1 n1 c_ud1]) (caps := []) Tcall_34 rfl rfl (fun w hs => (by have h := qInts_spec (xs := (nl (idL n1))) (ys := (nl (idL n1))) (hs.slOwn (.tail _ (.tail _ (.tail _ (.tail _ (.tail _ (List.Mem.head _))))))) (hs.slOwn (.tail _ (.tail _ (.tail _ (List.Mem.head _))))); rw [decide_eq_true rfl] at h; exact h))) ?_
      refine Run.q (v := .bool false) rfl (OpQ.y (OpY.pure rfl)) ?_
      refine Run.q (v := .bool false) rfl (OpQ.y (OpY.pure rfl)) ?_
      refine Run.q (v := .bool false) rfl (OpQ.y (OpY.pure rfl)) ?_
      refine Run.q (v := .pointer (some ⟨b10, 0, none⟩)) rfl (OpQ.y (OpY.fieldAddr Tfo_28_0 rfl rfl)) ?_
      refine Run.q (v := .slice A_ul31 ((nats x1).length) c_ul31) rfl (OpQ.y (OpY.load1 Tone_22 rfl (Cells.blk (.head _) ⟨rfl, trivial⟩))) ?_
      refine Run.q (v := .pointer (some ⟨b1, 0, none⟩)) rfl (OpQ.y (OpY.fieldAddr Tfo_28_0 rfl rfl)) ?_
      refine Run.q (v := .slice Au n1 cu) rfl (OpQ.y (OpY.load1 Tone_22 rfl (Cells.blk (.tail _ (.tail _ (.tail _ (.tail _ (.tail _ (.tail _ (.tail _ (.tail _ (.tail _ (.tail _ (.tail _ (.tail _ (.tail _ (.tail _ (.tail _ (.tail _ (.tail _ (.tail _ (List.Mem.head _))))))))))))))))))) ⟨rfl, trivial⟩))) ?_
      refine Run.q (v := .bool true) rfl (OpQ.call (vs := [.slice A_ul31 ((nats x1).length) c_ul31, .slice Au n1 cu]) (caps := []) Tcall_34 rfl rfl (fun w hs => (by have h := qInts_spec (xs := (nl (nats x1))) (ys := x1) (hs.slOwn (.tail _ (List.Mem.head _))) (hrd _ (hs.holds _ (.tail _ (.tail _ (.tail _ (.tail _ (.tail _ (.tail _ (.tail _ (.tail _ (.tail _ (.tail _ (.tail _ (.tail _ (.tail _ (.tail _ (.tail _ (.tail _ (.tail _ (.tail _ (.tail _ (List.Mem.head _)))))))))))))))))))))); rw [decide_eq_true hnx] at h; exact h))) ?_
      refine Run.q (v := .bool false) rfl (OpQ.y (OpY.pure rfl)) ?_
      refine Run.q (v := .bool false) rfl (OpQ.y (OpY.pure rfl)) ?_
      refine Run.done ?_
      refine Run.cond (b := false) rfl (fun h => nomatch h) (fun _ => ?_)
      refine Run.skip ?_
      refine Run.seq ?_
      refine Run.region ?_
      refine Run.q (v := .agg #[.slice Au n1 cu]) rfl (OpQ.y (OpY.loadN (cs := [.slice Au n1 cu]) Tagg_28 rfl (Cells.blk (.tail _ (.tail _ (.tail _ (.tail _ (.tail _ (.tail _ (.tail _ (.tail _ (.tail _ (.tail _ (.tail _ (.tail _ (.tail _ (.tail _ (.tail _ (.tail _ (.tail _ (.tail _ (List.Mem.head _))))))))))))))))))) ⟨rfl, trivial⟩))) ?_
      refine Run.q (v := .tuple #[.int .i64 ((((slG n1 x1).length : Nat) : Int)), .bool (slB n1 x1)]) rfl (OpQ.call (vs := [.agg #[.slice Au n1 cu]]) (caps := []) Tcall_12 rfl rfl (fun w hs => LeastCX_spec (hrd _ (hs.holds _ (.tail _ (.tail _ (.tail _ (.tail _ (.tail _ (.tail _ (.tail _ (.tail _ (.tail _ (.tail _ (.tail _ (.tail _ (.tail _ (.tail _ (.tail _ (.tail _ (.tail _ (.tail _ (.tail _ (List.Mem.head _)))))))))))))))))))))))) ?_
      refine Run.q (v := .tuple #[.int .i64 ((((slG n1 x1).length : Nat) : Int)), .bool (slB n1 x1)]) rfl (OpQ.y (OpY.pure rfl)) ?_
      refine Run.q (v := .int .i64 ((((slG n1 x1).length : Nat) : Int))) rfl (OpQ.y (OpY.pure rfl)) ?_
      refine Run.q (v := .bool (slB n1 x1)) rfl (OpQ.y (OpY.pure rfl)) ?_
      refine Run.q (v := .int .i64 ((((slG n1 x1).length : Nat) : Int))) rfl (OpQ.y (OpY.pure rfl)) ?_
      refine Run.q (v := .bool (slB n1 x1)) rfl (OpQ.y (OpY.pure rfl)) ?_
      refine Run.done ?_
      refine Run.seq ?_
      refine Run.region ?_
      refine Run.q (v := .agg #[.slice Au n1 cu]) rfl (OpQ.y (OpY.loadN (cs := [.slice Au n1 cu]) Tagg_28 rfl (Cells.blk (.tail _ (.tail _ (.tail _ (.tail _ (.tail _ (.tail _ (.tail _ (.tail _ (.tail _ (.tail _ (.tail _ (.tail _ (.tail _ (.tail _ (.tail _ (.tail _ (.tail _ (.tail _ (List.Mem.head _))))))))))))))))))) ⟨rfl, trivial⟩))) ?_
      refine Run.step rfl (OpStep.call (vs := [.agg #[.slice Au n1 cu]]) (caps := []) Tcall_19 rfl rfl (fun w hs => ShortestLinear_spec (hrd _ (hs.holds _ (.tail _ (.tail _ (.tail _ (.tail _ (.tail _ (.tail _ (.tail _ (.tail _ (.tail _ (.tail _ (.tail _ (.tail _ (.tail _ (.tail _ (.tail _ (.tail _ (.tail _ (.tail _ (.tail _ (List.Mem.head _))))))))))))))))))))))) ?_)
      rintro _ _ ⟨us, rfl, rfl⟩
      show Run _ _ (putF _ _ _ (.tuple #[.agg #[.int .i64 (slN n1 x1), us], .bool (slB n1 x1)])) [.own us 71 3 ((slG n1 x1).length) (ints (flCX (dcw n1 (slG n1 x1)))), .blk b10 28 [.slice A_ul31 ((nats x1).length) c_ul31], .own (.slice A_ul31 ((nats x1).length) c_ul31) 3 1 ((nats x1).length) (ints (nl (nats x1))), .blk b9 28 [.slice A_ud1 n1 c_ud1], .own (.slice A_ud1 n1 c_ud1) 3 1 n1 (ints (nl (idL n1))), .blk b8 28 [.slice A_uo1 n1 c_uo1], .own (.slice A_uo1 n1 c_uo1) 3 1 n1 (ints (nl (idL n1))), .blk b7 28 [.slice A_ui1 ((inL n1 x1).length) c_ui1], .own (.slice A_ui1 ((inL n1 x1).length) c_ui1) 3 1 ((inL n1 x1).length) (ints (nl (inL n1 x1))), .blk b6 28 [.slice A_ul21 ((loL Q gx g).length) c_ul21], .own (.slice A_ul21 ((loL Q gx g).length) c_ul21) 3 1 ((loL Q gx g).length) (ints (nl (loL Q gx g))), .blk b5 28 [.slice A_ul11 ((loL Q gx g).length) c_ul11], .own (.slice A_ul11 ((loL Q gx g).length) c_ul11) 3 1 ((loL Q gx g).length) (ints (nl (loL Q gx g))), .blk b4 38 [.int .i64 Q, .slice A_ug1 g c_ug1], .own (.slice A_ug1 g c_ug1) 71 3 g (ints gx), .blk b3 38 [.int .i64 (syN n1 x1), .slice A_uc21 ((syW n1 x1).length) c_uc21], .own (.slice A_uc21 ((syW n1 x1).length) c_uc21) 71 3 ((syW n1 x1).length) (ints (flCX (syW n1 x1))), .blk b2 38 [.int .i64 (syN n1 x1), .slice A_uc11 ((syW n1 x1).length) c_uc11], .own (.slice A_uc11 ((syW n1 x1).length) c_uc11) 71 3 ((syW n1 x1).length) (ints (flCX (syW n1 x1))), .blk b1 28 [.slice Au n1 cu], .own vb0 3 1 n0 (ints x0)]
      refine Run.q (v := .tuple #[.agg #[.int .i64 (slN n1 x1), us], .bool (slB n1 x1)]) rfl (OpQ.y (OpY.pure rfl)) ?_
      refine Run.q (v := .agg #[.int .i64 (slN n1 x1), us]) rfl (OpQ.y (OpY.pure rfl)) ?_
      refine Run.q (v := .bool (slB n1 x1)) rfl (OpQ.y (OpY.pure rfl)) ?_
      refine Run.step rfl (OpStep.alloc (zs := [.int .i64 0, .slice none 0 0]) Tzero_38 fun b11 => ?_)
      refine Run.formOwn (.tail _ (List.Mem.head _)) (fun A_us1 c_us1 hv hcapc_us1 hmaxc_us1 => ?_) (fun _ _ _ => ⟨nofun, nofun, nofun⟩)
      subst hv
      refine Run.step rfl (OpStep.storeAll (us := [.int .i64 (slN n1 x1), .slice A_us1 ((slG n1 x1).length) c_us1]) Tsize_38 rfl rfl rfl (.here _) rfl ?_)
      refine Run.q (v := .bool (slB n1 x1)) rfl (OpQ.y (OpY.pure rfl)) ?_
      refine Run.done ?_
      refine Run.seq ?_
      refine Run.seq ?_
      refine Run.region ?_
      refine Run.q (v := .bool (slB n1 x1)) rfl (OpQ.y (OpY.pure rfl)) ?_
      refine Run.q (v := .bool (slB n1 x1)) rfl (OpQ.y (OpY.pure rfl)) ?_
      refine Run.q (v := .bool false) rfl (OpQ.y (OpY.neqBSame Tbool_4 rfl rfl rfl)) ?_
      refine Run.q (v := .bool false) rfl (OpQ.y (OpY.pure rfl)) ?_
      refine Run.q (v := .bool (slB n1 x1)) rfl (OpQ.y (OpY.pure rfl)) ?_
      refine Run.q (v := .pointer (some ⟨b1, 0, none⟩)) rfl (OpQ.y (OpY.fieldAddr Tfo_28_0 rfl rfl)) ?_
      refine Run.q (v := .slice Au n1 cu) rfl (OpQ.y (OpY.load1 Tone_22 rfl (Cells.blk (.tail _ (.tail _ (.tail _ (.tail _ (.tail _ (.tail _ (.tail _ (.tail _ (.tail _ (.tail _ (.tail _ (.tail _ (.tail _ (.tail _ (.tail _ (.tail _ (.tail _ (.tail _ (.tail _ (.tail _ (List.Mem.head _))))))))))))))))))))) ⟨rfl, trivial⟩))) ?_
      refine Run.q (v := .int .i64 (((n1 : Nat) : Int))) rfl (OpQ.y (OpY.len Tsl_22 rfl)) ?_
      refine Run.q (v := .bool (decide ((((n1 : Nat) : Int)) ≤ 4))) rfl (OpQ.y (OpY.pure rfl)) ?_
      refine Run.q (v := .bool ((slB n1 x1) != (decide ((((n1 : Nat) : Int)) ≤ 4)))) rfl (OpQ.y (OpY.eqBn Tbool_4 rfl rfl)) ?_
      refine Run.q (v := .bool ((slB n1 x1) != (decide ((((n1 : Nat) : Int)) ≤ 4)))) rfl (OpQ.y (OpY.pure rfl)) ?_
      refine Run.done ?_
      refine Run.cond (b := (slB n1 x1) != (decide ((((n1 : Nat) : Int)) ≤ 4))) rfl (fun h181 => ?_) (fun h181 => ?_)
      · exfalso
        rw [hsb] at h181
        simp at h181 --DONE
      · have p181 := h181; try simp only [bs] at p181
        refine Run.skip ?_
        refine Run.seq ?_
        refine Run.seq ?_
        refine Run.region ?_
        refine Run.q (v := .bool (slB n1 x1)) rfl (OpQ.y (OpY.pure rfl)) ?_
        refine Run.q (v := .bool (!(slB n1 x1))) rfl (OpQ.y (OpY.pure rfl)) ?_
        refine Run.done ?_
        refine Run.cond (b := !(slB n1 x1)) rfl (fun h183 => ?_) (fun h183 => ?_)
        · have p183 := h183; try simp only [bs] at p183
          refine Run.seq ?_
          refine Run.region ?_
          refine Run.q (v := .bool true) rfl (OpQ.y (OpY.pure rfl)) ?_
          refine Run.done ?_
          refine Run.ret ?_
          refine ⟨.bool true, [], Out.one rfl rfl, (Some'.weak (.nil _)), ?_⟩
          rfl
        · have p183 := h183; try simp only [bs] at p183
          have hsB : slB n1 x1 = true := by simpa using p183
          have hsho := lo_short hxl hsB
          have hle : decide ((((slG n1 x1).length : Nat) : Int) ≤ (((syW n1 x1).length : Nat) : Int)) = true := decide_eq_true (by have := least_le hxl hsB; omega)
          refine Run.skip ?_
          refine Run.seq ?_
          refine Run.region ?_
          refine Run.q (v := .agg #[.int .i64 (slN n1 x1), .slice A_us1 ((slG n1 x1).length) c_us1]) rfl (OpQ.y (OpY.loadN (cs := [.int .i64 (slN n1 x1), .slice A_us1 ((slG n1 x1).length) c_us1]) Tagg_38 rfl (Cells.blk (.head _) ⟨rfl, rfl, trivial⟩))) ?_
          refine Run.step rfl (OpStep.call (vs := [.agg #[.int .i64 (slN n1 x1), .slice A_us1 ((slG n1 x1).length) c_us1]]) (caps := []) Tcall_31 rfl rfl (fun w hs => (by have h := LinearOf_spec (N := slN n1 x1) (hs.slOwn (.tail _ (List.Mem.head _))); rw [hsho.1, hsho.2] at h; exact h)) ?_)
          rintro _ _ ⟨ul4, rfl, rfl⟩
          show Run _ _ (putF _ _ _ (.tuple #[.agg #[ul4], .bool true])) [.own ul4 3 1 ((nats x1).length) (ints (nl (nats x1))), .blk b11 38 [.int .i64 (slN n1 x1), .slice A_us1 ((slG n1 x1).length) c_us1], .own (.slice A_us1 ((slG n1 x1).length) c_us1) 71 3 ((slG n1 x1).length) (ints (flCX (dcw n1 (slG n1 x1)))), .blk b10 28 [.slice A_ul31 ((nats x1).length) c_ul31], .own (.slice A_ul31 ((nats x1).length) c_ul31) 3 1 ((nats x1).length) (ints (nl (nats x1))), .blk b9 28 [.slice A_ud1 n1 c_ud1], .own (.slice A_ud1 n1 c_ud1) 3 1 n1 (ints (nl (idL n1))), .blk b8 28 [.slice A_uo1 n1 c_uo1], .own (.slice A_uo1 n1 c_uo1) 3 1 n1 (ints (nl (idL n1))), .blk b7 28 [.slice A_ui1 ((inL n1 x1).length) c_ui1], .own (.slice A_ui1 ((inL n1 x1).length) c_ui1) 3 1 ((inL n1 x1).length) (ints (nl (inL n1 x1))), .blk b6 28 [.slice A_ul21 ((loL Q gx g).length) c_ul21], .own (.slice A_ul21 ((loL Q gx g).length) c_ul21) 3 1 ((loL Q gx g).length) (ints (nl (loL Q gx g))), .blk b5 28 [.slice A_ul11 ((loL Q gx g).length) c_ul11], .own (.slice A_ul11 ((loL Q gx g).length) c_ul11) 3 1 ((loL Q gx g).length) (ints (nl (loL Q gx g))), .blk b4 38 [.int .i64 Q, .slice A_ug1 g c_ug1], .own (.slice A_ug1 g c_ug1) 71 3 g (ints gx), .blk b3 38 [.int .i64 (syN n1 x1), .slice A_uc21 ((syW n1 x1).length) c_uc21], .own (.slice A_uc21 ((syW n1 x1).length) c_uc21) 71 3 ((syW n1 x1).length) (ints (flCX (syW n1 x1))), .blk b2 38 [.int .i64 (syN n1 x1), .slice A_uc11 ((syW n1 x1).length) c_uc11], .own (.slice A_uc11 ((syW n1 x1).length) c_uc11) 71 3 ((syW n1 x1).length) (ints (flCX (syW n1 x1))), .blk b1 28 [.slice Au n1 cu], .own vb0 3 1 n0 (ints x0)]
          refine Run.q (v := .tuple #[.agg #[ul4], .bool true]) rfl (OpQ.y (OpY.pure rfl)) ?_
          refine Run.q (v := .agg #[ul4]) rfl (OpQ.y (OpY.pure rfl)) ?_
          refine Run.q (v := .bool true) rfl (OpQ.y (OpY.pure rfl)) ?_
          refine Run.step rfl (OpStep.alloc (zs := [.slice none 0 0]) Tzero_28 fun b12 => ?_)
          refine Run.formOwn (.tail _ (List.Mem.head _)) (fun A_ul41 c_ul41 hv hcapc_ul41 hmaxc_ul41 => ?_) (fun _ _ _ => ⟨nofun, nofun, nofun⟩)
          subst hv
          refine Run.step rfl (OpStep.storeAll (us := [.slice A_ul41 ((nats x1).length) c_ul41]) Tsize_28 rfl rfl rfl (.here _) rfl ?_)
          refine Run.q (v := .bool true) rfl (OpQ.y (OpY.pure rfl)) ?_
          refine Run.done ?_
          refine Run.seq ?_
          refine Run.region ?_
          refine Run.q (v := .pointer (some ⟨b12, 0, none⟩)) rfl (OpQ.y (OpY.fieldAddr Tfo_28_0 rfl rfl)) ?_
          refine Run.q (v := .slice A_ul41 ((nats x1).length) c_ul41) rfl (OpQ.y (OpY.load1 Tone_22 rfl (Cells.blk (.head _) ⟨rfl, trivial⟩))) ?_
          refine Run.q (v := .pointer (some ⟨b1, 0, none⟩)) rfl (OpQ.y (OpY.fieldAddr Tfo_28_0 rfl rfl)) ?_
          refine Run.q (v := .slice Au n1 cu) rfl (OpQ.y (OpY.load1 Tone_22 rfl (Cells.blk (.tail _ (.tail _ (.tail _ (.tail _ (.tail _ (.tail _ (.tail _ (.tail _ (.tail _ (.tail _ (.tail _ (.tail _ (.tail _ (.tail _ (.tail _ (.tail _ (.tail _ (.tail _ (.tail _ (.tail _ (.tail _ (.tail _ (List.Mem.head _))))))))))))))))))))))) ⟨rfl, trivial⟩))) ?_
          refine Run.q (v := .bool true) rfl (OpQ.call (vs := [.slice A_ul41 ((nats x1).length) c_ul41, .slice Au n1 cu]) (caps := []) Tcall_34 rfl rfl (fun w hs => (by have h := qInts_spec (xs := (nl (nats x1))) (ys := x1) (hs.slOwn (.tail _ (List.Mem.head _))) (hrd _ (hs.holds _ (.tail _ (.tail _ (.tail _ (.tail _ (.tail _ (.tail _ (.tail _ (.tail _ (.tail _ (.tail _ (.tail _ (.tail _ (.tail _ (.tail _ (.tail _ (.tail _ (.tail _ (.tail _ (.tail _ (.tail _ (.tail _ (.tail _ (.tail _ (List.Mem.head _)))))))))))))))))))))))))); rw [decide_eq_true hnx] at h; exact h))) ?_
          refine Run.q (v := .bool true) rfl (OpQ.y (OpY.pure rfl)) ?_
          refine Run.q (v := .pointer (some ⟨b11, 1, none⟩)) rfl (OpQ.y (OpY.fieldAddr Tfo_38_1 rfl rfl)) ?_
          refine Run.q (v := .slice A_us1 ((slG n1 x1).length) c_us1) rfl (OpQ.y (OpY.load1 Tone_36 rfl (Cells.blk (.tail _ (.tail _ (List.Mem.head _))) ⟨rfl, trivial⟩))) ?_
          refine Run.q (v := .int .i64 ((((slG n1 x1).length : Nat) : Int))) rfl (OpQ.y (OpY.len Tsl_36 rfl)) ?_
          refine Run.q (v := .int .i64 ((((slG n1 x1).length : Nat) : Int))) rfl (OpQ.y (OpY.pure rfl)) ?_
          refine Run.q (v := .bool true) rfl (OpQ.y (OpY.eqlSame rfl rfl rfl)) ?_
          refine Run.q (v := .bool true) rfl (OpQ.y (OpY.pure rfl)) ?_
          refine Run.q (v := .bool true) rfl (OpQ.y (OpY.pure rfl)) ?_
          refine Run.q (v := .int .i64 ((((slG n1 x1).length : Nat) : Int))) rfl (OpQ.y (OpY.pure rfl)) ?_
          refine Run.q (v := .pointer (some ⟨b2, 1, none⟩)) rfl (OpQ.y (OpY.fieldAddr Tfo_38_1 rfl rfl)) ?_
          refine Run.q (v := .slice A_uc11 ((syW n1 x1).length) c_uc11) rfl (OpQ.y (OpY.load1 Tone_36 rfl (Cells.blk (.tail _ (.tail _ (.tail _ (.tail _ (.tail _ (.tail _ (.tail _ (.tail _ (.tail _ (.tail _ (.tail _ (.tail _ (.tail _ (.tail _ (.tail _ (.tail _ (.tail _ (.tail _ (.tail _ (.tail _ (List.Mem.head _))))))))))))))))))))) ⟨rfl, trivial⟩))) ?_
          refine Run.q (v := .int .i64 ((((syW n1 x1).length : Nat) : Int))) rfl (OpQ.y (OpY.len Tsl_36 rfl)) ?_
          refine Run.q (v := .bool (decide (((((slG n1 x1).length : Nat) : Int)) ≤ ((((syW n1 x1).length : Nat) : Int))))) rfl (OpQ.y (OpY.pure rfl)) ?_
          refine Run.q (v := .bool (decide (((((slG n1 x1).length : Nat) : Int)) ≤ ((((syW n1 x1).length : Nat) : Int))))) rfl (OpQ.y (OpY.pure rfl)) ?_
          refine Run.q (v := .bool (decide (((((slG n1 x1).length : Nat) : Int)) ≤ ((((syW n1 x1).length : Nat) : Int))))) rfl (OpQ.y (OpY.pure rfl)) ?_
          refine Run.done ?_
          refine Run.ret ?_
          refine ⟨.bool (decide (((((slG n1 x1).length : Nat) : Int)) ≤ ((((syW n1 x1).length : Nat) : Int)))), [], Out.one rfl rfl, (Some'.weak (.nil _)), ?_⟩
          show _ = _; rw [hle]

end Go.Proofs.Yteehfidjofcfmaa
