/- Walks: the best route, of the reference. -/
import Derived.Test.YtekikmdjldincaaQ13
import Derived.Test.YtekikmdjldincaaProg
import Derived.Test.YtekikmdjldincaaQ5
import Derived.Test.YtekikmdjldincaaQ2
set_option linter.unusedSimpArgs false
set_option linter.unusedVariables false
namespace Go.Proofs.Ytekikmdjldincaa
open Go Go.RowKit
namespace LsxT
theorem Tagg_35 : aggOf Try.prog 35 = some 2 := by kernel_rfl
theorem Tagg_39 : aggOf Try.prog 39 = some 2 := by kernel_rfl
theorem Tagg_48 : aggOf Try.prog 48 = some 2 := by kernel_rfl
theorem Tcall_34 : callable Try.prog 34 = true := by kernel_rfl
theorem Tcall_36 : callable Try.prog 36 = true := by kernel_rfl
theorem Tcall_43 : callable Try.prog 43 = true := by kernel_rfl
theorem Tcall_62 : callable Try.prog 62 = true := by kernel_rfl
theorem Tcall_64 : callable Try.prog 64 = true := by kernel_rfl
theorem Tfo_35_0 : fieldOff Try.prog 35 0 = some 0 := by kernel_rfl
theorem Tfo_39_0 : fieldOff Try.prog 39 0 = some 0 := by kernel_rfl
theorem Tone_28 : oneOf Try.prog 28 = true := by kernel_rfl
theorem Tone_3 : oneOf Try.prog 3 = true := by kernel_rfl
theorem Tsize_48 : (Try.prog.info? 48).map (·.size) = some 2 := by kernel_rfl
theorem Tsl_28 : sliceOf Try.prog 28 = some (3, 1, 8, [.int .i64 0]) := by kernel_rfl
theorem Tsl_68 : sliceOf Try.prog 68 = some (28, 1, 24, [.slice none 0 0]) := by kernel_rfl
theorem Tzero_48 : zeroOf Try.prog 48 = some [.slice none 0 0, .slice none 0 0] := by kernel_rfl
end LsxT
open LsxT
theorem lvS_len {N j : Nat} : ∀ p ∈ lvS N j, p.length = j := by
  intro p hp
  rw [lvS_eq] at hp
  have h := (plS_ok j [] (by rw [placeOk]; rfl) p hp).1
  simpa using h
theorem pow_5 {N j : Nat} (hN : N ≤ 5) (hj : j ≤ 5) : N ^ j ≤ 3125 := Nat.le_trans (Nat.pow_le_pow_left hN j) (Nat.le_trans (Nat.pow_le_pow_right (by omega) hj) (by decide))
theorem lvS_small {N j : Nat} (hN : N ≤ 5) (hj : j ≤ 5) : (lvS N j).length ≤ 3125 := by
  rw [lvS_eq]; exact Nat.le_trans (plS_le j []) (pow_5 hN hj)
theorem lv_take {N : Nat} {L : List (List Int)} {i : Nat} (h : i < L.length) : (L.take (i + 1)).flatMap (fun p => exK p N) = (L.take i).flatMap (fun p => exK p N) ++ exK (L.getD i []) N := by
  rw [← List.take_append_getElem h, List.flatMap_append, List.flatMap_cons, List.flatMap_nil, List.append_nil]
  simp [List.getD, h]


theorem fold_bnd {M : Nat} {N Q : Int} {es xs : List Int} {m n pn : Nat} : ∀ (l : List (List Int)) (σ : Best), (∀ ps ∈ l, ps.length = pn) → σ.1.length ≤ 5 ∧ σ.2.1.length ≤ 12800040 → (l.foldl (bstep M N es m Q xs n pn) σ).1.length ≤ 5 ∧ (l.foldl (bstep M N es m Q xs n pn) σ).2.1.length ≤ 12800040
  | [], σ, _, h => h
  | ps :: l, σ, hp, h => by
    rw [List.foldl_cons]
    refine fold_bnd l _ (fun q hq => hp q (by simp [hq])) ?_
    unfold bstep
    split
    · exact rt_bnd (hp ps (by simp))
    · exact h
theorem br_bnd {M : Nat} {N Q : Int} {es xs : List Int} {m n : Nat} (hM : 12800000 < M) : (brS M N es m Q xs n).length ≤ 5 ∧ (brL M N es m Q xs n).length ≤ 12800040 := by
  cases hsm : smB N es m Q xs n with
  | false =>
    obtain ⟨_, h2, h3⟩ := br_no (M := M) hsm
    rw [h2, h3]; simp
  | true =>
    have hF := smF_of hsm
    obtain ⟨N', rfl⟩ : ∃ k : Nat, N = k := ⟨N.toNat, by have := hF.hN; omega⟩
    obtain ⟨pn, rfl⟩ : ∃ k : Nat, Q = k := ⟨Q.toNat, by have := hF.hQ; omega⟩
    have h := fold_bnd (M := M) (N := (N' : Int)) (Q := (pn : Int)) (es := es) (m := m) (xs := xs) (n := n) (pn := pn) (plS N' pn []) ([], [], false) (fun ps hp => (pl_all (N := N') (pn := pn) (Q := (pn : Int)) rfl ps hp).2) (by simp)
    rw [br_fold hM hsm] at h
    exact h

set_option maxHeartbeats 2000000 in
set_option maxRecDepth 20000 in
theorem l23Starts_spec {N pn : Nat} {vg : Value} {w : World} (hN : 1 ≤ N ∧ N ≤ 5) (hpn : 0 < pn ∧ pn ≤ 5) : Calls Try.prog 43 #[.agg #[.int .i64 (N : Nat), vg], .int .i64 (pn : Nat)] w (Post No w fun v H => ∃ ps : List (Value × List Int), ps.map (·.2) = lvS N pn ∧ H = [.own v 28 1 ps.length (oc ps), .grp 3 1 (gl ps)]) := by
  refine enter (n := 42) (args := [.agg #[.int .i64 (((N : Nat) : Int)), vg], .int .i64 (((pn : Nat) : Int))]) Try.func43 rfl rfl (St.empty _ _) ?_
  refine Run.seq ?_
  refine Run.region ?_
  refine Run.step rfl (OpStep.box (us := [.int .i64 (((N : Nat) : Int)), vg]) rfl fun b1 => ?_)
  refine Run.q (v := .slice none 0 0) rfl (OpQ.y (OpY.pure rfl)) ?_
  refine Run.done ?_
  refine Run.seq ?_
  refine Run.region ?_
  refine Run.step rfl (OpStep.buildSlice (us := [.slice none 0 0]) Tsl_68 (by decide) (by decide) ⟨rfl, [.slice none 0 0], _, rfl, rfl, rfl, rfl⟩ rfl fun b2 => ?_)
  refine Run.q (v := .slice (some ⟨b2, 0, none⟩) 1 1) rfl (OpQ.y (OpY.pure rfl)) ?_
  refine Run.done ?_
  refine Run.weak (H' := [.grp 3 1 (gl ([((.slice none 0 0 : Value), ([] : List Int))])), .own (.slice (some ⟨b2, 0, none⟩) 1 1) 28 1 (([((.slice none 0 0 : Value), ([] : List Int))]).length) (oc ([((.slice none 0 0 : Value), ([] : List Int))])), .blk b1 35 [.int .i64 (((N : Nat) : Int)), vg]]) (Weak.nilGrp 1) ?_ ⟨_, _, rfl, fun _ => nofun, fun _ => nofun⟩
  refine Run.seq ?_
  refine Run.block ?_
  refine Run.loop (ι := Nat × Value × List (Value × List Int)) [1, 5, 6, 8, 9, 11, 12, 13, 14, 15, 16, 17, 18, 19, 20, 21, 22, 23, 24, 25, 26, 27, 28, 29, 30, 31, 32, 33, 34, 35, 36, 37, 38, 39, 40] (fun ⟨j, vo, ps⟩ => [(1, .int .i64 (((pn : Nat) : Int) - ((j : Nat) : Int))), (5, vo)]) (fun ⟨j, vo, ps⟩ => [.own vo 28 1 (ps.length) (oc ps), .grp 3 1 (gl ps), .blk b1 35 [.int .i64 (((N : Nat) : Int)), vg]]) (fun ⟨j, vo, ps⟩ => j ≤ pn ∧ ps.map (·.2) = lvS N j) (fun ⟨j, vo, ps⟩ => pn - j) (0, .slice (some ⟨b2, 0, none⟩) 1 1, [((.slice none 0 0 : Value), ([] : List Int))]) ?_ ?_ ?_ ?_
  · exact ⟨Nat.zero_le _, rfl⟩
  · exact ⟨(by show Value.int .i64 _ = Value.int .i64 _; simp), rfl, trivial⟩
  · exact ((Weak.selF [1, 0, 0]).trans (Some'.weak (.takeEq (by first | rfl | simp) (.takeEq (by first | rfl | simp) (.take (.nil _))))))
  · rintro ⟨j, vo, ps⟩ fr hinv
    show Run _ _ (over _ _ [(1, .int .i64 (((pn : Nat) : Int) - ((j : Nat) : Int))), (5, vo)] fr) [.own vo 28 1 (ps.length) (oc ps), .grp 3 1 (gl ps), .blk b1 35 [.int .i64 (((N : Nat) : Int)), vg]]
    try dsimp only at hinv
    refine Run.seq ?_
    refine Run.seq ?_
    refine Run.region ?_
    refine Run.q (v := .int .i64 (((pn : Nat) : Int) - ((j : Nat) : Int))) rfl (OpQ.y (OpY.pure rfl)) ?_
    refine Run.q (v := .bool (decide ((((pn : Nat) : Int) - ((j : Nat) : Int)) > 0))) rfl (OpQ.y (OpY.pure rfl)) ?_
    refine Run.done ?_
    refine Run.cond (b := decide ((((pn : Nat) : Int) - ((j : Nat) : Int)) > 0)) rfl (fun h12 => ?_) (fun h12 => ?_)
    · have p12 := h12; try simp only [bs] at p12
      have hj : j < pn := by omega
      obtain ⟨hjp, hps⟩ := hinv
      have hpl : ps.length ≤ 3125 := by
        have h := congrArg List.length hps
        rw [List.length_map] at h
        rw [h]; exact lvS_small hN.2 (by omega)
      have hlen : ∀ i, i < ps.length → (lx ps i).length = j := fun i hi => lvS_len (N := N) _ (by rw [← hps]; exact List.mem_map.2 ⟨_, px_eq hi, rfl⟩)
      refine Run.skip ?_
      refine Run.seq ?_
      refine Run.block ?_
      refine Run.seq ?_
      refine Run.region ?_
      refine Run.q (v := .slice none 0 0) rfl (OpQ.y (OpY.pure rfl)) ?_
      refine Run.done ?_
      refine Run.seq ?_
      refine Run.seq ?_
      refine Run.weak (H' := [.own (.slice none 0 0) 28 1 0 (oc []), .own vo 28 1 (ps.length) (oc ps), .grp 3 1 (gl ps), .blk b1 35 [.int .i64 (((N : Nat) : Int)), vg]]) (Weak.nilOwn _ _) ?_ ⟨_, _, rfl, fun _ => nofun, fun _ => nofun⟩
      refine Run.weak (H' := [.grp 3 1 (gl ([])), .own (.slice none 0 0) 28 1 0 (oc []), .own vo 28 1 (ps.length) (oc ps), .grp 3 1 (gl ps), .blk b1 35 [.int .i64 (((N : Nat) : Int)), vg]]) (Weak.grpNil _ _) ?_ ⟨_, _, rfl, fun _ => nofun, fun _ => nofun⟩
      refine Run.region ?_
      refine Run.q (v := vo) rfl (OpQ.y (OpY.pure rfl)) ?_
      refine Run.formOwn (.tail _ (.tail _ (List.Mem.head _))) (fun A_vo1 c_vo1 hv hcapc_vo1 hmaxc_vo1 => ?_) (fun _ _ _ => ⟨nofun, nofun, nofun⟩)
      subst hv
      refine Run.q (v := .int .i64 (((ps.length : Nat) : Int))) rfl (OpQ.y (OpY.len Tsl_68 rfl)) ?_
      refine Run.q (v := .int .i64 0) rfl (OpQ.y (OpY.pure rfl)) ?_
      refine Run.done ?_
      refine Run.block ?_
      refine Run.loop (ι := Nat × Value × List (Value × List Int)) [6, 8, 9, 17, 18, 19, 20, 21, 22, 23, 24, 25, 26, 27, 28, 29, 30, 31, 32, 33, 34, 35, 36, 37, 38, 39] (fun ⟨i, vq, qs⟩ => [(6, vq), (17, .int .i64 (((i : Nat) : Int)))]) (fun ⟨i, vq, qs⟩ => [.own (.slice A_vo1 (ps.length) c_vo1) 28 1 (ps.length) (oc ps), .grp 3 1 (gl ps), .own vq 28 1 (qs.length) (oc qs), .grp 3 1 (gl qs), .blk b1 35 [.int .i64 (((N : Nat) : Int)), vg]]) (fun ⟨i, vq, qs⟩ => i ≤ ps.length ∧ qs.map (·.2) = ((ps.map (·.2)).take i).flatMap (fun p => exK p N) ∧ qs.length ≤ i * N) (fun ⟨i, vq, qs⟩ => ps.length - i) (0, .slice none 0 0, []) ?_ ?_ ?_ ?_
      · exact ⟨Nat.zero_le _, by simp, Nat.zero_le _⟩
      · exact ⟨rfl, rfl, trivial⟩
      · exact ((Weak.selF [2, 2, 1, 0, 0]).trans (Some'.weak (.take (.take (.takeEq (by first | rfl | simp) (.takeEq (by first | rfl | simp) (.take (.nil _))))))))
      · rintro ⟨i, vq, qs⟩ fr hinv
        show Run _ _ (over _ _ [(6, vq), (17, .int .i64 (((i : Nat) : Int)))] fr) [.own (.slice A_vo1 (ps.length) c_vo1) 28 1 (ps.length) (oc ps), .grp 3 1 (gl ps), .own vq 28 1 (qs.length) (oc qs), .grp 3 1 (gl qs), .blk b1 35 [.int .i64 (((N : Nat) : Int)), vg]]
        try dsimp only at hinv
        refine Run.seq ?_
        refine Run.region ?_
        refine Run.q (v := .bool (decide ((((i : Nat) : Int)) < (((ps.length : Nat) : Int))))) rfl (OpQ.y (OpY.pure rfl)) ?_
        refine Run.done ?_
        refine Run.seq ?_
        refine Run.cond (b := decide ((((i : Nat) : Int)) < (((ps.length : Nat) : Int)))) rfl (fun h18 => ?_) (fun h18 => ?_)
        · have p18 := h18; try simp only [bs] at p18
          have hi : i < ps.length := by omega
          obtain ⟨hip, hqs, hql⟩ := hinv
          have hli := hlen i hi
          have hiN : i * N ≤ 3125 * 5 := Nat.mul_le_mul (by omega) hN.2
          refine Run.openOwn (.head _) (by omega) (fun gz cz hvgz hcapgz _ => ?_) (fun _ _ _ => ⟨nofun, nofun, nofun⟩)
          injection hvgz with hAgz _ hcgz; subst hAgz; subst hcgz
          refine Run.skip ?_
          refine Run.seq ?_
          refine Run.block ?_
          refine Run.seq ?_
          refine Run.region ?_
          refine Run.q (v := .pointer (some ⟨gz, i, none⟩)) rfl (OpQ.y (OpY.index (kk := i) Tsl_68 rfl rfl (by omega) (by omega) (by first | rfl | omega))) ?_
          refine Run.q (v := (vx ps (i))) rfl (OpQ.y (OpY.load1 Tone_28 rfl (Cells.own0 (.head _) (preO (by omega))))) ?_
          refine Run.q (v := (vx ps (i))) rfl (OpQ.y (OpY.pure rfl)) ?_
          refine Run.done ?_
          refine Run.seq ?_
          refine Run.region ?_
          refine Run.q (v := .int .i64 0) rfl (OpQ.y (OpY.pure rfl)) ?_
          refine Run.done ?_
          refine Run.block ?_
          refine Run.loop (ι := Nat × Value × List (Value × List Int)) [6, 9, 21, 22, 23, 24, 25, 26, 27, 28, 29, 30, 31, 32, 33, 34, 35, 36, 37, 38] (fun ⟨k, vr, rs⟩ => [(6, vr), (9, .int .i64 (((k : Nat) : Int)))]) (fun ⟨k, vr, rs⟩ => [.own (.slice (some ⟨gz, 0, none⟩) (ps.length) c_vo1) 28 1 (ps.length) (oc ps), .grp 3 1 (gl ps), .own vr 28 1 (rs.length) (oc rs), .grp 3 1 (gl rs), .blk b1 35 [.int .i64 (((N : Nat) : Int)), vg]]) (fun ⟨k, vr, rs⟩ => k ≤ N ∧ rs.map (·.2) = qs.map (·.2) ++ exK (lx ps i) k ∧ rs.length ≤ i * N + k) (fun ⟨k, vr, rs⟩ => N - k) (0, vq, qs) ?_ ?_ ?_ ?_
          · exact ⟨Nat.zero_le _, by simp [exK], hql⟩
          · exact ⟨rfl, rfl, trivial⟩
          · exact ((Weak.refl _).trans (Some'.weak (.take (.take (.takeEq (by first | rfl | simp) (.takeEq (by first | rfl | simp) (.take (.nil _))))))))
          · rintro ⟨k, vr, rs⟩ fr hinv
            show Run _ _ (over _ _ [(6, vr), (9, .int .i64 (((k : Nat) : Int)))] fr) [.own (.slice (some ⟨gz, 0, none⟩) (ps.length) c_vo1) 28 1 (ps.length) (oc ps), .grp 3 1 (gl ps), .own vr 28 1 (rs.length) (oc rs), .grp 3 1 (gl rs), .blk b1 35 [.int .i64 (((N : Nat) : Int)), vg]]
            try dsimp only at hinv
            refine Run.seq ?_
            refine Run.seq ?_
            refine Run.region ?_
            refine Run.q (v := .int .i64 (((k : Nat) : Int))) rfl (OpQ.y (OpY.pure rfl)) ?_
            refine Run.q (v := .pointer (some ⟨b1, 0, none⟩)) rfl (OpQ.y (OpY.fieldAddr Tfo_35_0 rfl rfl)) ?_
            refine Run.q (v := .int .i64 (((N : Nat) : Int))) rfl (OpQ.y (OpY.load1 Tone_3 rfl (Cells.blk (.tail _ (.tail _ (.tail _ (.tail _ (List.Mem.head _))))) ⟨rfl, trivial⟩))) ?_
            refine Run.q (v := .bool (decide ((((k : Nat) : Int)) < (((N : Nat) : Int))))) rfl (OpQ.y (OpY.pure rfl)) ?_
            refine Run.done ?_
            refine Run.cond (b := decide ((((k : Nat) : Int)) < (((N : Nat) : Int)))) rfl (fun h24 => ?_) (fun h24 => ?_)
            · have p24 := h24; try simp only [bs] at p24
              have hk : k < N := by omega
              obtain ⟨hkN, hrs, hrl⟩ := hinv
              refine Run.skip ?_
              refine Run.seq ?_
              refine Run.block ?_
              refine Run.seq ?_
              refine Run.region ?_
              refine Run.q (v := (vx ps (i))) rfl (OpQ.y (OpY.pure rfl)) ?_
              refine Run.q (v := .int .i64 (((k : Nat) : Int))) rfl (OpQ.y (OpY.pure rfl)) ?_
              refine Run.q (v := .bool (hasI (lx ps i) k (lx ps i).length)) rfl (OpQ.call (vs := [(vx ps (i)), .int .i64 (((k : Nat) : Int))]) (caps := []) Tcall_62 rfl rfl (fun w hs => l1Has_spec (hs.grpSl (.tail _ (List.Mem.head _)) i hi))) ?_
              refine Run.q (v := .bool (!(hasI (lx ps i) k (lx ps i).length))) rfl (OpQ.y (OpY.pure rfl)) ?_
              refine Run.done ?_
              refine Run.cond (b := !(hasI (lx ps i) k (lx ps i).length)) rfl (fun h30 => ?_) (fun h30 => ?_)
              · have p30 := h30; try simp only [bs] at p30
                have hnk : exK (lx ps i) (k + 1) = exK (lx ps i) k ++ [lx ps i ++ [(k : Int)]] := by rw [exK, if_neg (by rw [show hasI (lx ps i) (k : Int) (lx ps i).length = false by simpa using p30]; decide)]
                refine Run.region ?_
                refine Run.q (v := vr) rfl (OpQ.y (OpY.pure rfl)) ?_
                refine Run.q (v := (vx ps (i))) rfl (OpQ.y (OpY.pure rfl)) ?_
                refine Run.step rfl (OpStep.call (vs := [(vx ps (i))]) (caps := []) Tcall_64 rfl rfl (fun w hs => l1Own_spec (by omega) (hs.grpSl (.tail _ (List.Mem.head _)) i hi)) ?_)
                rintro uo _ rfl
                show Run _ _ (putF _ _ _ uo) [.own uo 3 1 ((lx ps i).length) (ints (lx ps i)), .own (.slice (some ⟨gz, 0, none⟩) (ps.length) c_vo1) 28 1 (ps.length) (oc ps), .grp 3 1 (gl ps), .own vr 28 1 (rs.length) (oc rs), .grp 3 1 (gl rs), .blk b1 35 [.int .i64 (((N : Nat) : Int)), vg]]
                refine Run.q (v := .int .i64 (((k : Nat) : Int))) rfl (OpQ.y (OpY.pure rfl)) ?_
                refine Run.step rfl (OpStep.buildSlice (us := [.int .i64 (((k : Nat) : Int))]) Tsl_28 (by decide) (by decide) ⟨rfl, [.int .i64 (((k : Nat) : Int))], _, rfl, rfl, rfl, rfl⟩ rfl fun b3 => ?_)
                refine Run.step rfl (OpStep.append (H1 := [.own (.slice (some ⟨b3, 0, none⟩) 1 1) 3 1 1 ([.int .i64 (((k : Nat) : Int))])]) (H2 := [.own (.slice (some ⟨gz, 0, none⟩) (ps.length) c_vo1) 28 1 (ps.length) (oc ps), .grp 3 1 (gl ps), .own vr 28 1 (rs.length) (oc rs), .grp 3 1 (gl rs), .blk b1 35 [.int .i64 (((N : Nat) : Int)), vg]]) (v := uo) (u := .slice (some ⟨b3, 0, none⟩) 1 1) (n := (lx ps i).length) (m := 1) (xs := ints (lx ps i)) (ys := [.int .i64 (((k : Nat) : Int))]) Tsl_28 (by decide) rfl rfl rfl rfl (fun w hs => hs.slOwn (.head _)) (by simp [Value.oneCell']) (by omega) (by simp only [maxLen]; omega) fun av1 hnav1 => ?_)
                refine Run.weak (H' := [.own (.slice (some ⟨b3, 0, none⟩) 1 1) 3 1 1 ([.int .i64 (((k : Nat) : Int))]), .own av1 3 1 ((lx ps i ++ [(k : Int)]).length) (ints (lx ps i ++ [(k : Int)])), .own (.slice (some ⟨gz, 0, none⟩) (ps.length) c_vo1) 28 1 (ps.length) (oc ps), .grp 3 1 (gl ps), .own vr 28 1 (rs.length) (oc rs), .grp 3 1 (gl rs), .blk b1 35 [.int .i64 (((N : Nat) : Int)), vg]]) (Some'.weak (.take (.takeEq (by simp [ints]) (.take (.take (.take (.take (.take (.nil _))))))))) ?_ ⟨_, _, rfl, fun _ => nofun, fun _ => nofun⟩
                refine Run.formOwn (.tail _ (List.Mem.head _)) (fun A_av11 c_av11 hv hcapc_av11 hmaxc_av11 => ?_) (fun _ _ _ => ⟨nofun, nofun, nofun⟩)
                subst hv
                refine Run.step rfl (OpStep.buildSlice (us := [.slice A_av11 ((lx ps i ++ [(k : Int)]).length) c_av11]) Tsl_68 (by decide) (by decide) ⟨rfl, [.slice A_av11 ((lx ps i ++ [(k : Int)]).length) c_av11], _, rfl, rfl, rfl, rfl⟩ rfl fun b4 => ?_)
                refine Run.weak (H' := [.grp 3 1 (gl (rs ++ [((.slice A_av11 ((lx ps i ++ [(k : Int)]).length) c_av11 : Value), lx ps i ++ [(k : Int)])])), .own (.slice (some ⟨b4, 0, none⟩) 1 1) 28 1 1 ([.slice A_av11 ((lx ps i ++ [(k : Int)]).length) c_av11]), .own (.slice (some ⟨b3, 0, none⟩) 1 1) 3 1 1 ([.int .i64 (((k : Nat) : Int))]), .own (.slice (some ⟨gz, 0, none⟩) (ps.length) c_vo1) 28 1 (ps.length) (oc ps), .grp 3 1 (gl ps), .own vr 28 1 (rs.length) (oc rs), .blk b1 35 [.int .i64 (((N : Nat) : Int)), vg]]) ((Weak.selF [2, 5]).trans Weak.grpSnoc) ?_ ⟨_, _, rfl, fun _ => nofun, fun _ => nofun⟩
                refine Run.step rfl (OpStep.append (H1 := [.grp 3 1 (gl (rs ++ [((.slice A_av11 ((lx ps i ++ [(k : Int)]).length) c_av11 : Value), lx ps i ++ [(k : Int)])])), .own (.slice (some ⟨b4, 0, none⟩) 1 1) 28 1 1 ([.slice A_av11 ((lx ps i ++ [(k : Int)]).length) c_av11]), .own (.slice (some ⟨b3, 0, none⟩) 1 1) 3 1 1 ([.int .i64 (((k : Nat) : Int))]), .own (.slice (some ⟨gz, 0, none⟩) (ps.length) c_vo1) 28 1 (ps.length) (oc ps), .grp 3 1 (gl ps)]) (H2 := [.blk b1 35 [.int .i64 (((N : Nat) : Int)), vg]]) (v := vr) (u := .slice (some ⟨b4, 0, none⟩) 1 1) (n := rs.length) (m := 1) (xs := oc rs) (ys := [.slice A_av11 ((lx ps i ++ [(k : Int)]).length) c_av11]) Tsl_68 (by decide) rfl rfl rfl rfl (fun w hs => hs.slOwn (.tail _ (List.Mem.head _))) (by simp [Value.oneCell']) (by omega) (by simp only [maxLen]; omega) fun av2 hnav2 => ?_)
                refine Run.weak (H' := [.grp 3 1 (gl (rs ++ [((.slice A_av11 ((lx ps i ++ [(k : Int)]).length) c_av11 : Value), lx ps i ++ [(k : Int)])])), .own (.slice (some ⟨b4, 0, none⟩) 1 1) 28 1 1 ([.slice A_av11 ((lx ps i ++ [(k : Int)]).length) c_av11]), .own (.slice (some ⟨b3, 0, none⟩) 1 1) 3 1 1 ([.int .i64 (((k : Nat) : Int))]), .own (.slice (some ⟨gz, 0, none⟩) (ps.length) c_vo1) 28 1 (ps.length) (oc ps), .grp 3 1 (gl ps), .own av2 28 1 ((rs ++ [((.slice A_av11 ((lx ps i ++ [(k : Int)]).length) c_av11 : Value), lx ps i ++ [(k : Int)])]).length) (oc (rs ++ [((.slice A_av11 ((lx ps i ++ [(k : Int)]).length) c_av11 : Value), lx ps i ++ [(k : Int)])])), .blk b1 35 [.int .i64 (((N : Nat) : Int)), vg]]) (Some'.weak (.take (.take (.take (.take (.take (.takeEq (by simp [oc]) (.take (.nil _))))))))) ?_ ⟨_, _, rfl, fun _ => nofun, fun _ => nofun⟩
                refine Run.q (v := av2) rfl (OpQ.y (OpY.pure rfl)) ?_
                refine Run.done ?_
                refine Run.blockEnd ?_
                refine Run.region ?_
                refine Run.q (v := .int .i64 (((k : Nat) : Int))) rfl (OpQ.y (OpY.pure rfl)) ?_
                refine Run.q (v := .int .i64 ((((k : Nat) : Int)) + 1)) rfl (OpQ.y (OpY.add rfl rfl rfl (by omega) (by omega))) ?_
                refine Run.q (v := .int .i64 ((((k : Nat) : Int)) + 1)) rfl (OpQ.y (OpY.pure rfl)) ?_
                refine Run.done ?_
                refine Run.goal ⟨(by repeat (first | exact Same.refl _ _ | refine Same.put rfl ?_ | refine Same.over rfl rfl ?_)), (k + 1, av2, rs ++ [((.slice A_av11 ((lx ps i ++ [(k : Int)]).length) c_av11 : Value), lx ps i ++ [(k : Int)])]), ?_, ?_, ?_, ?_⟩
                · first | exact ⟨hk, by rw [hnk]; exact hrs, by omega⟩ | exact ⟨hk, by rw [List.map_append, hrs, hnk, List.append_assoc]; rfl, by rw [List.length_append]; simp only [List.length_cons, List.length_nil]; omega⟩
                · show N - (k + 1) < N - k; omega
                · exact ⟨(by first | rfl | (congr 1; omega) | simp), (by first | rfl | (congr 1; omega) | simp), trivial⟩
                · exact ((Weak.selF [3, 3, 3, 0, 2]).trans (Some'.weak (.takeEq (by first | rfl | simp) (.takeEq (by first | rfl | simp) (.takeEq (by first | rfl | simp) (.takeEq (by first | rfl | simp) (.take (.nil _))))))))
              · have p30 := h30; try simp only [bs] at p30
                have hnk : exK (lx ps i) (k + 1) = exK (lx ps i) k := by rw [exK, if_pos (by simpa using p30), List.append_nil]
                refine Run.skip ?_
                refine Run.blockEnd ?_
                refine Run.region ?_
                refine Run.q (v := .int .i64 (((k : Nat) : Int))) rfl (OpQ.y (OpY.pure rfl)) ?_
                refine Run.q (v := .int .i64 ((((k : Nat) : Int)) + 1)) rfl (OpQ.y (OpY.add rfl rfl rfl (by omega) (by omega))) ?_
                refine Run.q (v := .int .i64 ((((k : Nat) : Int)) + 1)) rfl (OpQ.y (OpY.pure rfl)) ?_
                refine Run.done ?_
                refine Run.goal ⟨(by repeat (first | exact Same.refl _ _ | refine Same.put rfl ?_ | refine Same.over rfl rfl ?_)), (k + 1, vr, rs), ?_, ?_, ?_, ?_⟩
                · first | exact ⟨hk, by rw [hnk]; exact hrs, by omega⟩ | exact ⟨hk, by rw [List.map_append, hrs, hnk, List.append_assoc]; rfl, by rw [List.length_append]; simp only [List.length_cons, List.length_nil]; omega⟩
                · show N - (k + 1) < N - k; omega
                · exact ⟨(by first | rfl | (congr 1; omega) | simp), (by first | rfl | (congr 1; omega) | simp), trivial⟩
                · exact ((Weak.refl _).trans (Some'.weak (.takeEq (by first | rfl | simp) (.takeEq (by first | rfl | simp) (.takeEq (by first | rfl | simp) (.takeEq (by first | rfl | simp) (.take (.nil _))))))))
            · have p24 := h24; try simp only [bs] at p24
              have hkn : k = N := by omega
              obtain ⟨hkN, hrs, hrl⟩ := hinv
              have hnq : rs.map (·.2) = ((ps.map (·.2)).take (i + 1)).flatMap (fun p => exK p N) := by
                rw [lv_take (by rw [List.length_map]; omega), ← hqs, hrs, hkn]; rfl
              refine Run.exit rfl ?_
              refine Run.blockEnd ?_
              refine Run.region ?_
              refine Run.q (v := .int .i64 ((((i : Nat) : Int)) + 1)) rfl (OpQ.y (OpY.add rfl rfl rfl (by omega) (by omega))) ?_
              refine Run.q (v := .int .i64 ((((i : Nat) : Int)) + 1)) rfl (OpQ.y (OpY.pure rfl)) ?_
              refine Run.done ?_
              refine Run.goal ⟨(by repeat (first | exact Same.refl _ _ | refine Same.put rfl ?_ | refine Same.over rfl rfl ?_)), (i + 1, vr, rs), ?_, ?_, ?_, ?_⟩
              · exact ⟨hi, hnq, by rw [Nat.succ_mul]; omega⟩
              · show ps.length - (i + 1) < ps.length - i; omega
              · exact ⟨(by first | rfl | (congr 1; omega) | simp), (by first | rfl | (congr 1; omega) | simp), trivial⟩
              · exact ((Weak.refl _).trans (Some'.weak (.takeEq (by first | rfl | simp) (.takeEq (by first | rfl | simp) (.takeEq (by first | rfl | simp) (.takeEq (by first | rfl | simp) (.take (.nil _))))))))
        · have p18 := h18; try simp only [bs] at p18
          have hin : i = ps.length := by omega
          obtain ⟨hip, hqs, hql⟩ := hinv
          have hnx : qs.map (·.2) = lvS N (j + 1) := by rw [hqs, lvS, ← hps, List.take_of_length_le (by rw [List.length_map]; omega)]
          refine Run.exit rfl ?_
          refine Run.weak (H' := [.own vq 28 1 (qs.length) (oc qs), .grp 3 1 (gl qs), .blk b1 35 [.int .i64 (((N : Nat) : Int)), vg]]) (Some'.weak (.skip (.skip (.take (.take (.take (.nil _))))))) ?_ ⟨_, _, rfl, fun _ => nofun, fun _ => nofun⟩
          refine Run.region ?_
          refine Run.q (v := vq) rfl (OpQ.y (OpY.pure rfl)) ?_
          refine Run.q (v := vq) rfl (OpQ.y (OpY.pure rfl)) ?_
          refine Run.done ?_
          refine Run.blockEnd ?_
          refine Run.region ?_
          refine Run.q (v := .int .i64 (((pn : Nat) : Int) - ((j : Nat) : Int))) rfl (OpQ.y (OpY.pure rfl)) ?_
          refine Run.q (v := .int .i64 ((((pn : Nat) : Int) - ((j : Nat) : Int)) - 1)) rfl (OpQ.y (OpY.sub rfl rfl rfl (by omega) (by omega))) ?_
          refine Run.q (v := .int .i64 ((((pn : Nat) : Int) - ((j : Nat) : Int)) - 1)) rfl (OpQ.y (OpY.pure rfl)) ?_
          refine Run.done ?_
          refine Run.goal ⟨(by repeat (first | exact Same.refl _ _ | refine Same.put rfl ?_ | refine Same.over rfl rfl ?_)), (j + 1, vq, qs), ?_, ?_, ?_, ?_⟩
          · exact ⟨hj, hnx⟩
          · show pn - (j + 1) < pn - j; omega
          · exact ⟨(by show Value.int .i64 _ = Value.int .i64 _; congr 1; push_cast; omega), (by first | rfl | (congr 1; omega) | simp), trivial⟩
          · exact ((Weak.refl _).trans (Some'.weak (.takeEq (by first | rfl | simp) (.takeEq (by first | rfl | simp) (.take (.nil _))))))
    · have p12 := h12; try simp only [bs] at p12
      have hjn : j = pn := by omega
      obtain ⟨hjp, hps⟩ := hinv
      rw [hjn] at hps
      refine Run.exit rfl ?_
      refine Run.seq ?_
      refine Run.region ?_
      refine Run.q (v := vo) rfl (OpQ.y (OpY.pure rfl)) ?_
      refine Run.q (v := vo) rfl (OpQ.y (OpY.pure rfl)) ?_
      refine Run.done ?_
      refine Run.ret ?_
      refine ⟨vo, [.own vo 28 1 (ps.length) (oc ps), .grp 3 1 (gl ps)], Out.one rfl rfl, (Some'.weak (.take (.take (.nil _)))), ?_⟩
      exact ⟨_, hps, rfl⟩

set_option maxHeartbeats 2000000 in
set_option maxRecDepth 20000 in
theorem sBestRoute_yes {M N pn : Nat} {vg vc : Value} {m n : Nat} {es xs : List Int} {w : World} (hM : 12800000 < M) (hN : In64 N) (hw : ∀ x ∈ es, In64 x) (hsm : smB (N : Int) es m (pn : Int) xs n = true) (hg : Sl w vg 2 m (ints es)) (hc : Sl w vc 3 n (ints xs)) : Calls Try.prog 24 #[.agg #[.int .i64 (N : Nat), vg], .agg #[.int .i64 (pn : Nat), vc]] w (Post No w fun v H => ∃ v1 v2, v = .tuple #[.agg #[v1, v2], .bool (brB M N es m pn xs n)] ∧ H = [.own v1 3 1 (brS M N es m pn xs n).length (ints (brS M N es m pn xs n)), .own v2 101 3 (brL M N es m pn xs n).length (ints (fl3 (brL M N es m pn xs n)))]) := by
  have hF := smF_of hsm
  have hFN := hF.hN
  have hFQ := hF.hQ
  have hy := br_yes (M := M) hsm
  refine enter (n := 20) (args := [.agg #[.int .i64 (((N : Nat) : Int)), vg], .agg #[.int .i64 (((pn : Nat) : Int)), vc]]) Try.func24 rfl rfl (St.empty _ _) ?_
  refine Run.seq ?_
  refine Run.region ?_
  refine Run.step rfl (OpStep.box (us := [.int .i64 (((N : Nat) : Int)), vg]) rfl fun b1 => ?_)
  refine Run.step rfl (OpStep.box (us := [.int .i64 (((pn : Nat) : Int)), vc]) rfl fun b2 => ?_)
  refine Run.step rfl (OpStep.alloc (zs := [.slice none 0 0, .slice none 0 0]) Tzero_48 fun b3 => ?_)
  refine Run.q (v := .bool false) rfl (OpQ.y (OpY.pure rfl)) ?_
  refine Run.done ?_
  refine Run.seq ?_
  refine Run.seq ?_
  refine Run.region ?_
  refine Run.q (v := .agg #[.int .i64 (((N : Nat) : Int)), vg]) rfl (OpQ.y (OpY.loadN (cs := [.int .i64 (((N : Nat) : Int)), vg]) Tagg_35 rfl (Cells.blk (.tail _ (.tail _ (List.Mem.head _))) ⟨rfl, rfl, trivial⟩))) ?_
  refine Run.q (v := .agg #[.int .i64 (((pn : Nat) : Int)), vc]) rfl (OpQ.y (OpY.loadN (cs := [.int .i64 (((pn : Nat) : Int)), vc]) Tagg_39 rfl (Cells.blk (.tail _ (List.Mem.head _)) ⟨rfl, rfl, trivial⟩))) ?_
  refine Run.q (v := .bool true) rfl (OpQ.call (vs := [.agg #[.int .i64 (((N : Nat) : Int)), vg], .agg #[.int .i64 (((pn : Nat) : Int)), vc]]) (caps := []) Tcall_34 rfl rfl (fun w hs => (by have h := l23Small_spec (N := (N : Int)) (Q := (pn : Int)) hN hw (hs.sl hg) (hs.sl hc); rw [hsm] at h; exact h))) ?_
  refine Run.q (v := .bool false) rfl (OpQ.y (OpY.pure rfl)) ?_
  refine Run.done ?_
  refine Run.cond (b := false) rfl (fun h => nomatch h) (fun _ => ?_)
  refine Run.skip ?_
  refine Run.seq ?_
  refine Run.heldB (base := [.blk b2 39 [.int .i64 (((pn : Nat) : Int)), vc], .blk b1 35 [.int .i64 (((N : Nat) : Int)), vg]]) (by kernel_rfl) ?_
  refine DW.take (i := 0) (v := .agg #[.int .i64 (((N : Nat) : Int)), vg]) rfl (by kernel_rfl) (by kernel_rfl) (by kernel_rfl) (fun _ _ _ h => h) (Some'.weak (.skip (.take (.take (.nil _))))) rfl (OpY.loadN (cs := [.int .i64 (((N : Nat) : Int)), vg]) Tagg_35 rfl (Cells.blk (.tail _ (List.Mem.head _)) ⟨rfl, rfl, trivial⟩)) ?_
  refine DW.take (i := 1) (v := .agg #[.int .i64 (((pn : Nat) : Int)), vc]) rfl (by kernel_rfl) (by kernel_rfl) (by kernel_rfl) (fun _ _ _ h => h) (Some'.weak (.skip (.take (.take (.nil _))))) rfl (OpY.loadN (cs := [.int .i64 (((pn : Nat) : Int)), vc]) Tagg_39 rfl (Cells.blk (.head _) ⟨rfl, rfl, trivial⟩)) ?_
  refine DW.take (i := 2) (v := .agg #[.int .i64 (((N : Nat) : Int)), vg]) rfl (by kernel_rfl) (by kernel_rfl) (by kernel_rfl) (fun _ _ _ h => h) (Some'.weak (.skip (.take (.take (.nil _))))) rfl (OpY.loadN (cs := [.int .i64 (((N : Nat) : Int)), vg]) Tagg_35 rfl (Cells.blk (.tail _ (List.Mem.head _)) ⟨rfl, rfl, trivial⟩)) ?_
  refine DW.take (i := 3) (v := .pointer (some ⟨b2, 0, none⟩)) rfl (by kernel_rfl) (by kernel_rfl) (by kernel_rfl) (fun _ _ _ h => h) (Some'.weak (.skip (.take (.take (.nil _))))) rfl (OpY.fieldAddr Tfo_39_0 rfl rfl) ?_
  refine DW.take (i := 4) (v := .int .i64 (((pn : Nat) : Int))) rfl (by kernel_rfl) (by kernel_rfl) (by kernel_rfl) (fun _ _ _ h => h) (Some'.weak (.skip (.take (.take (.nil _))))) rfl (OpY.load1 Tone_3 rfl (Cells.blk (.head _) ⟨rfl, trivial⟩)) ?_
  refine DW.step (i := 5) (by kernel_rfl) rfl rfl (OpStep.call (vs := [.agg #[.int .i64 (((N : Nat) : Int)), vg], .int .i64 (((pn : Nat) : Int))]) (caps := []) Tcall_43 rfl rfl (fun w hs => l23Starts_spec (by omega) (by omega)) ?_)
  rintro us _ ⟨ps, hps, rfl⟩
  have hps2 : ps.map (·.2) = plS N pn [] := by rw [hps, lvS_eq]
  have hplA : ∀ i, i < ps.length → plOk (N : Int) (pn : Int) (lx ps i) pn = true ∧ (lx ps i).length = pn := fun i hi => pl_all rfl _ (by rw [← hps2]; exact List.mem_map.2 ⟨_, px_eq hi, rfl⟩)
  refine ⟨(Some'.weak (.skip (.skip (.skip (.take (.take (.nil _))))))), ?_⟩
  refine DW.step (i := 6) (by kernel_rfl) rfl rfl (OpStep.call (vs := [.agg #[.int .i64 (((N : Nat) : Int)), vg], .agg #[.int .i64 (((pn : Nat) : Int)), vc], us]) (caps := []) Tcall_36 rfl rfl (fun w hs => (by have h := l23Search_spec (M := M) (SV := ps) (pn := pn) hM hsm (by omega) (fun i hi => hplA i hi) (by rw [hps2]; exact plS_nodup pn []) (hs.sl hg) (hs.sl hc) (hs.slOwn (.head _)) (fun i hi => by have h := hs.grpSl (.tail _ (List.Mem.head _)) i hi; rwa [(hplA i hi).2] at h); rw [hps2, ← hy.1, ← hy.2.1, ← hy.2.2] at h; exact h)) ?_)
  rintro _ _ ⟨u1, u2, rfl, rfl⟩
  refine ⟨(Some'.weak (.skip (.skip (.skip (.skip (.skip (.take (.take (.nil _))))))))), ?_⟩
  refine DW.take (i := 7) (v := .agg #[u1, u2]) rfl (by kernel_rfl) (by kernel_rfl) (by kernel_rfl) (fun _ _ _ h => h) (Some'.weak (.skip (.skip (.skip (.skip (.skip (.take (.take (.nil _))))))))) rfl (OpY.pure rfl) ?_
  refine DW.take (i := 8) (v := .bool (brB M N es m pn xs n)) rfl (by kernel_rfl) (by kernel_rfl) (by kernel_rfl) (fun _ _ _ h => h) (Some'.weak (.skip (.skip (.skip (.skip (.skip (.take (.take (.nil _))))))))) rfl (OpY.pure rfl) ?_
  refine DW.formOwn (.head _) (fun A_u11 c_u11 hv hcapc_u11 hmaxc_u11 => ?_)
  subst hv
  refine DW.formOwn (.tail _ (List.Mem.head _)) (fun A_u21 c_u21 hv hcapc_u21 hmaxc_u21 => ?_)
  subst hv
  refine DW.step (i := 9) (by kernel_rfl) rfl rfl (OpStep.storeAll (us := [.slice A_u11 ((brS M N es m pn xs n).length) c_u11, .slice A_u21 ((brL M N es m pn xs n).length) c_u21]) Tsize_48 rfl rfl rfl (.there _ (.there _ (.there _ (.there _ (.here _))))) rfl ?_)
  refine ⟨(Some'.weak (.skip (.skip (.skip (.skip (.skip (.take (.take (.nil _))))))))), ?_⟩
  refine DW.take (i := 10) (v := .bool (brB M N es m pn xs n)) rfl (by kernel_rfl) (by kernel_rfl) (by kernel_rfl) (fun _ _ _ h => h) (Some'.weak (.skip (.skip (.skip (.skip (.skip (.take (.take (.nil _))))))))) rfl (OpY.pure rfl) ?_
  refine DW.done (by kernel_rfl) ?_
  refine Run.ret ?_
  refine ⟨.tuple #[.agg #[.slice A_u11 ((brS M N es m pn xs n).length) c_u11, .slice A_u21 ((brL M N es m pn xs n).length) c_u21], .bool (brB M N es m pn xs n)], [.own (.slice A_u11 ((brS M N es m pn xs n).length) c_u11) 3 1 ((brS M N es m pn xs n).length) (ints (brS M N es m pn xs n)), .own (.slice A_u21 ((brL M N es m pn xs n).length) c_u21) 101 3 ((brL M N es m pn xs n).length) (ints (fl3 (brL M N es m pn xs n)))], Out.cell2 (cs := [.slice A_u11 ((brS M N es m pn xs n).length) c_u11, .slice A_u21 ((brL M N es m pn xs n).length) c_u21]) rfl Tagg_48 rfl (Cells.blk (.tail _ (.tail _ (.tail _ (.tail _ (List.Mem.head _))))) ⟨rfl, rfl, trivial⟩) rfl, (Some'.weak (.take (.take (.nil _)))), ?_⟩
  exact ⟨_, _, rfl, rfl⟩

set_option maxHeartbeats 2000000 in
set_option maxRecDepth 20000 in
theorem sBestRoute_no {M : Nat} {N Q : Int} {vg vc : Value} {m n : Nat} {es xs : List Int} {w : World} (hN : In64 N) (hw : ∀ x ∈ es, In64 x) (hsm : smB N es m Q xs n = false) (hg : Sl w vg 2 m (ints es)) (hc : Sl w vc 3 n (ints xs)) : Calls Try.prog 24 #[.agg #[.int .i64 N, vg], .agg #[.int .i64 Q, vc]] w (Post No w fun v H => ∃ v1 v2, v = .tuple #[.agg #[v1, v2], .bool (brB M N es m Q xs n)] ∧ H = [.own v1 3 1 (brS M N es m Q xs n).length (ints (brS M N es m Q xs n)), .own v2 101 3 (brL M N es m Q xs n).length (ints (fl3 (brL M N es m Q xs n)))]) := by
  have hno := br_no (M := M) hsm
  refine enter (n := 20) (args := [.agg #[.int .i64 N, vg], .agg #[.int .i64 Q, vc]]) Try.func24 rfl rfl (St.empty _ _) ?_
  refine Run.seq ?_
  refine Run.region ?_
  refine Run.step rfl (OpStep.box (us := [.int .i64 N, vg]) rfl fun b1 => ?_)
  refine Run.step rfl (OpStep.box (us := [.int .i64 Q, vc]) rfl fun b2 => ?_)
  refine Run.step rfl (OpStep.alloc (zs := [.slice none 0 0, .slice none 0 0]) Tzero_48 fun b3 => ?_)
  refine Run.q (v := .bool false) rfl (OpQ.y (OpY.pure rfl)) ?_
  refine Run.done ?_
  refine Run.seq ?_
  refine Run.seq ?_
  refine Run.region ?_
  refine Run.q (v := .agg #[.int .i64 N, vg]) rfl (OpQ.y (OpY.loadN (cs := [.int .i64 N, vg]) Tagg_35 rfl (Cells.blk (.tail _ (.tail _ (List.Mem.head _))) ⟨rfl, rfl, trivial⟩))) ?_
  refine Run.q (v := .agg #[.int .i64 Q, vc]) rfl (OpQ.y (OpY.loadN (cs := [.int .i64 Q, vc]) Tagg_39 rfl (Cells.blk (.tail _ (List.Mem.head _)) ⟨rfl, rfl, trivial⟩))) ?_
  refine Run.q (v := .bool false) rfl (OpQ.call (vs := [.agg #[.int .i64 N, vg], .agg #[.int .i64 Q, vc]]) (caps := []) Tcall_34 rfl rfl (fun w hs => (by have h := l23Small_spec (N := (N : Int)) (Q := (Q : Int)) hN hw (hs.sl hg) (hs.sl hc); rw [hsm] at h; exact h))) ?_
  refine Run.q (v := .bool true) rfl (OpQ.y (OpY.pure rfl)) ?_
  refine Run.done ?_
  refine Run.cond (b := true) rfl (fun _ => ?_) (fun h => nomatch h)
  refine Run.seq ?_
  refine Run.region ?_
  refine Run.q (v := .agg #[.slice none 0 0, .slice none 0 0]) rfl (OpQ.y (OpY.build (cs := [.slice none 0 0, .slice none 0 0]) (by kernel_rfl))) ?_
  refine Run.step rfl (OpStep.storeAll (us := [.slice none 0 0, .slice none 0 0]) Tsize_48 rfl rfl rfl (.here _) rfl ?_)
  refine Run.q (v := .bool false) rfl (OpQ.y (OpY.pure rfl)) ?_
  refine Run.done ?_
  refine Run.ret ?_
  refine ⟨.tuple #[.agg #[.slice none 0 0, .slice none 0 0], .bool false], [.own (.slice none 0 0) 3 1 0 ([]), .own (.slice none 0 0) 101 3 0 ([])], Out.cell2 (cs := [.slice none 0 0, .slice none 0 0]) rfl Tagg_48 rfl (Cells.blk (.head _) ⟨rfl, rfl, trivial⟩) rfl, ((Weak.nilOwn 101 3).trans ((Weak.nilOwn 3 1).trans (Some'.weak (.take (.take (.nil _)))))), ?_⟩
  exact ⟨_, _, by rw [hno.1], by rw [hno.2.1, hno.2.2]; rfl⟩

theorem sBestRoute_spec {M : Nat} {N Q : Int} {vg vc : Value} {m n : Nat} {es xs : List Int} {w : World} (hM : 12800000 < M) (hN : In64 N) (hw : ∀ x ∈ es, In64 x) (hg : Sl w vg 2 m (ints es)) (hc : Sl w vc 3 n (ints xs)) : Calls Try.prog 24 #[.agg #[.int .i64 N, vg], .agg #[.int .i64 Q, vc]] w (Post No w fun v H => ∃ v1 v2, v = .tuple #[.agg #[v1, v2], .bool (brB M N es m Q xs n)] ∧ H = [.own v1 3 1 (brS M N es m Q xs n).length (ints (brS M N es m Q xs n)), .own v2 101 3 (brL M N es m Q xs n).length (ints (fl3 (brL M N es m Q xs n)))]) := by
  cases hsm : smB N es m Q xs n with
  | false => exact sBestRoute_no hN hw hsm hg hc
  | true =>
    have hF := smF_of hsm
    obtain ⟨N', rfl⟩ : ∃ k : Nat, N = k := ⟨N.toNat, by have := hF.hN; omega⟩
    obtain ⟨pn, rfl⟩ : ∃ k : Nat, Q = k := ⟨Q.toNat, by have := hF.hQ; omega⟩
    exact sBestRoute_yes hM hN hw hsm hg hc

end Go.Proofs.Ytekikmdjldincaa
/- Walks: the laws' own functions on routes. -/
set_option linter.unusedSimpArgs false
set_option linter.unusedVariables false
namespace Go.Proofs.Ytekikmdjldincaa
open Go Go.RowKit
namespace RoT
theorem Tagg_101 : aggOf Try.prog 101 = some 3 := by kernel_rfl
theorem Tcall_15 : callable Try.prog 15 = true := by kernel_rfl
theorem Tcall_21 : callable Try.prog 21 = true := by kernel_rfl
theorem Tcall_37 : callable Try.prog 37 = true := by kernel_rfl
theorem Tcall_40 : callable Try.prog 40 = true := by kernel_rfl
theorem Tcall_41 : callable Try.prog 41 = true := by kernel_rfl
theorem Tcall_42 : callable Try.prog 42 = true := by kernel_rfl
theorem Tcall_68 : callable Try.prog 68 = true := by kernel_rfl
theorem Tfo_101_0 : fieldOff Try.prog 101 0 = some 0 := by kernel_rfl
theorem Tfo_101_1 : fieldOff Try.prog 101 1 = some 1 := by kernel_rfl
theorem Tfo_101_2 : fieldOff Try.prog 101 2 = some 2 := by kernel_rfl
theorem Tfo_48_0 : fieldOff Try.prog 48 0 = some 0 := by kernel_rfl
theorem Tfo_48_1 : fieldOff Try.prog 48 1 = some 1 := by kernel_rfl
theorem Tone_28 : oneOf Try.prog 28 = true := by kernel_rfl
theorem Tone_3 : oneOf Try.prog 3 = true := by kernel_rfl
theorem Tone_46 : oneOf Try.prog 46 = true := by kernel_rfl
theorem Tsize_3 : (Try.prog.info? 3).map (·.size) = some 1 := by kernel_rfl
theorem Tsl_46 : sliceOf Try.prog 46 = some (101, 3, 24, [.int .i64 0, .int .i64 0, .int .i64 0]) := by kernel_rfl
end RoT
open RoT
set_option maxHeartbeats 1000000 in
set_option maxRecDepth 20000 in
theorem eqRouteStep_spec (x0 x1 x2 y0 y1 y2 : Int) (w : World) : Calls Try.prog 68 #[.agg #[.int .i64 x0, .int .i64 x1, .int .i64 x2], .agg #[.int .i64 y0, .int .i64 y1, .int .i64 y2]] w (Post No w fun v _ => v = .bool (decide ([x0, x1, x2] = [y0, y1, y2]))) := by
  refine enter (n := 20) (args := [.agg #[.int .i64 x0, .int .i64 x1, .int .i64 x2], .agg #[.int .i64 y0, .int .i64 y1, .int .i64 y2]]) Try.func68 rfl rfl (St.empty _ _) ?_
  refine Run.seq ?_
  refine Run.region ?_
  refine Run.step rfl (OpStep.box (us := [.int .i64 x0, .int .i64 x1, .int .i64 x2]) rfl fun b1 => ?_)
  refine Run.step rfl (OpStep.box (us := [.int .i64 y0, .int .i64 y1, .int .i64 y2]) rfl fun b2 => ?_)
  refine Run.q (v := .bool false) rfl (OpQ.y (OpY.pure rfl)) ?_
  refine Run.done ?_
  refine Run.seq ?_
  refine Run.seq ?_
  refine Run.region ?_
  refine Run.q (v := .pointer (some ⟨b1, 0, none⟩)) rfl (OpQ.y (OpY.fieldAddr Tfo_101_0 rfl rfl)) ?_
  refine Run.q (v := .int .i64 x0) rfl (OpQ.y (OpY.load1 Tone_3 rfl (Cells.blk (.tail _ (List.Mem.head _)) ⟨rfl, trivial⟩))) ?_
  refine Run.q (v := .pointer (some ⟨b2, 0, none⟩)) rfl (OpQ.y (OpY.fieldAddr Tfo_101_0 rfl rfl)) ?_
  refine Run.q (v := .int .i64 y0) rfl (OpQ.y (OpY.load1 Tone_3 rfl (Cells.blk (.head _) ⟨rfl, trivial⟩))) ?_
  refine Run.q (v := .bool (x0 != y0)) rfl (OpQ.y (OpY.pure rfl)) ?_
  refine Run.done ?_
  refine Run.cond (b := x0 != y0) rfl (fun h9 => ?_) (fun h9 => ?_)
  · have p9 := h9; try simp only [bs] at p9
    refine Run.seq ?_
    refine Run.region ?_
    refine Run.q (v := .bool false) rfl (OpQ.y (OpY.pure rfl)) ?_
    refine Run.done ?_
    refine Run.ret ?_
    refine ⟨.bool false, [], Out.one rfl rfl, (Some'.weak (.nil _)), ?_⟩
    show _ = _; simp_all
  · have p9 := h9; try simp only [bs] at p9
    refine Run.skip ?_
    refine Run.seq ?_
    refine Run.seq ?_
    refine Run.region ?_
    refine Run.q (v := .pointer (some ⟨b1, 1, none⟩)) rfl (OpQ.y (OpY.fieldAddr Tfo_101_1 rfl rfl)) ?_
    refine Run.q (v := .int .i64 x1) rfl (OpQ.y (OpY.load1 Tone_3 rfl (Cells.blk (.tail _ (List.Mem.head _)) ⟨rfl, trivial⟩))) ?_
    refine Run.q (v := .pointer (some ⟨b2, 1, none⟩)) rfl (OpQ.y (OpY.fieldAddr Tfo_101_1 rfl rfl)) ?_
    refine Run.q (v := .int .i64 y1) rfl (OpQ.y (OpY.load1 Tone_3 rfl (Cells.blk (.head _) ⟨rfl, trivial⟩))) ?_
    refine Run.q (v := .bool (x1 != y1)) rfl (OpQ.y (OpY.pure rfl)) ?_
    refine Run.done ?_
    refine Run.cond (b := x1 != y1) rfl (fun h14 => ?_) (fun h14 => ?_)
    · have p14 := h14; try simp only [bs] at p14
      refine Run.seq ?_
      refine Run.region ?_
      refine Run.q (v := .bool false) rfl (OpQ.y (OpY.pure rfl)) ?_
      refine Run.done ?_
      refine Run.ret ?_
      refine ⟨.bool false, [], Out.one rfl rfl, (Some'.weak (.nil _)), ?_⟩
      show _ = _; simp_all
    · have p14 := h14; try simp only [bs] at p14
      refine Run.skip ?_
      refine Run.seq ?_
      refine Run.seq ?_
      refine Run.region ?_
      refine Run.q (v := .pointer (some ⟨b1, 2, none⟩)) rfl (OpQ.y (OpY.fieldAddr Tfo_101_2 rfl rfl)) ?_
      refine Run.q (v := .int .i64 x2) rfl (OpQ.y (OpY.load1 Tone_3 rfl (Cells.blk (.tail _ (List.Mem.head _)) ⟨rfl, trivial⟩))) ?_
      refine Run.q (v := .pointer (some ⟨b2, 2, none⟩)) rfl (OpQ.y (OpY.fieldAddr Tfo_101_2 rfl rfl)) ?_
      refine Run.q (v := .int .i64 y2) rfl (OpQ.y (OpY.load1 Tone_3 rfl (Cells.blk (.head _) ⟨rfl, trivial⟩))) ?_
      refine Run.q (v := .bool (x2 != y2)) rfl (OpQ.y (OpY.pure rfl)) ?_
      refine Run.done ?_
      refine Run.cond (b := x2 != y2) rfl (fun h19 => ?_) (fun h19 => ?_)
      · have p19 := h19; try simp only [bs] at p19
        refine Run.seq ?_
        refine Run.region ?_
        refine Run.q (v := .bool false) rfl (OpQ.y (OpY.pure rfl)) ?_
        refine Run.done ?_
        refine Run.ret ?_
        refine ⟨.bool false, [], Out.one rfl rfl, (Some'.weak (.nil _)), ?_⟩
        show _ = _; simp_all
      · have p19 := h19; try simp only [bs] at p19
        refine Run.skip ?_
        refine Run.seq ?_
        refine Run.region ?_
        refine Run.q (v := .bool true) rfl (OpQ.y (OpY.pure rfl)) ?_
        refine Run.done ?_
        refine Run.ret ?_
        refine ⟨.bool true, [], Out.one rfl rfl, (Some'.weak (.nil _)), ?_⟩
        show _ = _; simp_all

set_option maxHeartbeats 1000000 in
set_option maxRecDepth 20000 in
theorem eqRouteStepS_spec {va vb : Value} {n m : Nat} {xs ys : List Int} {w : World} (ha : Sl w va 3 n (ints xs)) (hb : Sl w vb 3 m (ints ys)) :
    Calls Try.prog 37 #[va, vb] w (Post No w fun v _ => v = .bool (decide (xs = ys))) := by
  have hxl := ha.len
  have hyl := hb.len
  have hn := ha.le
  obtain ⟨A, c, rfl, _, _⟩ := ha.form0
  obtain ⟨B, d, rfl, _, _⟩ := hb.form0
  refine enter (n := 27) (args := [.slice A n c, .slice B m d]) Try.func37 rfl rfl (St.empty _ _) ?_
  refine Run.seq ?_
  refine Run.region ?_
  refine Run.q (v := .bool false) rfl (OpQ.y (OpY.pure rfl)) ?_
  refine Run.done ?_
  refine Run.seq ?_
  refine Run.seq ?_
  refine Run.region ?_
  refine Run.q (v := .slice A n c) rfl (OpQ.y (OpY.pure rfl)) ?_
  refine Run.q (v := .int .i64 (((n : Nat) : Int))) rfl (OpQ.y (OpY.len Tsl_46 rfl)) ?_
  refine Run.q (v := .slice B m d) rfl (OpQ.y (OpY.pure rfl)) ?_
  refine Run.q (v := .int .i64 (((m : Nat) : Int))) rfl (OpQ.y (OpY.len Tsl_46 rfl)) ?_
  refine Run.q (v := .bool ((((n : Nat) : Int)) != (((m : Nat) : Int)))) rfl (OpQ.y (OpY.pure rfl)) ?_
  refine Run.done ?_
  refine Run.cond (b := (((n : Nat) : Int)) != (((m : Nat) : Int))) rfl (fun h10 => ?_) (fun h10 => ?_)
  · have p10 := h10; try simp only [bs] at p10
    have hne : ¬ xs = ys := by intro e; subst e; simp at h10; omega
    refine Run.seq ?_
    refine Run.region ?_
    refine Run.q (v := .bool false) rfl (OpQ.y (OpY.pure rfl)) ?_
    refine Run.done ?_
    refine Run.ret ?_
    refine ⟨.bool false, [], Out.one rfl rfl, (Some'.weak (.nil _)), ?_⟩
    show _ = _; simp_all
  · have p10 := h10; try simp only [bs] at p10
    have hnm : m = n := by simp at h10; omega
    have hyl2 : ys.length = n * 3 := by rw [hyl, hnm]
    refine Run.skip ?_
    refine Run.seq ?_
    refine Run.seq ?_
    refine Run.region ?_
    refine Run.q (v := .int .i64 0) rfl (OpQ.y (OpY.pure rfl)) ?_
    refine Run.done ?_
    refine Run.block ?_
    refine Run.loop (ι := Nat) [4, 5, 11, 12, 13, 14, 15, 16, 17, 18, 19, 20, 21, 22, 23, 24, 25, 26] (fun k => [(5, .int .i64 (((k : Nat) : Int)))]) (fun k => []) (fun k => k ≤ n ∧ ∀ j, j < k * 3 → ix xs j = ix ys j) (fun k => n - k) 0 ?_ ?_ ?_ ?_
    · exact ⟨Nat.zero_le _, fun j hj => by omega⟩
    · exact ⟨rfl, trivial⟩
    · exact (Some'.weak (.nil _))
    · rintro k fr hinv
      show Run _ _ (over _ _ [(5, .int .i64 (((k : Nat) : Int)))] fr) []
      try dsimp only at hinv
      refine Run.seq ?_
      refine Run.seq ?_
      refine Run.region ?_
      refine Run.q (v := .int .i64 (((k : Nat) : Int))) rfl (OpQ.y (OpY.pure rfl)) ?_
      refine Run.q (v := .slice A n c) rfl (OpQ.y (OpY.pure rfl)) ?_
      refine Run.q (v := .int .i64 (((n : Nat) : Int))) rfl (OpQ.y (OpY.len Tsl_46 rfl)) ?_
      refine Run.q (v := .bool (decide ((((k : Nat) : Int)) < (((n : Nat) : Int))))) rfl (OpQ.y (OpY.pure rfl)) ?_
      refine Run.done ?_
      refine Run.cond (b := decide ((((k : Nat) : Int)) < (((n : Nat) : Int)))) rfl (fun h14 => ?_) (fun h14 => ?_)
      · have p14 := h14; try simp only [bs] at p14
        have hlt : k < n := by simp at h14; omega
        obtain ⟨b, o, rfl⟩ := ha.opn (by omega)
        obtain ⟨b2, o2, rfl⟩ := hb.opn (by omega)
        refine Run.skip ?_
        refine Run.seq ?_
        refine Run.block ?_
        refine Run.seq ?_
        refine Run.draws (by kernel_rfl) (by kernel_rfl) ?_
        refine Lex.q (v := .slice (some ⟨b, o, none⟩) n c) rfl (OpQ.y (OpY.pure rfl)) ?_
        refine Lex.q (v := .int .i64 (((k : Nat) : Int))) rfl (OpQ.y (OpY.pure rfl)) ?_
        refine Lex.q (v := .pointer (some ⟨b, o + k * 3, none⟩)) rfl (OpQ.y (OpY.index (kk := k) Tsl_46 rfl rfl (by omega) (by omega) (by first | rfl | omega))) ?_
        refine Lex.q (v := .agg #[.int .i64 (ix xs (k * 3)), .int .i64 (ix xs (k * 3 + 1)), .int .i64 (ix xs (k * 3 + 2))]) rfl (OpQ.y (OpY.loadN (cs := [.int .i64 (ix xs (k * 3)), .int .i64 (ix xs (k * 3 + 1)), .int .i64 (ix xs (k * 3 + 2))]) Tagg_101 rfl (Cells.arg (k := k * 3) ha rfl (by omega) (pre3 (by omega))))) ?_
        refine Lex.q (v := .slice (some ⟨b2, o2, none⟩) m d) rfl (OpQ.y (OpY.pure rfl)) ?_
        refine Lex.q (v := .int .i64 (((k : Nat) : Int))) rfl (OpQ.y (OpY.pure rfl)) ?_
        refine Lex.q (v := .pointer (some ⟨b2, o2 + k * 3, none⟩)) rfl (OpQ.y (OpY.index (kk := k) Tsl_46 rfl rfl (by omega) (by omega) (by first | rfl | omega))) ?_
        refine Lex.q (v := .agg #[.int .i64 (ix ys (k * 3)), .int .i64 (ix ys (k * 3 + 1)), .int .i64 (ix ys (k * 3 + 2))]) rfl (OpQ.y (OpY.loadN (cs := [.int .i64 (ix ys (k * 3)), .int .i64 (ix ys (k * 3 + 1)), .int .i64 (ix ys (k * 3 + 2))]) Tagg_101 rfl (Cells.arg (k := k * 3) hb rfl (by omega) (pre3 (by omega))))) ?_
        refine Lex.q (v := .bool (decide ([ix xs (k * 3), ix xs (k * 3 + 1), ix xs (k * 3 + 2)] = [ix ys (k * 3), ix ys (k * 3 + 1), ix ys (k * 3 + 2)]))) rfl (OpQ.call (vs := [.agg #[.int .i64 (ix xs (k * 3)), .int .i64 (ix xs (k * 3 + 1)), .int .i64 (ix xs (k * 3 + 2))], .agg #[.int .i64 (ix ys (k * 3)), .int .i64 (ix ys (k * 3 + 1)), .int .i64 (ix ys (k * 3 + 2))]]) (caps := []) Tcall_68 rfl rfl (fun w hs => eqRouteStep_spec _ _ _ _ _ _ w)) ?_
        refine Lex.q (v := .bool (!(decide ([ix xs (k * 3), ix xs (k * 3 + 1), ix xs (k * 3 + 2)] = [ix ys (k * 3), ix ys (k * 3 + 1), ix ys (k * 3 + 2)])))) rfl (OpQ.y (OpY.pure rfl)) ?_
        refine Lex.done ?_
        refine Run.cond (b := !(decide ([ix xs (k * 3), ix xs (k * 3 + 1), ix xs (k * 3 + 2)] = [ix ys (k * 3), ix ys (k * 3 + 1), ix ys (k * 3 + 2)]))) rfl (fun h26 => ?_) (fun h26 => ?_)
        · have p26 := h26; try simp only [bs] at p26
          have hne : ¬ xs = ys := by intro e; subst e; simp at h26
          refine Run.seq ?_
          refine Run.region ?_
          refine Run.q (v := .bool false) rfl (OpQ.y (OpY.pure rfl)) ?_
          refine Run.done ?_
          refine Run.ret ?_
          refine ⟨.bool false, [], Out.one rfl rfl, (Some'.weak (.nil _)), ?_⟩
          show _ = _; simp_all
        · have p26 := h26; try simp only [bs] at p26
          simp at h26
          refine Run.skip ?_
          refine Run.blockEnd ?_
          refine Run.region ?_
          refine Run.q (v := .int .i64 (((k : Nat) : Int))) rfl (OpQ.y (OpY.pure rfl)) ?_
          refine Run.q (v := .int .i64 ((((k : Nat) : Int)) + 1)) rfl (OpQ.y (OpY.add rfl rfl rfl (by omega) (by omega))) ?_
          refine Run.q (v := .int .i64 ((((k : Nat) : Int)) + 1)) rfl (OpQ.y (OpY.pure rfl)) ?_
          refine Run.done ?_
          refine Run.goal ⟨(by repeat (first | exact Same.refl _ _ | refine Same.put rfl ?_ | refine Same.over rfl rfl ?_)), k + 1, ?_, ?_, ?_, ?_⟩
          · refine ⟨by omega, fun j hj => ?_⟩
            by_cases h : j < k * 3
            · exact hinv.2 j h
            · rcases (by omega : j = k * 3 ∨ j = k * 3 + 1 ∨ j = k * 3 + 2) with rfl | rfl | rfl <;> simp [h26]
          · omega
          · exact ⟨(by first | rfl | (congr 1; omega) | simp), trivial⟩
          · exact (Some'.weak (.nil _))
      · have p14 := h14; try simp only [bs] at p14
        have hkn : k = n := by simp at h14; omega
        have heq : xs = ys := list_ext_ix (by omega) fun j hj => hinv.2 j (by omega)
        refine Run.exit rfl ?_
        refine Run.seq ?_
        refine Run.region ?_
        refine Run.q (v := .bool true) rfl (OpQ.y (OpY.pure rfl)) ?_
        refine Run.done ?_
        refine Run.ret ?_
        refine ⟨.bool true, [], Out.one rfl rfl, (Some'.weak (.nil _)), ?_⟩
        show _ = _; simp_all


theorem eqRouteStepS_true {va vb : Value} {n m : Nat} {xs ys : List Int} {w : World} (ha : Sl w va 3 n (ints xs)) (hb : Sl w vb 3 m (ints ys)) (he : xs = ys) :
    Calls Try.prog 37 #[va, vb] w (Post No w fun v _ => v = .bool true) :=
  (eqRouteStepS_spec ha hb).mono fun _ _ ⟨v, H, h1, h2, h3⟩ => ⟨v, H, h1, h2, by simpa [he] using h3⟩

set_option maxHeartbeats 1000000 in
set_option maxRecDepth 20000 in
theorem markRouteStepS_spec {va : Value} {n : Nat} {xs : List Int} {k : Int} {w : World} (ha : (Res.own va 101 3 n (ints xs)).holds w) (h0 : 0 ≤ k) (hk : k + n * 3 < 4611686018427387904) :
    Calls Try.prog 40 #[va, .int .i64 k] w (Post (Of [.own va 101 3 n (ints xs)]) w fun v H => v = .int .i64 (k + n * 3) ∧ H = [.own va 101 3 n (ints (mks k (n * 3)))]) := by
  have hxl : xs.length = n * 3 := by simpa using ha.1
  have hsl := (St.start1 ha).slOwn (.head _)
  have hn := hsl.le
  obtain ⟨A, c0, rfl, _, _⟩ := hsl.form0
  refine enter (n := 34) (args := [.slice A n c0, .int .i64 k]) Try.func40 rfl rfl (St.start1 ha) ?_
  refine Run.seq ?_
  refine Run.region ?_
  refine Run.q (v := .int .i64 0) rfl (OpQ.y (OpY.pure rfl)) ?_
  refine Run.done ?_
  refine Run.seq ?_
  refine Run.seq ?_
  refine Run.region ?_
  refine Run.q (v := .int .i64 0) rfl (OpQ.y (OpY.pure rfl)) ?_
  refine Run.done ?_
  refine Run.block ?_
  refine Run.loop (ι := Nat) [1, 5, 6, 7, 8, 9, 10, 11, 12, 13, 14, 15, 16, 17, 18, 19, 20, 21, 22, 23, 24, 25, 26, 27, 28, 29, 30, 31, 32] (fun i => [(1, .int .i64 (k + ((i * 3 : Nat) : Int))), (5, .int .i64 (((i : Nat) : Int)))]) (fun i => [.own (.slice A n c0) 101 3 n (ints (marked k (i * 3) xs))]) (fun i => i ≤ n) (fun i => n - i) 0 ?_ ?_ ?_ ?_
  · exact Nat.zero_le _
  · exact ⟨(by show Value.int .i64 k = Value.int .i64 _; simp), rfl, trivial⟩
  · exact (Some'.weak (.takeEq (by simp only [Nat.zero_mul, marked_zero]) (.nil _)))
  · rintro i fr hinv
    show Run _ _ (over _ _ [(1, .int .i64 (k + ((i * 3 : Nat) : Int))), (5, .int .i64 (((i : Nat) : Int)))] fr) [.own (.slice A n c0) 101 3 n (ints (marked k (i * 3) xs))]
    try dsimp only at hinv
    refine Run.seq ?_
    refine Run.seq ?_
    refine Run.region ?_
    refine Run.q (v := .int .i64 (((i : Nat) : Int))) rfl (OpQ.y (OpY.pure rfl)) ?_
    refine Run.q (v := .slice A n c0) rfl (OpQ.y (OpY.pure rfl)) ?_
    refine Run.q (v := .int .i64 (((n : Nat) : Int))) rfl (OpQ.y (OpY.len Tsl_46 rfl)) ?_
    refine Run.q (v := .bool (decide ((((i : Nat) : Int)) < (((n : Nat) : Int))))) rfl (OpQ.y (OpY.pure rfl)) ?_
    refine Run.done ?_
    refine Run.cond (b := decide ((((i : Nat) : Int)) < (((n : Nat) : Int)))) rfl (fun h9 => ?_) (fun h9 => ?_)
    · have p9 := h9; try simp only [bs] at p9
      have hlt : i < n := by simp at h9; omega
      refine Run.openOwn (.head _) (by omega) (fun g c hvg hcapg _ => ?_) (fun _ _ _ => ⟨nofun, nofun, nofun⟩)
      injection hvg with hAg _ hcg; subst hAg; subst hcg
      refine Run.skip ?_
      refine Run.seq ?_
      refine Run.block ?_
      refine Run.seq ?_
      refine Run.region ?_
      refine Run.q (v := .slice (some ⟨g, 0, none⟩) n c0) rfl (OpQ.y (OpY.pure rfl)) ?_
      refine Run.q (v := .int .i64 (((i : Nat) : Int))) rfl (OpQ.y (OpY.pure rfl)) ?_
      refine Run.q (v := .int .i64 (k + ((i * 3 : Nat) : Int))) rfl (OpQ.y (OpY.pure rfl)) ?_
      refine Run.q (v := .pointer (some ⟨g, i * 3, none⟩)) rfl (OpQ.y (OpY.index (kk := i) Tsl_46 rfl rfl (by omega) (by omega) (by first | rfl | omega))) ?_
      refine Run.q (v := .pointer (some ⟨g, i * 3, none⟩)) rfl (OpQ.y (OpY.fieldAddr Tfo_101_0 rfl rfl)) ?_
      refine Run.step rfl (OpStep.storeOwnInt (o := i * 3) (a := k + ((i * 3 : Nat) : Int)) Tsize_3 rfl rfl (.here _) (by omega) ?_)
      refine Run.done ?_
      refine Run.seq ?_
      refine Run.region ?_
      refine Run.q (v := .int .i64 (k + ((i * 3 : Nat) : Int))) rfl (OpQ.y (OpY.pure rfl)) ?_
      refine Run.q (v := .int .i64 ((k + ((i * 3 : Nat) : Int)) + 1)) rfl (OpQ.y (OpY.add rfl rfl rfl (by omega) (by omega))) ?_
      refine Run.q (v := .int .i64 ((k + ((i * 3 : Nat) : Int)) + 1)) rfl (OpQ.y (OpY.pure rfl)) ?_
      refine Run.done ?_
      refine Run.seq ?_
      refine Run.region ?_
      refine Run.q (v := .slice (some ⟨g, 0, none⟩) n c0) rfl (OpQ.y (OpY.pure rfl)) ?_
      refine Run.q (v := .int .i64 (((i : Nat) : Int))) rfl (OpQ.y (OpY.pure rfl)) ?_
      refine Run.q (v := .int .i64 ((k + ((i * 3 : Nat) : Int)) + 1)) rfl (OpQ.y (OpY.pure rfl)) ?_
      refine Run.q (v := .pointer (some ⟨g, i * 3, none⟩)) rfl (OpQ.y (OpY.index (kk := i) Tsl_46 rfl rfl (by omega) (by omega) (by first | rfl | omega))) ?_
      refine Run.q (v := .pointer (some ⟨g, i * 3 + 1, none⟩)) rfl (OpQ.y (OpY.fieldAddr Tfo_101_1 rfl rfl)) ?_
      refine Run.step rfl (OpStep.storeOwnInt (o := i * 3 + 1) (a := (k + ((i * 3 : Nat) : Int)) + 1) Tsize_3 rfl rfl (.here _) (by omega) ?_)
      refine Run.done ?_
      refine Run.seq ?_
      refine Run.region ?_
      refine Run.q (v := .int .i64 ((k + ((i * 3 : Nat) : Int)) + 1)) rfl (OpQ.y (OpY.pure rfl)) ?_
      refine Run.q (v := .int .i64 (((k + ((i * 3 : Nat) : Int)) + 1) + 1)) rfl (OpQ.y (OpY.add rfl rfl rfl (by omega) (by omega))) ?_
      refine Run.q (v := .int .i64 (((k + ((i * 3 : Nat) : Int)) + 1) + 1)) rfl (OpQ.y (OpY.pure rfl)) ?_
      refine Run.done ?_
      refine Run.seq ?_
      refine Run.region ?_
      refine Run.q (v := .slice (some ⟨g, 0, none⟩) n c0) rfl (OpQ.y (OpY.pure rfl)) ?_
      refine Run.q (v := .int .i64 (((i : Nat) : Int))) rfl (OpQ.y (OpY.pure rfl)) ?_
      refine Run.q (v := .int .i64 (((k + ((i * 3 : Nat) : Int)) + 1) + 1)) rfl (OpQ.y (OpY.pure rfl)) ?_
      refine Run.q (v := .pointer (some ⟨g, i * 3, none⟩)) rfl (OpQ.y (OpY.index (kk := i) Tsl_46 rfl rfl (by omega) (by omega) (by first | rfl | omega))) ?_
      refine Run.q (v := .pointer (some ⟨g, i * 3 + 2, none⟩)) rfl (OpQ.y (OpY.fieldAddr Tfo_101_2 rfl rfl)) ?_
      refine Run.step rfl (OpStep.storeOwnInt (o := i * 3 + 2) (a := ((k + ((i * 3 : Nat) : Int)) + 1) + 1) Tsize_3 rfl rfl (.here _) (by omega) ?_)
      refine Run.done ?_
      refine Run.region ?_
      refine Run.q (v := .int .i64 (((k + ((i * 3 : Nat) : Int)) + 1) + 1)) rfl (OpQ.y (OpY.pure rfl)) ?_
      refine Run.q (v := .int .i64 ((((k + ((i * 3 : Nat) : Int)) + 1) + 1) + 1)) rfl (OpQ.y (OpY.add rfl rfl rfl (by omega) (by omega))) ?_
      refine Run.q (v := .int .i64 ((((k + ((i * 3 : Nat) : Int)) + 1) + 1) + 1)) rfl (OpQ.y (OpY.pure rfl)) ?_
      refine Run.done ?_
      refine Run.blockEnd ?_
      refine Run.region ?_
      refine Run.q (v := .int .i64 (((i : Nat) : Int))) rfl (OpQ.y (OpY.pure rfl)) ?_
      refine Run.q (v := .int .i64 ((((i : Nat) : Int)) + 1)) rfl (OpQ.y (OpY.add rfl rfl rfl (by omega) (by omega))) ?_
      refine Run.q (v := .int .i64 ((((i : Nat) : Int)) + 1)) rfl (OpQ.y (OpY.pure rfl)) ?_
      refine Run.done ?_
      refine Run.goal ⟨(by repeat (first | exact Same.refl _ _ | refine Same.put rfl ?_ | refine Same.over rfl rfl ?_)), i + 1, ?_, ?_, ?_, ?_⟩
      · omega
      · omega
      · exact ⟨(by show Value.int _ _ = Value.int _ _; congr 1; omega), rfl, trivial⟩
      · exact (Some'.weak (.takeEq (congrArg (fun z => Res.own _ _ _ _ (ints z)) (marked_set3 (by omega) (by omega) (by omega) (by omega))) (.nil _)))
    · have p9 := h9; try simp only [bs] at p9
      have hkn : i = n := by simp at h9; omega
      refine Run.exit rfl ?_
      refine Run.seq ?_
      refine Run.region ?_
      refine Run.q (v := .int .i64 (k + ((i * 3 : Nat) : Int))) rfl (OpQ.y (OpY.pure rfl)) ?_
      refine Run.q (v := .int .i64 (k + ((i * 3 : Nat) : Int))) rfl (OpQ.y (OpY.pure rfl)) ?_
      refine Run.done ?_
      refine Run.ret ?_
      refine ⟨.int .i64 (k + ((i * 3 : Nat) : Int)), [.own (.slice A n c0) 101 3 n (ints (mks k (n * 3)))], Out.one rfl rfl, (Some'.weak (.takeEq (by subst hkn; rw [marked_all hxl]) (.nil _))), ?_⟩
      exact ⟨by subst hkn; simp, rfl⟩

set_option maxHeartbeats 1000000 in
set_option maxRecDepth 20000 in
theorem heldRouteStepS_spec {va : Value} {n : Nat} {xs : List Int} {k : Int} {w : World} (ha : Sl w va 3 n (ints xs)) (h0 : 0 ≤ k) (hk : k + n * 3 < 4611686018427387904) :
    Calls Try.prog 42 #[va, .int .i64 k] w (Post No w fun v _ => v = .int .i64 (if xs = mks k (n * 3) then k + n * 3 else -1)) := by
  have hxl := ha.len
  have hn := ha.le
  obtain ⟨A, c, rfl, _, _⟩ := ha.form0
  refine enter (n := 40) (args := [.slice A n c, .int .i64 k]) Try.func42 rfl rfl (St.empty _ _) ?_
  refine Run.seq ?_
  refine Run.region ?_
  refine Run.q (v := .int .i64 0) rfl (OpQ.y (OpY.pure rfl)) ?_
  refine Run.done ?_
  refine Run.seq ?_
  refine Run.seq ?_
  refine Run.region ?_
  refine Run.q (v := .int .i64 0) rfl (OpQ.y (OpY.pure rfl)) ?_
  refine Run.done ?_
  refine Run.block ?_
  refine Run.loop (ι := Nat) [1, 4, 5, 6, 7, 8, 9, 10, 11, 12, 13, 14, 15, 16, 17, 18, 19, 20, 21, 22, 23, 24, 25, 26, 27, 28, 29, 30, 31, 32, 33, 34, 35, 36, 37, 38] (fun i => [(1, .int .i64 (k + ((i * 3 : Nat) : Int))), (5, .int .i64 (((i : Nat) : Int)))]) (fun i => []) (fun i => i ≤ n ∧ ∀ j, j < i * 3 → ix xs j = k + j) (fun i => n - i) 0 ?_ ?_ ?_ ?_
  · exact ⟨Nat.zero_le _, fun j hj => by omega⟩
  · exact ⟨(by show Value.int .i64 k = Value.int .i64 _; simp), rfl, trivial⟩
  · exact (Some'.weak (.nil _))
  · rintro i fr hinv
    show Run _ _ (over _ _ [(1, .int .i64 (k + ((i * 3 : Nat) : Int))), (5, .int .i64 (((i : Nat) : Int)))] fr) []
    try dsimp only at hinv
    refine Run.seq ?_
    refine Run.seq ?_
    refine Run.region ?_
    refine Run.q (v := .int .i64 (((i : Nat) : Int))) rfl (OpQ.y (OpY.pure rfl)) ?_
    refine Run.q (v := .slice A n c) rfl (OpQ.y (OpY.pure rfl)) ?_
    refine Run.q (v := .int .i64 (((n : Nat) : Int))) rfl (OpQ.y (OpY.len Tsl_46 rfl)) ?_
    refine Run.q (v := .bool (decide ((((i : Nat) : Int)) < (((n : Nat) : Int))))) rfl (OpQ.y (OpY.pure rfl)) ?_
    refine Run.done ?_
    refine Run.cond (b := decide ((((i : Nat) : Int)) < (((n : Nat) : Int)))) rfl (fun h9 => ?_) (fun h9 => ?_)
    · have p9 := h9; try simp only [bs] at p9
      have hlt : i < n := by simp at h9; omega
      obtain ⟨b, o, rfl⟩ := ha.opn (by omega)
      refine Run.skip ?_
      refine Run.seq ?_
      refine Run.block ?_
      refine Run.seq ?_
      refine Run.seq ?_
      refine Run.region ?_
      refine Run.q (v := .slice (some ⟨b, o, none⟩) n c) rfl (OpQ.y (OpY.pure rfl)) ?_
      refine Run.q (v := .int .i64 (((i : Nat) : Int))) rfl (OpQ.y (OpY.pure rfl)) ?_
      refine Run.q (v := .pointer (some ⟨b, o + i * 3, none⟩)) rfl (OpQ.y (OpY.index (kk := i) Tsl_46 rfl rfl (by omega) (by omega) (by first | rfl | omega))) ?_
      refine Run.q (v := .pointer (some ⟨b, o + i * 3, none⟩)) rfl (OpQ.y (OpY.fieldAddr Tfo_101_0 rfl rfl)) ?_
      refine Run.q (v := .int .i64 (ix xs (i * 3))) rfl (OpQ.y (OpY.load1 Tone_3 rfl (Cells.arg (k := i * 3) ha rfl (by omega) (pre1 (by omega))))) ?_
      refine Run.q (v := .int .i64 (k + ((i * 3 : Nat) : Int))) rfl (OpQ.y (OpY.pure rfl)) ?_
      refine Run.q (v := .bool ((ix xs (i * 3)) != (k + ((i * 3 : Nat) : Int)))) rfl (OpQ.y (OpY.pure rfl)) ?_
      refine Run.done ?_
      refine Run.cond (b := (ix xs (i * 3)) != (k + ((i * 3 : Nat) : Int))) rfl (fun h18 => ?_) (fun h18 => ?_)
      · have p18 := h18; try simp only [bs] at p18
        have hne : ¬ xs = mks k (n * 3) := by
          intro e; subst e
          have e1 := ix_mks (k := k) (m := n * 3) (j := i * 3) (by omega)
          rw [e1, bne_iff_ne] at h18; apply h18; omega
        refine Run.seq ?_
        refine Run.region ?_
        refine Run.q (v := .int .i64 (-1)) rfl (OpQ.y (OpY.pure rfl)) ?_
        refine Run.done ?_
        refine Run.ret ?_
        refine ⟨.int .i64 (-1), [], Out.one rfl rfl, (Some'.weak (.nil _)), ?_⟩
        show _ = _; first | (rw [if_pos heq]; congr 1; omega) | rw [if_neg hne]
      · have p18 := h18; try simp only [bs] at p18
        refine Run.skip ?_
        refine Run.seq ?_
        refine Run.region ?_
        refine Run.q (v := .int .i64 (k + ((i * 3 : Nat) : Int))) rfl (OpQ.y (OpY.pure rfl)) ?_
        refine Run.q (v := .int .i64 ((k + ((i * 3 : Nat) : Int)) + 1)) rfl (OpQ.y (OpY.add rfl rfl rfl (by omega) (by omega))) ?_
        refine Run.q (v := .int .i64 ((k + ((i * 3 : Nat) : Int)) + 1)) rfl (OpQ.y (OpY.pure rfl)) ?_
        refine Run.done ?_
        refine Run.seq ?_
        refine Run.seq ?_
        refine Run.region ?_
        refine Run.q (v := .slice (some ⟨b, o, none⟩) n c) rfl (OpQ.y (OpY.pure rfl)) ?_
        refine Run.q (v := .int .i64 (((i : Nat) : Int))) rfl (OpQ.y (OpY.pure rfl)) ?_
        refine Run.q (v := .pointer (some ⟨b, o + i * 3, none⟩)) rfl (OpQ.y (OpY.index (kk := i) Tsl_46 rfl rfl (by omega) (by omega) (by first | rfl | omega))) ?_
        refine Run.q (v := .pointer (some ⟨b, o + i * 3 + 1, none⟩)) rfl (OpQ.y (OpY.fieldAddr Tfo_101_1 rfl rfl)) ?_
        refine Run.q (v := .int .i64 (ix xs (i * 3 + 1))) rfl (OpQ.y (OpY.load1 Tone_3 rfl (Cells.arg (k := i * 3 + 1) ha rfl (by omega) (pre1 (by omega))))) ?_
        refine Run.q (v := .int .i64 ((k + ((i * 3 : Nat) : Int)) + 1)) rfl (OpQ.y (OpY.pure rfl)) ?_
        refine Run.q (v := .bool ((ix xs (i * 3 + 1)) != ((k + ((i * 3 : Nat) : Int)) + 1))) rfl (OpQ.y (OpY.pure rfl)) ?_
        refine Run.done ?_
        refine Run.cond (b := (ix xs (i * 3 + 1)) != ((k + ((i * 3 : Nat) : Int)) + 1)) rfl (fun h27 => ?_) (fun h27 => ?_)
        · have p27 := h27; try simp only [bs] at p27
          have hne : ¬ xs = mks k (n * 3) := by
            intro e; subst e
            have e1 := ix_mks (k := k) (m := n * 3) (j := i * 3 + 1) (by omega)
            rw [e1, bne_iff_ne] at h27; apply h27; omega
          refine Run.seq ?_
          refine Run.region ?_
          refine Run.q (v := .int .i64 (-1)) rfl (OpQ.y (OpY.pure rfl)) ?_
          refine Run.done ?_
          refine Run.ret ?_
          refine ⟨.int .i64 (-1), [], Out.one rfl rfl, (Some'.weak (.nil _)), ?_⟩
          show _ = _; first | (rw [if_pos heq]; congr 1; omega) | rw [if_neg hne]
        · have p27 := h27; try simp only [bs] at p27
          refine Run.skip ?_
          refine Run.seq ?_
          refine Run.region ?_
          refine Run.q (v := .int .i64 ((k + ((i * 3 : Nat) : Int)) + 1)) rfl (OpQ.y (OpY.pure rfl)) ?_
          refine Run.q (v := .int .i64 (((k + ((i * 3 : Nat) : Int)) + 1) + 1)) rfl (OpQ.y (OpY.add rfl rfl rfl (by omega) (by omega))) ?_
          refine Run.q (v := .int .i64 (((k + ((i * 3 : Nat) : Int)) + 1) + 1)) rfl (OpQ.y (OpY.pure rfl)) ?_
          refine Run.done ?_
          refine Run.seq ?_
          refine Run.seq ?_
          refine Run.region ?_
          refine Run.q (v := .slice (some ⟨b, o, none⟩) n c) rfl (OpQ.y (OpY.pure rfl)) ?_
          refine Run.q (v := .int .i64 (((i : Nat) : Int))) rfl (OpQ.y (OpY.pure rfl)) ?_
          refine Run.q (v := .pointer (some ⟨b, o + i * 3, none⟩)) rfl (OpQ.y (OpY.index (kk := i) Tsl_46 rfl rfl (by omega) (by omega) (by first | rfl | omega))) ?_
          refine Run.q (v := .pointer (some ⟨b, o + i * 3 + 2, none⟩)) rfl (OpQ.y (OpY.fieldAddr Tfo_101_2 rfl rfl)) ?_
          refine Run.q (v := .int .i64 (ix xs (i * 3 + 2))) rfl (OpQ.y (OpY.load1 Tone_3 rfl (Cells.arg (k := i * 3 + 2) ha rfl (by omega) (pre1 (by omega))))) ?_
          refine Run.q (v := .int .i64 (((k + ((i * 3 : Nat) : Int)) + 1) + 1)) rfl (OpQ.y (OpY.pure rfl)) ?_
          refine Run.q (v := .bool ((ix xs (i * 3 + 2)) != (((k + ((i * 3 : Nat) : Int)) + 1) + 1))) rfl (OpQ.y (OpY.pure rfl)) ?_
          refine Run.done ?_
          refine Run.cond (b := (ix xs (i * 3 + 2)) != (((k + ((i * 3 : Nat) : Int)) + 1) + 1)) rfl (fun h36 => ?_) (fun h36 => ?_)
          · have p36 := h36; try simp only [bs] at p36
            have hne : ¬ xs = mks k (n * 3) := by
              intro e; subst e
              have e1 := ix_mks (k := k) (m := n * 3) (j := i * 3 + 2) (by omega)
              rw [e1, bne_iff_ne] at h36; apply h36; omega
            refine Run.seq ?_
            refine Run.region ?_
            refine Run.q (v := .int .i64 (-1)) rfl (OpQ.y (OpY.pure rfl)) ?_
            refine Run.done ?_
            refine Run.ret ?_
            refine ⟨.int .i64 (-1), [], Out.one rfl rfl, (Some'.weak (.nil _)), ?_⟩
            show _ = _; first | (rw [if_pos heq]; congr 1; omega) | rw [if_neg hne]
          · have p36 := h36; try simp only [bs] at p36
            refine Run.skip ?_
            refine Run.region ?_
            refine Run.q (v := .int .i64 (((k + ((i * 3 : Nat) : Int)) + 1) + 1)) rfl (OpQ.y (OpY.pure rfl)) ?_
            refine Run.q (v := .int .i64 ((((k + ((i * 3 : Nat) : Int)) + 1) + 1) + 1)) rfl (OpQ.y (OpY.add rfl rfl rfl (by omega) (by omega))) ?_
            refine Run.q (v := .int .i64 ((((k + ((i * 3 : Nat) : Int)) + 1) + 1) + 1)) rfl (OpQ.y (OpY.pure rfl)) ?_
            refine Run.done ?_
            refine Run.blockEnd ?_
            refine Run.region ?_
            refine Run.q (v := .int .i64 (((i : Nat) : Int))) rfl (OpQ.y (OpY.pure rfl)) ?_
            refine Run.q (v := .int .i64 ((((i : Nat) : Int)) + 1)) rfl (OpQ.y (OpY.add rfl rfl rfl (by omega) (by omega))) ?_
            refine Run.q (v := .int .i64 ((((i : Nat) : Int)) + 1)) rfl (OpQ.y (OpY.pure rfl)) ?_
            refine Run.done ?_
            refine Run.goal ⟨(by repeat (first | exact Same.refl _ _ | refine Same.put rfl ?_ | refine Same.over rfl rfl ?_)), i + 1, ?_, ?_, ?_, ?_⟩
            · refine ⟨by omega, fun j hj => ?_⟩
              by_cases h : j < i * 3
              · exact hinv.2 j h
              · simp only [bne_eq_false_iff_eq] at h18 h27 h36
                rcases (by omega : j = i * 3 ∨ j = i * 3 + 1 ∨ j = i * 3 + 2) with rfl | rfl | rfl <;> omega
            · omega
            · exact ⟨(by show Value.int _ _ = Value.int _ _; congr 1; omega), rfl, trivial⟩
            · exact (Some'.weak (.nil _))
    · have p9 := h9; try simp only [bs] at p9
      have hkn : i = n := by simp at h9; omega
      have heq : xs = mks k (n * 3) := eq_mks hxl fun j hj => hinv.2 j (by omega)
      refine Run.exit rfl ?_
      refine Run.seq ?_
      refine Run.region ?_
      refine Run.q (v := .int .i64 (k + ((i * 3 : Nat) : Int))) rfl (OpQ.y (OpY.pure rfl)) ?_
      refine Run.q (v := .int .i64 (k + ((i * 3 : Nat) : Int))) rfl (OpQ.y (OpY.pure rfl)) ?_
      refine Run.done ?_
      refine Run.ret ?_
      refine ⟨.int .i64 (k + ((i * 3 : Nat) : Int)), [], Out.one rfl rfl, (Some'.weak (.nil _)), ?_⟩
      show _ = _; first | (rw [if_pos heq]; congr 1; omega) | rw [if_neg hne]


theorem heldRouteStepS_true {va : Value} {n : Nat} {xs : List Int} {k : Int} {w : World} (ha : Sl w va 3 n (ints xs)) (h0 : 0 ≤ k) (hk : k + n * 3 < 4611686018427387904) (he : xs = mks k (n * 3)) :
    Calls Try.prog 42 #[va, .int .i64 k] w (Post No w fun v _ => v = .int .i64 (k + n * 3)) :=
  (heldRouteStepS_spec ha h0 hk).mono fun _ _ ⟨v, H, h1, h2, h3⟩ => ⟨v, H, h1, h2, by simpa [he] using h3⟩

set_option maxHeartbeats 1000000 in
set_option maxRecDepth 20000 in
theorem eqRoute_true {vStart : Value} {nStart : Nat} {xsStart : List Int} {vSteps : Value} {nSteps : Nat} {xsSteps : List Int} {qvStart : Value} {qvSteps : Value} {w : World} (hStart : Sl w vStart 1 nStart (ints xsStart)) (hSteps : Sl w vSteps 3 nSteps (ints xsSteps)) (qhStart : Sl w qvStart 1 nStart (ints xsStart)) (qhSteps : Sl w qvSteps 3 nSteps (ints xsSteps)) : Calls Try.prog 18 #[.agg #[vStart, vSteps], .agg #[qvStart, qvSteps]] w (Post No w fun v _ => v = .bool true) := by
  refine enter (n := 17) (args := [.agg #[vStart, vSteps], .agg #[qvStart, qvSteps]]) Try.func18 rfl rfl (St.empty _ _) ?_
  refine Run.seq ?_
  refine Run.region ?_
  refine Run.step rfl (OpStep.box (us := [vStart, vSteps]) rfl fun b1 => ?_)
  refine Run.step rfl (OpStep.box (us := [qvStart, qvSteps]) rfl fun b2 => ?_)
  refine Run.q (v := .bool false) rfl (OpQ.y (OpY.pure rfl)) ?_
  refine Run.done ?_
  refine Run.seq ?_
  refine Run.seq ?_
  refine Run.region ?_
  refine Run.q (v := .pointer (some ⟨b1, 0, none⟩)) rfl (OpQ.y (OpY.fieldAddr Tfo_48_0 rfl rfl)) ?_
  refine Run.q (v := vStart) rfl (OpQ.y (OpY.load1 Tone_28 rfl (Cells.blk (.tail _ (List.Mem.head _)) ⟨rfl, trivial⟩))) ?_
  refine Run.q (v := .pointer (some ⟨b2, 0, none⟩)) rfl (OpQ.y (OpY.fieldAddr Tfo_48_0 rfl rfl)) ?_
  refine Run.q (v := qvStart) rfl (OpQ.y (OpY.load1 Tone_28 rfl (Cells.blk (.head _) ⟨rfl, trivial⟩))) ?_
  refine Run.q (v := .bool true) rfl (OpQ.call (vs := [vStart, qvStart]) (caps := []) Tcall_15 rfl rfl (fun w hs => eqIntS_true (hs.sl hStart) (hs.sl qhStart) rfl)) ?_
  refine Run.q (v := .bool false) rfl (OpQ.y (OpY.pure rfl)) ?_
  refine Run.done ?_
  refine Run.cond (b := false) rfl (fun h => nomatch h) (fun _ => ?_)
  refine Run.skip ?_
  refine Run.seq ?_
  refine Run.seq ?_
  refine Run.region ?_
  refine Run.q (v := .pointer (some ⟨b1, 1, none⟩)) rfl (OpQ.y (OpY.fieldAddr Tfo_48_1 rfl rfl)) ?_
  refine Run.q (v := vSteps) rfl (OpQ.y (OpY.load1 Tone_46 rfl (Cells.blk (.tail _ (List.Mem.head _)) ⟨rfl, trivial⟩))) ?_
  refine Run.q (v := .pointer (some ⟨b2, 1, none⟩)) rfl (OpQ.y (OpY.fieldAddr Tfo_48_1 rfl rfl)) ?_
  refine Run.q (v := qvSteps) rfl (OpQ.y (OpY.load1 Tone_46 rfl (Cells.blk (.head _) ⟨rfl, trivial⟩))) ?_
  refine Run.q (v := .bool true) rfl (OpQ.call (vs := [vSteps, qvSteps]) (caps := []) Tcall_37 rfl rfl (fun w hs => eqRouteStepS_true (hs.sl hSteps) (hs.sl qhSteps) rfl)) ?_
  refine Run.q (v := .bool false) rfl (OpQ.y (OpY.pure rfl)) ?_
  refine Run.done ?_
  refine Run.cond (b := false) rfl (fun h => nomatch h) (fun _ => ?_)
  refine Run.skip ?_
  refine Run.seq ?_
  refine Run.region ?_
  refine Run.q (v := .bool true) rfl (OpQ.y (OpY.pure rfl)) ?_
  refine Run.done ?_
  refine Run.ret ?_
  refine ⟨.bool true, [], Out.one rfl rfl, (Some'.weak (.nil _)), ?_⟩
  rfl

set_option maxHeartbeats 1000000 in
set_option maxRecDepth 20000 in
theorem markRoute_spec {vStart : Value} {nStart : Nat} {xsStart : List Int} {vSteps : Value} {nSteps : Nat} {xsSteps : List Int} {k : Int} {w : World} (hst : St (Of [.own vStart 3 1 nStart (ints xsStart), .own vSteps 101 3 nSteps (ints xsSteps)]) w w [.own vStart 3 1 nStart (ints xsStart), .own vSteps 101 3 nSteps (ints xsSteps)]) (h0 : 0 ≤ k) (hk : k + ((nStart : Nat) : Int) * 1 + ((nSteps : Nat) : Int) * 3 < 4611686018427387904) :
    Calls Try.prog 22 #[.agg #[vStart, vSteps], .int .i64 k] w (Post (Of [.own vStart 3 1 nStart (ints xsStart), .own vSteps 101 3 nSteps (ints xsSteps)]) w fun v H => v = .int .i64 (k + ((nStart : Nat) : Int) * 1 + ((nSteps : Nat) : Int) * 3) ∧ H = [.own vSteps 101 3 nSteps (ints (mks (k + ((nStart : Nat) : Int) * 1) (nSteps * 3))), .own vStart 3 1 nStart (ints (mks (k) (nStart * 1)))]) := by
  refine enter (n := 14) (args := [.agg #[vStart, vSteps], .int .i64 k]) Try.func22 rfl rfl (hst) ?_
  refine Run.seq ?_
  refine Run.region ?_
  refine Run.step rfl (OpStep.box (us := [vStart, vSteps]) rfl fun b1 => ?_)
  refine Run.q (v := .int .i64 0) rfl (OpQ.y (OpY.pure rfl)) ?_
  refine Run.done ?_
  refine Run.seq ?_
  refine Run.region ?_
  refine Run.q (v := .pointer (some ⟨b1, 0, none⟩)) rfl (OpQ.y (OpY.fieldAddr Tfo_48_0 rfl rfl)) ?_
  refine Run.q (v := vStart) rfl (OpQ.y (OpY.load1 Tone_28 rfl (Cells.blk (.head _) ⟨rfl, trivial⟩))) ?_
  refine Run.q (v := .int .i64 k) rfl (OpQ.y (OpY.pure rfl)) ?_
  refine Run.step rfl (OpStep.callM (H1 := [.own vStart 3 1 nStart (ints xsStart)]) (H2 := [.blk b1 48 [vStart, vSteps], .own vSteps 101 3 nSteps (ints xsSteps)]) (vs := [vStart, .int .i64 k]) (caps := []) Tcall_21 rfl rfl (Weak.selF [1]) (fun w hs => markIntS_spec (hs.holds _ (.head _)) (by omega) (by omega)) ?_)
  rintro _ _ ⟨rfl, rfl⟩
  show Run _ _ (putF _ _ _ (.int .i64 (k + ((nStart : Nat) : Int) * 1))) [.own vStart 3 1 nStart (ints (mks k (nStart * 1))), .blk b1 48 [vStart, vSteps], .own vSteps 101 3 nSteps (ints xsSteps)]
  refine Run.q (v := .int .i64 (k + ((nStart : Nat) : Int) * 1)) rfl (OpQ.y (OpY.pure rfl)) ?_
  refine Run.done ?_
  refine Run.seq ?_
  refine Run.region ?_
  refine Run.q (v := .pointer (some ⟨b1, 1, none⟩)) rfl (OpQ.y (OpY.fieldAddr Tfo_48_1 rfl rfl)) ?_
  refine Run.q (v := vSteps) rfl (OpQ.y (OpY.load1 Tone_46 rfl (Cells.blk (.tail _ (List.Mem.head _)) ⟨rfl, trivial⟩))) ?_
  refine Run.q (v := .int .i64 (k + ((nStart : Nat) : Int) * 1)) rfl (OpQ.y (OpY.pure rfl)) ?_
  refine Run.step rfl (OpStep.callM (H1 := [.own vSteps 101 3 nSteps (ints xsSteps)]) (H2 := [.own vStart 3 1 nStart (ints (mks k (nStart * 1))), .blk b1 48 [vStart, vSteps]]) (vs := [vSteps, .int .i64 (k + ((nStart : Nat) : Int) * 1)]) (caps := []) Tcall_40 rfl rfl (Weak.selF [2]) (fun w hs => markRouteStepS_spec (hs.holds _ (.head _)) (by omega) (by omega)) ?_)
  rintro _ _ ⟨rfl, rfl⟩
  show Run _ _ (putF _ _ _ (.int .i64 (k + ((nStart : Nat) : Int) * 1 + ((nSteps : Nat) : Int) * 3))) [.own vSteps 101 3 nSteps (ints (mks (k + ((nStart : Nat) : Int) * 1) (nSteps * 3))), .own vStart 3 1 nStart (ints (mks k (nStart * 1))), .blk b1 48 [vStart, vSteps]]
  refine Run.q (v := .int .i64 (k + ((nStart : Nat) : Int) * 1 + ((nSteps : Nat) : Int) * 3)) rfl (OpQ.y (OpY.pure rfl)) ?_
  refine Run.done ?_
  refine Run.seq ?_
  refine Run.region ?_
  refine Run.q (v := .int .i64 (k + ((nStart : Nat) : Int) * 1 + ((nSteps : Nat) : Int) * 3)) rfl (OpQ.y (OpY.pure rfl)) ?_
  refine Run.q (v := .int .i64 (k + ((nStart : Nat) : Int) * 1 + ((nSteps : Nat) : Int) * 3)) rfl (OpQ.y (OpY.pure rfl)) ?_
  refine Run.done ?_
  refine Run.ret ?_
  refine ⟨.int .i64 (k + ((nStart : Nat) : Int) * 1 + ((nSteps : Nat) : Int) * 3), [.own vSteps 101 3 nSteps (ints (mks (k + ((nStart : Nat) : Int) * 1) (nSteps * 3))), .own vStart 3 1 nStart (ints (mks (k) (nStart * 1)))], Out.one rfl rfl, (Some'.weak (.take (.takeEq (by first | rfl | simp) (.nil _)))), ?_⟩
  exact ⟨rfl, rfl⟩

set_option maxHeartbeats 1000000 in
set_option maxRecDepth 20000 in
theorem heldRoute_true {vStart : Value} {nStart : Nat} {xsStart : List Int} {vSteps : Value} {nSteps : Nat} {xsSteps : List Int} {k : Int} {w : World} (hStart : Sl w vStart 1 nStart (ints xsStart)) (hSteps : Sl w vSteps 3 nSteps (ints xsSteps)) (h0 : 0 ≤ k) (hk : k + ((nStart : Nat) : Int) * 1 + ((nSteps : Nat) : Int) * 3 < 4611686018427387904) (heStart : xsStart = mks (k) (nStart * 1)) (heSteps : xsSteps = mks (k + ((nStart : Nat) : Int) * 1) (nSteps * 3)) :
    Calls Try.prog 23 #[.agg #[vStart, vSteps], .int .i64 k] w (Post No w fun v _ => v = .int .i64 (k + ((nStart : Nat) : Int) * 1 + ((nSteps : Nat) : Int) * 3)) := by
  refine enter (n := 18) (args := [.agg #[vStart, vSteps], .int .i64 k]) Try.func23 rfl rfl (St.empty _ _) ?_
  refine Run.seq ?_
  refine Run.region ?_
  refine Run.step rfl (OpStep.box (us := [vStart, vSteps]) rfl fun b1 => ?_)
  refine Run.q (v := .int .i64 0) rfl (OpQ.y (OpY.pure rfl)) ?_
  refine Run.done ?_
  refine Run.seq ?_
  refine Run.region ?_
  refine Run.q (v := .pointer (some ⟨b1, 0, none⟩)) rfl (OpQ.y (OpY.fieldAddr Tfo_48_0 rfl rfl)) ?_
  refine Run.q (v := vStart) rfl (OpQ.y (OpY.load1 Tone_28 rfl (Cells.blk (.head _) ⟨rfl, trivial⟩))) ?_
  refine Run.q (v := .int .i64 k) rfl (OpQ.y (OpY.pure rfl)) ?_
  refine Run.q (v := .int .i64 (k + ((nStart : Nat) : Int) * 1)) rfl (OpQ.call (vs := [vStart, .int .i64 k]) (caps := []) Tcall_41 rfl rfl (fun w hs => heldIntS_true (hs.sl hStart) (by omega) (by omega) heStart)) ?_
  refine Run.q (v := .int .i64 (k + ((nStart : Nat) : Int) * 1)) rfl (OpQ.y (OpY.pure rfl)) ?_
  refine Run.done ?_
  refine Run.seq ?_
  refine Run.seq ?_
  refine Run.region ?_
  refine Run.q (v := .int .i64 (k + ((nStart : Nat) : Int) * 1)) rfl (OpQ.y (OpY.pure rfl)) ?_
  refine Run.q (v := .bool (decide ((k + ((nStart : Nat) : Int) * 1) < 0))) rfl (OpQ.y (OpY.pure rfl)) ?_
  refine Run.done ?_
  refine Run.cond (b := decide ((k + ((nStart : Nat) : Int) * 1) < 0)) rfl (fun h10 => ?_) (fun h10 => ?_)
  · have p10 := h10; try simp only [bs] at p10
    exact absurd h10 (by simp <;> omega) --DONE
  · have p10 := h10; try simp only [bs] at p10
    refine Run.skip ?_
    refine Run.seq ?_
    refine Run.region ?_
    refine Run.q (v := .pointer (some ⟨b1, 1, none⟩)) rfl (OpQ.y (OpY.fieldAddr Tfo_48_1 rfl rfl)) ?_
    refine Run.q (v := vSteps) rfl (OpQ.y (OpY.load1 Tone_46 rfl (Cells.blk (.head _) ⟨rfl, trivial⟩))) ?_
    refine Run.q (v := .int .i64 (k + ((nStart : Nat) : Int) * 1)) rfl (OpQ.y (OpY.pure rfl)) ?_
    refine Run.q (v := .int .i64 (k + ((nStart : Nat) : Int) * 1 + ((nSteps : Nat) : Int) * 3)) rfl (OpQ.call (vs := [vSteps, .int .i64 (k + ((nStart : Nat) : Int) * 1)]) (caps := []) Tcall_42 rfl rfl (fun w hs => heldRouteStepS_true (hs.sl hSteps) (by omega) (by omega) heSteps)) ?_
    refine Run.q (v := .int .i64 (k + ((nStart : Nat) : Int) * 1 + ((nSteps : Nat) : Int) * 3)) rfl (OpQ.y (OpY.pure rfl)) ?_
    refine Run.done ?_
    refine Run.seq ?_
    refine Run.seq ?_
    refine Run.region ?_
    refine Run.q (v := .int .i64 (k + ((nStart : Nat) : Int) * 1 + ((nSteps : Nat) : Int) * 3)) rfl (OpQ.y (OpY.pure rfl)) ?_
    refine Run.q (v := .bool (decide ((k + ((nStart : Nat) : Int) * 1 + ((nSteps : Nat) : Int) * 3) < 0))) rfl (OpQ.y (OpY.pure rfl)) ?_
    refine Run.done ?_
    refine Run.cond (b := decide ((k + ((nStart : Nat) : Int) * 1 + ((nSteps : Nat) : Int) * 3) < 0)) rfl (fun h16 => ?_) (fun h16 => ?_)
    · have p16 := h16; try simp only [bs] at p16
      exact absurd h16 (by simp <;> omega) --DONE
    · have p16 := h16; try simp only [bs] at p16
      refine Run.skip ?_
      refine Run.seq ?_
      refine Run.region ?_
      refine Run.q (v := .int .i64 (k + ((nStart : Nat) : Int) * 1 + ((nSteps : Nat) : Int) * 3)) rfl (OpQ.y (OpY.pure rfl)) ?_
      refine Run.q (v := .int .i64 (k + ((nStart : Nat) : Int) * 1 + ((nSteps : Nat) : Int) * 3)) rfl (OpQ.y (OpY.pure rfl)) ?_
      refine Run.done ?_
      refine Run.ret ?_
      refine ⟨.int .i64 (k + ((nStart : Nat) : Int) * 1 + ((nSteps : Nat) : Int) * 3), [], Out.one rfl rfl, (Some'.weak (.nil _)), ?_⟩
      rfl

end Go.Proofs.Ytekikmdjldincaa
