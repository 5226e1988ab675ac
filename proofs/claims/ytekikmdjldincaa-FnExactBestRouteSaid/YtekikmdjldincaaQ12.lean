/- Walks: the search for a route, of the reference. -/
import Derived.Test.YtekikmdjldincaaQ11
import Derived.Test.YtekikmdjldincaaProg
set_option linter.unusedSimpArgs false
set_option linter.unusedVariables false
namespace Go.Proofs.Ytekikmdjldincaa
open Go Go.RowKit
namespace LssT
theorem Tagg_110 : aggOf Try.prog 110 = some 4 := by kernel_rfl
theorem Tagg_35 : aggOf Try.prog 35 = some 2 := by kernel_rfl
theorem Tagg_39 : aggOf Try.prog 39 = some 2 := by kernel_rfl
theorem Tagg_48 : aggOf Try.prog 48 = some 2 := by kernel_rfl
theorem Tagg_77 : aggOf Try.prog 77 = some 2 := by kernel_rfl
theorem Tcall_62 : callable Try.prog 62 = true := by kernel_rfl
theorem Tcall_63 : callable Try.prog 63 = true := by kernel_rfl
theorem Tcall_64 : callable Try.prog 64 = true := by kernel_rfl
theorem Tcall_65 : callable Try.prog 65 = true := by kernel_rfl
theorem Tcall_66 : callable Try.prog 66 = true := by kernel_rfl
theorem Tcall_67 : callable Try.prog 67 = true := by kernel_rfl
theorem Tfo_110_0 : fieldOff Try.prog 110 0 = some 0 := by kernel_rfl
theorem Tfo_110_1 : fieldOff Try.prog 110 1 = some 1 := by kernel_rfl
theorem Tfo_110_2 : fieldOff Try.prog 110 2 = some 2 := by kernel_rfl
theorem Tfo_110_3 : fieldOff Try.prog 110 3 = some 3 := by kernel_rfl
theorem Tfo_35_1 : fieldOff Try.prog 35 1 = some 1 := by kernel_rfl
theorem Tfo_39_1 : fieldOff Try.prog 39 1 = some 1 := by kernel_rfl
theorem Tfo_48_0 : fieldOff Try.prog 48 0 = some 0 := by kernel_rfl
theorem Tfo_48_1 : fieldOff Try.prog 48 1 = some 1 := by kernel_rfl
theorem Tfo_77_0 : fieldOff Try.prog 77 0 = some 0 := by kernel_rfl
theorem Tfo_77_1 : fieldOff Try.prog 77 1 = some 1 := by kernel_rfl
theorem Tint_114 : Try.prog.underlying 114 = some (.int .u64) := by kernel_rfl
theorem Tone_28 : oneOf Try.prog 28 = true := by kernel_rfl
theorem Tone_3 : oneOf Try.prog 3 = true := by kernel_rfl
theorem Tone_33 : oneOf Try.prog 33 = true := by kernel_rfl
theorem Tone_37 : oneOf Try.prog 37 = true := by kernel_rfl
theorem Tone_46 : oneOf Try.prog 46 = true := by kernel_rfl
theorem Tone_85 : oneOf Try.prog 85 = true := by kernel_rfl
theorem Tsize_110 : (Try.prog.info? 110).map (·.size) = some 4 := by kernel_rfl
theorem Tsize_28 : (Try.prog.info? 28).map (·.size) = some 1 := by kernel_rfl
theorem Tsize_46 : (Try.prog.info? 46).map (·.size) = some 1 := by kernel_rfl
theorem Tsize_48 : (Try.prog.info? 48).map (·.size) = some 2 := by kernel_rfl
theorem Tsize_77 : (Try.prog.info? 77).map (·.size) = some 2 := by kernel_rfl
theorem Tsl_108 : sliceOf Try.prog 108 = some (110, 4, 80, [.slice none 0 0, .slice none 0 0, .int .i64 0, .slice none 0 0]) := by kernel_rfl
theorem Tsl_28 : sliceOf Try.prog 28 = some (3, 1, 8, [.int .i64 0]) := by kernel_rfl
theorem Tsl_33 : sliceOf Try.prog 33 = some (77, 2, 16, [.int .i64 0, .int .i64 0]) := by kernel_rfl
theorem Tsl_37 : sliceOf Try.prog 37 = some (81, 3, 24, [.int .i64 0, .int .i64 0, .int .i64 0]) := by kernel_rfl
theorem Tsl_46 : sliceOf Try.prog 46 = some (101, 3, 24, [.int .i64 0, .int .i64 0, .int .i64 0]) := by kernel_rfl
theorem Tsl_68 : sliceOf Try.prog 68 = some (28, 1, 24, [.slice none 0 0]) := by kernel_rfl
theorem Tsl_85 : sliceOf Try.prog 85 = some (4, 1, 1, [.bool false]) := by kernel_rfl
theorem Tsome_3 : (Try.prog.underlying 3).isSome = true := by kernel_rfl
theorem Tzero_110 : zeroOf Try.prog 110 = some [.slice none 0 0, .slice none 0 0, .int .i64 0, .slice none 0 0] := by kernel_rfl
theorem Tzero_48 : zeroOf Try.prog 48 = some [.slice none 0 0, .slice none 0 0] := by kernel_rfl
theorem Tzero_77 : zeroOf Try.prog 77 = some [.int .i64 0, .int .i64 0] := by kernel_rfl
end LssT
open LssT
theorem Weak.tbOut {H : List Res} {e : TypeId} {size : Nat} {T A B : List (Value × List Int)} {c : Nat} (h : T = A ++ (vx T c, lx T c) :: B) : Weak (.grp e size (gl T) :: H) (.own (vx T c) e size (lx T c).length (ints (lx T c)) :: .grp e size (gl (A ++ B)) :: H) := by
  have h2 := Weak.grpTake (H := H) (e := e) (size := size) (p := (vx T c, lx T c)) (A := A) (B := B)
  rw [← h] at h2; exact h2
theorem Weak.tbIn {H : List Res} {e : TypeId} {size : Nat} {T A B : List (Value × List Int)} {c : Nat} {v : Value} {l : List Int} (h : ∀ p, T.set c p = A ++ p :: B) : Weak (.own v e size l.length (ints l) :: .grp e size (gl (A ++ B)) :: H) (.grp e size (gl (T.set c (v, l))) :: H) := by
  rw [h]; exact Weak.grpPut (p := (v, l))
abbrev mKeys (es : List Int) (m : Nat) (xs : List Int) (n : Nat) (sts : List (List Int)) : List RK := sts.map (rS es m xs n)
def mR (M : Nat) (es : List Int) (m : Nat) (xs : List Int) (n : Nat) (sts : List (List Int)) : Option (List Nat) := mP M (kstep es m xs n) m (mKeys es m xs n sts) fun k => allD k.2 n
def mS (M : Nat) (es : List Int) (m : Nat) (xs : List Int) (n : Nat) (sts : List (List Int)) : List Int := match mR M es m xs n sts with
  | some w => sts.getD (w.headD 0) []
  | none => []
def mL (M : Nat) (es : List Int) (m : Nat) (xs : List Int) (n : Nat) (sts : List (List Int)) : List T3 := match mR M es m xs n sts with
  | some w => fulS es m xs n sts w
  | none => []
theorem mR_no {M : Nat} {es : List Int} {m : Nat} {xs : List Int} {n : Nat} {sts : List (List Int)} (h : mR M es m xs n sts = none) : (mR M es m xs n sts).isSome = false ∧ mS M es m xs n sts = [] ∧ mL M es m xs n sts = [] := by
  refine ⟨by rw [h]; rfl, by rw [mS, h], by rw [mL, h]⟩
theorem mR_yes {M : Nat} {es : List Int} {m : Nat} {xs : List Int} {n : Nat} {sts : List (List Int)} {w : List Nat} (h : mR M es m xs n sts = some w) : (mR M es m xs n sts).isSome = true ∧ mS M es m xs n sts = sts.getD (w.headD 0) [] ∧ mL M es m xs n sts = fulS es m xs n sts w := by
  refine ⟨by rw [h]; rfl, by rw [mS, h], by rw [mL, h]⟩
theorem mKeys_nodup {es : List Int} {m : Nat} {xs : List Int} {n : Nat} {sts : List (List Int)} (h : sts.Nodup) : (mKeys es m xs n sts).Nodup := by
  refine List.pairwise_map.2 (List.Pairwise.imp ?_ h)
  intro a b hab e
  exact hab (congrArg Prod.fst e)
theorem NF_of {es : List Int} {m : Nat} {xs : List Int} {n : Nat} {sts : List (List Int)} {i : Nat} {y : RK × List Nat} (h : y ∈ bfsL (kstep es m xs n) m (st0 (mKeys es m xs n sts) 0) i) : NF es m xs n sts y.1 y.2 := by
  obtain ⟨s, k, u, h1, h2, h3, h4⟩ := bfsL_form i y h
  obtain ⟨hs, hk⟩ := List.getElem?_eq_some_iff.1 h2
  rw [List.length_map] at hs
  refine ⟨s, u, h1, hs, ?_, h4⟩
  rw [h3, ← hk, List.getElem_map]
  simp [List.getD, hs]
theorem ful_len {N Q : Int} {es xs : List Int} {m n pn : Nat} {sts : List (List Int)} (hes : edgesOk N es m = true) (h40 : n ≤ 40) (hk : ∀ k ∈ mKeys es m xs n sts, KOk N Q pn n xs k) {k : RK} {p : List Nat} (hf : NF es m xs n sts k p) : (fulS es m xs n sts p).length ≤ 40 + p.length := by
  obtain ⟨s, u, rfl, hs, rfl, hu⟩ := hf
  have hm : rS es m xs n (sts.getD s []) ∈ mKeys es m xs n sts := by
    refine List.mem_map.2 ⟨sts[s], List.getElem_mem hs, ?_⟩
    simp [List.getD, hs]
  have h1 := stp_len hes u (rS es m xs n (sts.getD s [])) (rL es m xs n (sts.getD s [])) (hk _ hm) hu
  have h2 := advS_len (es := es) (m := m) (xs := xs) (ps := sts.getD s []) (n := n) _ (List.replicate n false) [] rfl (by simp)
  have h3 : (rL es m xs n (sts.getD s [])).length + und (rS es m xs n (sts.getD s [])).2 = und (List.replicate n false) := by
    have e : (rL es m xs n (sts.getD s [])).length + und (rS es m xs n (sts.getD s [])).2 = (advS (goB es m xs (sts.getD s [])) n (List.replicate n false) []).2.length + und (advS (goB es m xs (sts.getD s [])) n (List.replicate n false) []).1 := rfl
    rw [e, h2]; simp
  have h4 : und (List.replicate n false) ≤ n := by
    refine Nat.le_trans List.count_le_length ?_
    simp
  rw [fulS, List.length_cons]; omega

set_option maxHeartbeats 8000000 in
set_option maxRecDepth 20000 in
theorem l23Search_spec {M : Nat} {N Q : Int} {vg vc vt : Value} {m n pn : Nat} {es xs : List Int} {SV : List (Value × List Int)} {w : World} (hM : 12800000 < M) (hsm : smB N es m Q xs n = true) (hpn : 0 < pn ∧ pn ≤ 5) (hpl : ∀ i, i < SV.length → plOk N Q (lx SV i) pn = true ∧ (lx SV i).length = pn) (hnd : (SV.map (·.2)).Nodup) (hg : Sl w vg 2 m (ints es)) (hc : Sl w vc 3 n (ints xs)) (ht : Sl w vt 1 SV.length (oc SV)) (hin : ∀ i, i < SV.length → Sl w (vx SV i) 1 pn (ints (lx SV i))) : Calls Try.prog 36 #[.agg #[.int .i64 N, vg], .agg #[.int .i64 Q, vc], vt] w (Post No w fun v H => ∃ v1 v2, v = .tuple #[.agg #[v1, v2], .bool (mR M es m xs n (SV.map (·.2))).isSome] ∧ H = [.own v1 3 1 (mS M es m xs n (SV.map (·.2))).length (ints (mS M es m xs n (SV.map (·.2)))), .own v2 101 3 (mL M es m xs n (SV.map (·.2))).length (ints (fl3 (mL M es m xs n (SV.map (·.2)))))]) := by
  have hel := hg.len
  have hml := hg.le
  have hcl := hc.len
  have hctl := ht.le
  obtain ⟨Ag, cg, rfl, _, _⟩ := hg.form0
  obtain ⟨Ac, cc, rfl, _, _⟩ := hc.form0
  obtain ⟨At, ct, rfl, _, _⟩ := ht.form0
  obtain ⟨N3, hN3⟩ : ∃ N : Nat, N = 3125 := ⟨_, rfl⟩
  obtain ⟨T0, hT0⟩ : ∃ T : List (Value × List Int), T = List.replicate N3 ((.slice none 0 0 : Value), ([] : List Int)) := ⟨_, rfl⟩
  obtain ⟨sts, hsts⟩ : ∃ l, l = SV.map (·.2) := ⟨_, rfl⟩
  have hstl : sts.length = SV.length := by rw [hsts, List.length_map]
  have hlx : ∀ i, lx SV i = sts.getD i [] := fun i => by rw [hsts]; rfl
  rw [← hsts] at hnd ⊢
  have hsm2 := hsm
  simp only [smB, Bool.and_eq_true, decide_eq_true_eq] at hsm2
  obtain ⟨⟨⟨hfit, hN5⟩, hn40'⟩, h12'⟩ := hsm2
  have hfit2 := hfit
  simp only [fitOk, Bool.and_eq_true, decide_eq_true_eq] at hfit2
  have hn40 : n ≤ 40 := by omega
  have hc12 : cnt2 xs n ≤ 12 := by omega
  have hes := cgOk_edges hfit2.1.1
  have hci := hfit2.1.2
  have hpo : ∀ i, i < SV.length → KOk N Q pn n xs (rS es m xs n (lx SV i)) := fun i hi => by
    obtain ⟨h2, h3, h4⟩ := adv_ok (es := es) (m := m) (xs := xs) (ps := lx SV i) (n := n) (ds := List.replicate n false) [] (by simp) (Dn.start xs n)
    exact ⟨(hpl i hi).2, (hpl i hi).1, h2, h3, h4⟩
  have hks : ∀ k ∈ mKeys es m xs n sts, KOk N Q pn n xs k := by
    intro k hk
    obtain ⟨l, hl, rfl⟩ := List.mem_map.1 hk
    obtain ⟨i, hi, rfl⟩ := List.getElem_of_mem hl
    have h := hpo i (by omega)
    rw [hlx] at h
    simpa [List.getD, hi] using h
  have hkl : (mKeys es m xs n sts).length = SV.length := by rw [List.length_map]; exact hstl
  have hkn : (mKeys es m xs n sts).Nodup := mKeys_nodup hnd
  have hbk := fun i => bfsL_keys (step := kstep es m xs n) (E := m) (l := mKeys es m xs n sts) (p := KOk N Q pn n xs) (fun k e h he => kstep_ok hes he h) hks i
  have hbl := fun i => bfsL_small (step := kstep es m xs n) (E := m) (p := KOk N Q pn n xs) (code := kcode pn n xs) (M := 12800000) hkn (fun k e h he => kstep_ok hes he h) hks (fun k h => kcode_lt hN5 hpn.2 hc12 h) (fun k k' h h' he => kcode_inj hN5 hc12 h h' he) i
  have hSl : SV.length ≤ 12800000 := by
    have h := hbl 0
    simp only [bfsL, st0_length, List.length_map] at h; omega
  obtain ⟨q0, hq0⟩ : ∃ q : Nat, q = 2 ^ n := ⟨_, rfl⟩
  have hq1 : 1 ≤ q0 := by rw [hq0]; exact Nat.two_pow_pos _
  have hq2 : q0 ≤ 1099511627776 := by rw [hq0]; exact pow40_le hn40
  obtain ⟨gq, hgq⟩ : ∃ q : Nat, q = q0 - 1 := ⟨_, rfl⟩
  refine enter (n := 169) (args := [.agg #[.int .i64 N, .slice Ag m cg], .agg #[.int .i64 Q, .slice Ac n cc], .slice At (SV.length) ct]) Try.func36 rfl rfl (St.empty _ _) ?_
  refine Run.seq ?_
  refine Run.region ?_
  refine Run.step rfl (OpStep.box (us := [.int .i64 N, .slice Ag m cg]) rfl fun b1 => ?_)
  refine Run.step rfl (OpStep.box (us := [.int .i64 Q, .slice Ac n cc]) rfl fun b2 => ?_)
  refine Run.step rfl (OpStep.alloc (zs := [.slice none 0 0, .slice none 0 0]) Tzero_48 fun b3 => ?_)
  refine Run.q (v := .bool false) rfl (OpQ.y (OpY.pure rfl)) ?_
  refine Run.done ?_
  refine Run.seq ?_
  refine Run.region ?_
  refine Run.step rfl (@OpStep.makeSlice _ _ _ _ _ _ _ _ _ 68 (.const (.int .i64 3125)) (.const (.int .i64 3125)) _ _ _ N3 _ .i64 .i64 Tsl_68 rfl (by decide) (by exact congrArg (Value.int .i64) (show (3125 : Int) = ((N3 : Nat) : Int) from by omega)) (by exact congrArg (Value.int .i64) (show (3125 : Int) = ((N3 : Nat) : Int) from by omega)) (by omega) (by simp only [maxLen]; omega) fun b4 => ?_)
  refine Run.q (v := .slice (some ⟨b4, 0, none⟩) N3 N3) rfl (OpQ.y (OpY.pure rfl)) ?_
  refine Run.done ?_
  rw [oc_rep, ← hT0]
  refine Run.weak (H' := [.grp 3 1 (gl T0), .own (.slice (some ⟨b4, 0, none⟩) N3 N3) 28 1 N3 (oc T0), .blk b3 48 [.slice none 0 0, .slice none 0 0], .blk b2 39 [.int .i64 Q, .slice Ac n cc], .blk b1 35 [.int .i64 N, .slice Ag m cg]]) (by have h := Weak.nilGrp (e := 3) (size := 1) (H := [.own (.slice (some ⟨b4, 0, none⟩) N3 N3) 28 1 N3 (oc T0), .blk b3 48 [.slice none 0 0, .slice none 0 0], .blk b2 39 [.int .i64 Q, .slice Ac n cc], .blk b1 35 [.int .i64 N, .slice Ag m cg]]) N3; rw [← hT0] at h; exact h) ?_ ⟨_, _, rfl, fun _ => nofun, fun _ => nofun⟩
  refine Run.seq ?_
  refine Run.region ?_
  refine Run.q (v := .slice none 0 0) rfl (OpQ.y (OpY.pure rfl)) ?_
  refine Run.done ?_
  refine Run.seq ?_
  refine Run.seq ?_
  refine Run.region ?_
  refine Run.q (v := .slice At (SV.length) ct) rfl (OpQ.y (OpY.pure rfl)) ?_
  refine Run.q (v := .int .i64 (((SV.length : Nat) : Int))) rfl (OpQ.y (OpY.len Tsl_68 rfl)) ?_
  refine Run.q (v := .int .i64 0) rfl (OpQ.y (OpY.pure rfl)) ?_
  refine Run.done ?_
  refine Run.block ?_
  refine Run.weak (H' := [.own (.slice none 0 0) 110 4 0 (ncells []), .grp 3 1 (gl T0), .own (.slice (some ⟨b4, 0, none⟩) N3 N3) 28 1 N3 (oc T0), .blk b3 48 [.slice none 0 0, .slice none 0 0], .blk b2 39 [.int .i64 Q, .slice Ac n cc], .blk b1 35 [.int .i64 N, .slice Ag m cg]]) (Weak.nilOwn _ _) ?_ ⟨_, _, rfl, fun _ => nofun, fun _ => nofun⟩
  refine Run.weak (H' := [.grp 101 3 (sgN []), .own (.slice none 0 0) 110 4 0 (ncells []), .grp 3 1 (gl T0), .own (.slice (some ⟨b4, 0, none⟩) N3 N3) 28 1 N3 (oc T0), .blk b3 48 [.slice none 0 0, .slice none 0 0], .blk b2 39 [.int .i64 Q, .slice Ac n cc], .blk b1 35 [.int .i64 N, .slice Ag m cg]]) (Weak.grpNil _ _) ?_ ⟨_, _, rfl, fun _ => nofun, fun _ => nofun⟩
  refine Run.weak (H' := [.grp 4 1 (dgN n []), .grp 101 3 (sgN []), .own (.slice none 0 0) 110 4 0 (ncells []), .grp 3 1 (gl T0), .own (.slice (some ⟨b4, 0, none⟩) N3 N3) 28 1 N3 (oc T0), .blk b3 48 [.slice none 0 0, .slice none 0 0], .blk b2 39 [.int .i64 Q, .slice Ac n cc], .blk b1 35 [.int .i64 N, .slice Ag m cg]]) (Weak.grpNil _ _) ?_ ⟨_, _, rfl, fun _ => nofun, fun _ => nofun⟩
  refine Run.weak (H' := [.grp 3 1 (pgN pn []), .grp 4 1 (dgN n []), .grp 101 3 (sgN []), .own (.slice none 0 0) 110 4 0 (ncells []), .grp 3 1 (gl T0), .own (.slice (some ⟨b4, 0, none⟩) N3 N3) 28 1 N3 (oc T0), .blk b3 48 [.slice none 0 0, .slice none 0 0], .blk b2 39 [.int .i64 Q, .slice Ac n cc], .blk b1 35 [.int .i64 N, .slice Ag m cg]]) (Weak.grpNil _ _) ?_ ⟨_, _, rfl, fun _ => nofun, fun _ => nofun⟩
  refine Run.loop (ι := Nat × Value × List (Value × List Int) × List NZ) [9, 11, 12, 25, 26, 27, 28, 29, 30, 31, 32, 33, 34, 35, 36, 37, 38, 39, 40, 41, 42, 43, 44, 45, 46, 47, 48, 49, 50, 51, 52, 53, 54, 55, 56, 57, 58, 59] (fun ⟨i, vl, T, zs⟩ => [(9, vl), (25, .int .i64 (((i : Nat) : Int)))]) (fun ⟨i, vl, T, zs⟩ => [.own vl 110 4 (zs.length) (ncells zs), .grp 3 1 (pgN pn zs), .grp 4 1 (dgN n zs), .grp 101 3 (sgN zs), .own (.slice (some ⟨b4, 0, none⟩) N3 N3) 28 1 N3 (oc T), .grp 3 1 (gl T), .blk b3 48 [.slice none 0 0, .slice none 0 0], .blk b2 39 [.int .i64 Q, .slice Ac n cc], .blk b1 35 [.int .i64 N, .slice Ag m cg]]) (fun ⟨i, vl, T, zs⟩ => i ≤ SV.length ∧ nk zs = st0 ((mKeys es m xs n sts).take i) 0 ∧ LkN es m xs n sts zs ∧ TbOk N3 pn n T (nk zs)) (fun ⟨i, vl, T, zs⟩ => SV.length - i) (0, .slice none 0 0, T0, []) ?_ ?_ ?_ ?_
  · exact ⟨Nat.zero_le _, rfl, fun j z h => by simp at h, by rw [hT0]; exact TbOk.start N3 pn n⟩
  · exact ⟨rfl, rfl, trivial⟩
  · exact ((Weak.selF [3, 0, 0, 0, 1, 0, 0, 0, 0]).trans (Some'.weak (.takeEq (by first | rfl | simp) (.takeEq (by first | rfl | simp) (.takeEq (by first | rfl | simp) (.takeEq (by first | rfl | simp) (.takeEq (by first | rfl | simp) (.takeEq (by first | rfl | simp) (.take (.take (.take (.nil _))))))))))))
  · rintro ⟨i, vl, T, zs⟩ fr hinv
    show Run _ _ (over _ _ [(9, vl), (25, .int .i64 (((i : Nat) : Int)))] fr) [.own vl 110 4 (zs.length) (ncells zs), .grp 3 1 (pgN pn zs), .grp 4 1 (dgN n zs), .grp 101 3 (sgN zs), .own (.slice (some ⟨b4, 0, none⟩) N3 N3) 28 1 N3 (oc T), .grp 3 1 (gl T), .blk b3 48 [.slice none 0 0, .slice none 0 0], .blk b2 39 [.int .i64 Q, .slice Ac n cc], .blk b1 35 [.int .i64 N, .slice Ag m cg]]
    try dsimp only at hinv
    refine Run.seq ?_
    refine Run.region ?_
    refine Run.q (v := .bool (decide ((((i : Nat) : Int)) < (((SV.length : Nat) : Int))))) rfl (OpQ.y (OpY.pure rfl)) ?_
    refine Run.done ?_
    refine Run.seq ?_
    refine Run.cond (b := decide ((((i : Nat) : Int)) < (((SV.length : Nat) : Int)))) rfl (fun h26 => ?_) (fun h26 => ?_)
    · have p26 := h26; try simp only [bs] at p26
      have hi : i < SV.length := by omega
      obtain ⟨_, hzq, hlk, htb⟩ := hinv
      have hTl := htb.len
      have hzl : zs.length = i := by
        have h := congrArg List.length hzq
        simp only [nk, List.length_map, st0_length, List.length_take] at h; omega
      obtain ⟨D1, hD1⟩ : ∃ d, (advS (goB es m xs (lx SV i)) n (List.replicate n false) []).1 = d := ⟨_, rfl⟩
      obtain ⟨L1, hL1⟩ : ∃ d, (advS (goB es m xs (lx SV i)) n (List.replicate n false) []).2 = d := ⟨_, rfl⟩
      have hS1 : rS es m xs n (lx SV i) = (lx SV i, D1) := by rw [rS, hD1]
      have hk1 : KOk N Q pn n xs (lx SV i, D1) := by rw [← hS1]; exact hpo i hi
      have hin1 : HIN n pn xs (lx SV i) := hin_of hci (hpl i hi).1
      obtain ⟨c1, hc1l, hc1⟩ := cd_at hN5 hpn.2 hk1
      have hfew := htb.few c1 (by omega)
      have hnkl : (nk zs).length = zs.length := List.length_map _
      have hmk1 := mkD_lt D1 n
      have hL1l : L1.length ≤ 40 := by
        have h := advS_len (es := es) (m := m) (xs := xs) (ps := lx SV i) (n := n) _ (List.replicate n false) [] rfl (by simp)
        rw [hL1] at h
        have h2 : und (List.replicate n false) ≤ n := by
          refine Nat.le_trans List.count_le_length ?_
          simp
        simp only [List.length_nil] at h; omega
      obtain ⟨bt, ot, rfl⟩ := ht.opn (by omega)
      refine Run.skip ?_
      refine Run.seq ?_
      refine Run.block ?_
      refine Run.seq ?_
      refine Run.region ?_
      refine Run.q (v := .pointer (some ⟨bt, ot + i, none⟩)) rfl (OpQ.y (OpY.index (kk := i) Tsl_68 rfl rfl (by omega) (by omega) (by first | rfl | omega))) ?_
      refine Run.q (v := (vx SV (i))) rfl (OpQ.y (OpY.load1 Tone_28 rfl (Cells.arg (k := i) ht rfl (by omega) (preO (by omega))))) ?_
      refine Run.q (v := (vx SV (i))) rfl (OpQ.y (OpY.pure rfl)) ?_
      refine Run.done ?_
      refine Run.seq ?_
      refine Run.cut (ι := Nat × Value × Value × Value) [12, 29, 30, 31, 32, 33, 34, 35, 36, 37, 38] (fun ⟨b12, w1, w2, w3⟩ => [(12, .pointer (some ⟨b12, 0, none⟩))]) (fun ⟨b12, w1, w2, w3⟩ => [.blk b12 110 [w1, w2, .int .i64 (-1), w3], .own w1 3 1 pn (ints (lx SV i)), .own w2 4 1 n (bls D1), .own w3 101 3 (L1.length) (ints (fl3 L1)), .own vl 110 4 (zs.length) (ncells zs), .grp 3 1 (pgN pn zs), .grp 4 1 (dgN n zs), .grp 101 3 (sgN zs), .own (.slice (some ⟨b4, 0, none⟩) N3 N3) 28 1 N3 (oc T), .grp 3 1 (gl T), .blk b3 48 [.slice none 0 0, .slice none 0 0], .blk b2 39 [.int .i64 Q, .slice Ac n cc], .blk b1 35 [.int .i64 N, .slice Ag m cg]]) (fun ⟨b12, w1, w2, w3⟩ => True) ?_ ?_
      · refine Run.weak (H' := [.own (.slice none 0 0) 101 3 0 (ints (fl3 [])), .own vl 110 4 (zs.length) (ncells zs), .grp 3 1 (pgN pn zs), .grp 4 1 (dgN n zs), .grp 101 3 (sgN zs), .own (.slice (some ⟨b4, 0, none⟩) N3 N3) 28 1 N3 (oc T), .grp 3 1 (gl T), .blk b3 48 [.slice none 0 0, .slice none 0 0], .blk b2 39 [.int .i64 Q, .slice Ac n cc], .blk b1 35 [.int .i64 N, .slice Ag m cg]]) (Weak.nilOwn _ _) ?_ ⟨_, _, rfl, fun _ => nofun, fun _ => nofun⟩
        refine Run.heldB (base := [.blk b3 48 [.slice none 0 0, .slice none 0 0], .blk b2 39 [.int .i64 Q, .slice Ac n cc], .blk b1 35 [.int .i64 N, .slice Ag m cg]]) (by kernel_rfl) ?_
        refine DW.take (i := 0) (v := .agg #[.int .i64 N, .slice Ag m cg]) rfl (by kernel_rfl) (by kernel_rfl) (by kernel_rfl) (fun _ _ _ h => h) (Some'.weak (.skip (.skip (.skip (.skip (.skip (.skip (.skip (.take (.take (.take (.nil _)))))))))))) rfl (OpY.loadN (cs := [.int .i64 N, .slice Ag m cg]) Tagg_35 rfl (Cells.blk (.tail _ (.tail _ (List.Mem.head _))) ⟨rfl, rfl, trivial⟩)) ?_
        refine DW.take (i := 1) (v := .agg #[.int .i64 Q, .slice Ac n cc]) rfl (by kernel_rfl) (by kernel_rfl) (by kernel_rfl) (fun _ _ _ h => h) (Some'.weak (.skip (.skip (.skip (.skip (.skip (.skip (.skip (.take (.take (.take (.nil _)))))))))))) rfl (OpY.loadN (cs := [.int .i64 Q, .slice Ac n cc]) Tagg_39 rfl (Cells.blk (.tail _ (List.Mem.head _)) ⟨rfl, rfl, trivial⟩)) ?_
        refine DW.take (i := 2) (v := (vx SV (i))) rfl (by kernel_rfl) (by kernel_rfl) (by kernel_rfl) (fun _ _ _ h => h) (Some'.weak (.skip (.skip (.skip (.skip (.skip (.skip (.skip (.take (.take (.take (.nil _)))))))))))) rfl (OpY.pure rfl) ?_
        refine DW.take (i := 4) (v := .pointer (some ⟨b2, 1, none⟩)) rfl (by kernel_rfl) (by kernel_rfl) (by kernel_rfl) (fun _ _ _ h => h) (Some'.weak (.skip (.skip (.skip (.skip (.skip (.skip (.skip (.take (.take (.take (.nil _)))))))))))) rfl (OpY.fieldAddr Tfo_39_1 rfl rfl) ?_
        refine DW.take (i := 5) (v := .slice Ac n cc) rfl (by kernel_rfl) (by kernel_rfl) (by kernel_rfl) (fun _ _ _ h => h) (Some'.weak (.skip (.skip (.skip (.skip (.skip (.skip (.skip (.take (.take (.take (.nil _)))))))))))) rfl (OpY.load1 Tone_37 rfl (Cells.blk (.tail _ (List.Mem.head _)) ⟨rfl, trivial⟩)) ?_
        refine DW.take (i := 6) (v := .int .i64 (((n : Nat) : Int))) rfl (by kernel_rfl) (by kernel_rfl) (by kernel_rfl) (fun _ _ _ h => h) (Some'.weak (.skip (.skip (.skip (.skip (.skip (.skip (.skip (.take (.take (.take (.nil _)))))))))))) rfl (OpY.len Tsl_37 rfl) ?_
        refine DW.three (i := 3) (j := 7) (l := 10) (by kernel_rfl) rfl rfl rfl rfl rfl rfl ?_ ?_ ?_
        · refine OpStep.call (vs := [(vx SV (i))]) (caps := []) Tcall_64 rfl rfl (fun w hs => l1Own_spec (by omega) (hs.sl (hin i hi))) ?_
          rintro uo _ rfl
          refine ⟨(Some'.weak (.skip (.skip (.skip (.skip (.skip (.skip (.skip (.skip (.take (.take (.take (.nil _))))))))))))), ?_⟩
          refine DW.two (i := 7) (j := 10) (by kernel_rfl) rfl rfl rfl rfl ?_ ?_
          · refine OpStep.makeSlice (n := n) Tsl_85 rfl (by decide) (by first | rfl | omega) (by first | rfl | omega) (by omega) (by simp only [maxLen]; omega) fun b5 => ?_
            refine ⟨(Some'.weak (.skip (.skip (.skip (.skip (.skip (.skip (.skip (.skip (.skip (.take (.take (.take (.nil _)))))))))))))), ?_⟩
            refine DW.formOwn (.tail _ (List.Mem.head _)) (fun A_uo1 c_uo1 hv hcapc_uo1 hmaxc_uo1 => ?_)
            subst hv
            refine DW.take (i := 8) (v := .agg #[.slice A_uo1 pn c_uo1, .slice (some ⟨b5, 0, none⟩) n n, .int .i64 (-1), .slice none 0 0]) rfl (by kernel_rfl) (by kernel_rfl) (by kernel_rfl) (fun _ _ _ h => h) (Some'.weak (.skip (.skip (.skip (.skip (.skip (.skip (.skip (.skip (.skip (.take (.take (.take (.nil _)))))))))))))) rfl (OpY.build (cs := [.slice A_uo1 pn c_uo1, .slice (some ⟨b5, 0, none⟩) n n, .int .i64 (-1), .slice none 0 0]) (by kernel_rfl)) ?_
            refine DW.two (i := 9) (j := 10) (by kernel_rfl) rfl rfl rfl rfl ?_ ?_
            · refine OpStep.callM (H1 := [.own (.slice none 0 0) 101 3 0 (ints (fl3 []))]) (H2 := [.own (.slice (some ⟨b5, 0, none⟩) n n) 4 1 n ((List.replicate n ([.bool false] : List Value)).flatten), .own (.slice A_uo1 pn c_uo1) 3 1 pn (ints (lx SV i)), .own vl 110 4 (zs.length) (ncells zs), .grp 3 1 (pgN pn zs), .grp 4 1 (dgN n zs), .grp 101 3 (sgN zs), .own (.slice (some ⟨b4, 0, none⟩) N3 N3) 28 1 N3 (oc T), .grp 3 1 (gl T), .blk b3 48 [.slice none 0 0, .slice none 0 0], .blk b2 39 [.int .i64 Q, .slice Ac n cc], .blk b1 35 [.int .i64 N, .slice Ag m cg]]) (vs := [.agg #[.int .i64 N, .slice Ag m cg], .agg #[.int .i64 Q, .slice Ac n cc], .agg #[.slice A_uo1 pn c_uo1, .slice (some ⟨b5, 0, none⟩) n n, .int .i64 (-1), .slice none 0 0]]) (caps := []) Tcall_63 rfl rfl (Weak.selF [2]) (fun w hs => (by have h := l23Run_spec (N := N) (Q := Q) (pv := -1) (L0 := []) (ds0 := List.replicate n false) (by omega) hin1 (by show 0 ≤ _; omega) (Ap.arg hg hs) (Ap.arg hc hs) (Ap.own (.tail _ (.head _)) hs) (by rw [← bls_rep]; exact Ap.own (.head _) hs) (hs.holds _ (.head _)); rw [hD1, hL1] at h; exact h)) ?_
              rintro _ _ ⟨vd2, vs2, rfl, rfl⟩
              refine ⟨(Some'.weak (.skip (.skip (.skip (.skip (.skip (.skip (.skip (.skip (.skip (.skip (.take (.take (.take (.nil _))))))))))))))), ?_⟩
              refine DW.step (i := 10) (by kernel_rfl) rfl rfl (OpStep.alloc (zs := [.slice none 0 0, .slice none 0 0, .int .i64 0, .slice none 0 0]) Tzero_110 fun b6 => ?_)
              refine ⟨(Some'.weak (.skip (.skip (.skip (.skip (.skip (.skip (.skip (.skip (.skip (.skip (.skip (.take (.take (.take (.nil _)))))))))))))))), ?_⟩
              refine DW.formOwn (.tail _ (List.Mem.head _)) (fun A_vd21 c_vd21 hv hcapc_vd21 hmaxc_vd21 => ?_)
              subst hv
              refine DW.formOwn (.tail _ (.tail _ (List.Mem.head _))) (fun A_vs21 c_vs21 hv hcapc_vs21 hmaxc_vs21 => ?_)
              subst hv
              refine DW.step (i := 11) (by kernel_rfl) rfl rfl (OpStep.storeAll (us := [.slice A_uo1 pn c_uo1, .slice A_vd21 n c_vd21, .int .i64 (-1), .slice A_vs21 (L1.length) c_vs21]) Tsize_110 rfl rfl rfl (.here _) rfl ?_)
              refine ⟨(Some'.weak (.skip (.skip (.skip (.skip (.skip (.skip (.skip (.skip (.skip (.skip (.skip (.take (.take (.take (.nil _)))))))))))))))), ?_⟩
              refine DW.done (by kernel_rfl) ?_
              refine Run.goal ⟨(by repeat (first | exact Same.refl _ _ | refine Same.put rfl ?_ | refine Same.over rfl rfl ?_)), (b6, .slice A_uo1 pn c_uo1, .slice A_vd21 n c_vd21, .slice A_vs21 (L1.length) c_vs21), ?_, ?_, ?_⟩
              · trivial
              · exact ⟨(by first | rfl | (congr 1; omega) | simp [*]), trivial⟩
              · exact ((Weak.selF [0, 3, 0, 0, 1, 1, 1, 1, 1, 1, 1, 1, 1]).trans (Some'.weak (.takeEq (by first | rfl | simp) (.takeEq (by first | rfl | simp) (.takeEq (by first | rfl | simp) (.takeEq (by first | rfl | simp) (.takeEq (by first | rfl | simp) (.takeEq (by first | rfl | simp) (.takeEq (by first | rfl | simp) (.takeEq (by first | rfl | simp) (.takeEq (by first | rfl | simp) (.takeEq (by first | rfl | simp) (.take (.take (.take (.nil _))))))))))))))))
            · refine OpStep.alloc (zs := [.slice none 0 0, .slice none 0 0, .int .i64 0, .slice none 0 0]) Tzero_110 fun b7 => ?_
              refine ⟨(Some'.weak (.skip (.skip (.skip (.skip (.skip (.skip (.skip (.skip (.skip (.skip (.take (.take (.take (.nil _))))))))))))))), ?_⟩
              refine DW.step (i := 9) (by kernel_rfl) rfl rfl (OpStep.callM (H1 := [.own (.slice none 0 0) 101 3 0 (ints (fl3 []))]) (H2 := [.blk b7 110 [.slice none 0 0, .slice none 0 0, .int .i64 0, .slice none 0 0], .own (.slice (some ⟨b5, 0, none⟩) n n) 4 1 n ((List.replicate n ([.bool false] : List Value)).flatten), .own (.slice A_uo1 pn c_uo1) 3 1 pn (ints (lx SV i)), .own vl 110 4 (zs.length) (ncells zs), .grp 3 1 (pgN pn zs), .grp 4 1 (dgN n zs), .grp 101 3 (sgN zs), .own (.slice (some ⟨b4, 0, none⟩) N3 N3) 28 1 N3 (oc T), .grp 3 1 (gl T), .blk b3 48 [.slice none 0 0, .slice none 0 0], .blk b2 39 [.int .i64 Q, .slice Ac n cc], .blk b1 35 [.int .i64 N, .slice Ag m cg]]) (vs := [.agg #[.int .i64 N, .slice Ag m cg], .agg #[.int .i64 Q, .slice Ac n cc], .agg #[.slice A_uo1 pn c_uo1, .slice (some ⟨b5, 0, none⟩) n n, .int .i64 (-1), .slice none 0 0]]) (caps := []) Tcall_63 rfl rfl (Weak.selF [3]) (fun w hs => (by have h := l23Run_spec (N := N) (Q := Q) (pv := -1) (L0 := []) (ds0 := List.replicate n false) (by omega) hin1 (by show 0 ≤ _; omega) (Ap.arg hg hs) (Ap.arg hc hs) (Ap.own (.tail _ (.tail _ (.head _))) hs) (by rw [← bls_rep]; exact Ap.own (.tail _ (.head _)) hs) (hs.holds _ (.head _)); rw [hD1, hL1] at h; exact h)) ?_)
              rintro _ _ ⟨vd2, vs2, rfl, rfl⟩
              refine ⟨(Some'.weak (.skip (.skip (.skip (.skip (.skip (.skip (.skip (.skip (.skip (.skip (.skip (.take (.take (.take (.nil _)))))))))))))))), ?_⟩
              refine DW.formOwn (.head _) (fun A_vd22 c_vd22 hv hcapc_vd22 hmaxc_vd22 => ?_)
              subst hv
              refine DW.formOwn (.tail _ (List.Mem.head _)) (fun A_vs22 c_vs22 hv hcapc_vs22 hmaxc_vs22 => ?_)
              subst hv
              refine DW.step (i := 11) (by kernel_rfl) rfl rfl (OpStep.storeAll (us := [.slice A_uo1 pn c_uo1, .slice A_vd22 n c_vd22, .int .i64 (-1), .slice A_vs22 (L1.length) c_vs22]) Tsize_110 rfl rfl rfl (.there _ (.there _ (.here _))) rfl ?_)
              refine ⟨(Some'.weak (.skip (.skip (.skip (.skip (.skip (.skip (.skip (.skip (.skip (.skip (.skip (.take (.take (.take (.nil _)))))))))))))))), ?_⟩
              refine DW.done (by kernel_rfl) ?_
              refine Run.goal ⟨(by repeat (first | exact Same.refl _ _ | refine Same.put rfl ?_ | refine Same.over rfl rfl ?_)), (b7, .slice A_uo1 pn c_uo1, .slice A_vd22 n c_vd22, .slice A_vs22 (L1.length) c_vs22), ?_, ?_, ?_⟩
              · trivial
              · exact ⟨(by first | rfl | (congr 1; omega) | simp [*]), trivial⟩
              · exact ((Weak.selF [2, 3, 0, 0, 1, 1, 1, 1, 1, 1, 1, 1, 1]).trans (Some'.weak (.takeEq (by first | rfl | simp) (.takeEq (by first | rfl | simp) (.takeEq (by first | rfl | simp) (.takeEq (by first | rfl | simp) (.takeEq (by first | rfl | simp) (.takeEq (by first | rfl | simp) (.takeEq (by first | rfl | simp) (.takeEq (by first | rfl | simp) (.takeEq (by first | rfl | simp) (.takeEq (by first | rfl | simp) (.take (.take (.take (.nil _))))))))))))))))
          · refine OpStep.alloc (zs := [.slice none 0 0, .slice none 0 0, .int .i64 0, .slice none 0 0]) Tzero_110 fun b8 => ?_
            refine ⟨(Some'.weak (.skip (.skip (.skip (.skip (.skip (.skip (.skip (.skip (.skip (.take (.take (.take (.nil _)))))))))))))), ?_⟩
            refine DW.step (i := 7) (by kernel_rfl) rfl rfl (OpStep.makeSlice (n := n) Tsl_85 rfl (by decide) (by first | rfl | omega) (by first | rfl | omega) (by omega) (by simp only [maxLen]; omega) fun b9 => ?_)
            refine ⟨(Some'.weak (.skip (.skip (.skip (.skip (.skip (.skip (.skip (.skip (.skip (.skip (.take (.take (.take (.nil _))))))))))))))), ?_⟩
            refine DW.formOwn (.tail _ (.tail _ (List.Mem.head _))) (fun A_uo2 c_uo2 hv hcapc_uo2 hmaxc_uo2 => ?_)
            subst hv
            refine DW.take (i := 8) (v := .agg #[.slice A_uo2 pn c_uo2, .slice (some ⟨b9, 0, none⟩) n n, .int .i64 (-1), .slice none 0 0]) rfl (by kernel_rfl) (by kernel_rfl) (by kernel_rfl) (fun _ _ _ h => h) (Some'.weak (.skip (.skip (.skip (.skip (.skip (.skip (.skip (.skip (.skip (.skip (.take (.take (.take (.nil _))))))))))))))) rfl (OpY.build (cs := [.slice A_uo2 pn c_uo2, .slice (some ⟨b9, 0, none⟩) n n, .int .i64 (-1), .slice none 0 0]) (by kernel_rfl)) ?_
            refine DW.step (i := 9) (by kernel_rfl) rfl rfl (OpStep.callM (H1 := [.own (.slice none 0 0) 101 3 0 (ints (fl3 []))]) (H2 := [.own (.slice (some ⟨b9, 0, none⟩) n n) 4 1 n ((List.replicate n ([.bool false] : List Value)).flatten), .blk b8 110 [.slice none 0 0, .slice none 0 0, .int .i64 0, .slice none 0 0], .own (.slice A_uo2 pn c_uo2) 3 1 pn (ints (lx SV i)), .own vl 110 4 (zs.length) (ncells zs), .grp 3 1 (pgN pn zs), .grp 4 1 (dgN n zs), .grp 101 3 (sgN zs), .own (.slice (some ⟨b4, 0, none⟩) N3 N3) 28 1 N3 (oc T), .grp 3 1 (gl T), .blk b3 48 [.slice none 0 0, .slice none 0 0], .blk b2 39 [.int .i64 Q, .slice Ac n cc], .blk b1 35 [.int .i64 N, .slice Ag m cg]]) (vs := [.agg #[.int .i64 N, .slice Ag m cg], .agg #[.int .i64 Q, .slice Ac n cc], .agg #[.slice A_uo2 pn c_uo2, .slice (some ⟨b9, 0, none⟩) n n, .int .i64 (-1), .slice none 0 0]]) (caps := []) Tcall_63 rfl rfl (Weak.selF [3]) (fun w hs => (by have h := l23Run_spec (N := N) (Q := Q) (pv := -1) (L0 := []) (ds0 := List.replicate n false) (by omega) hin1 (by show 0 ≤ _; omega) (Ap.arg hg hs) (Ap.arg hc hs) (Ap.own (.tail _ (.tail _ (.head _))) hs) (by rw [← bls_rep]; exact Ap.own (.head _) hs) (hs.holds _ (.head _)); rw [hD1, hL1] at h; exact h)) ?_)
            rintro _ _ ⟨vd2, vs2, rfl, rfl⟩
            refine ⟨(Some'.weak (.skip (.skip (.skip (.skip (.skip (.skip (.skip (.skip (.skip (.skip (.skip (.take (.take (.take (.nil _)))))))))))))))), ?_⟩
            refine DW.formOwn (.head _) (fun A_vd23 c_vd23 hv hcapc_vd23 hmaxc_vd23 => ?_)
            subst hv
            refine DW.formOwn (.tail _ (List.Mem.head _)) (fun A_vs23 c_vs23 hv hcapc_vs23 hmaxc_vs23 => ?_)
            subst hv
            refine DW.step (i := 11) (by kernel_rfl) rfl rfl (OpStep.storeAll (us := [.slice A_uo2 pn c_uo2, .slice A_vd23 n c_vd23, .int .i64 (-1), .slice A_vs23 (L1.length) c_vs23]) Tsize_110 rfl rfl rfl (.there _ (.there _ (.there _ (.here _)))) rfl ?_)
            refine ⟨(Some'.weak (.skip (.skip (.skip (.skip (.skip (.skip (.skip (.skip (.skip (.skip (.skip (.take (.take (.take (.nil _)))))))))))))))), ?_⟩
            refine DW.done (by kernel_rfl) ?_
            refine Run.goal ⟨(by repeat (first | exact Same.refl _ _ | refine Same.put rfl ?_ | refine Same.over rfl rfl ?_)), (b8, .slice A_uo2 pn c_uo2, .slice A_vd23 n c_vd23, .slice A_vs23 (L1.length) c_vs23), ?_, ?_, ?_⟩
            · trivial
            · exact ⟨(by first | rfl | (congr 1; omega) | simp [*]), trivial⟩
            · exact ((Weak.selF [3, 3, 0, 0, 1, 1, 1, 1, 1, 1, 1, 1, 1]).trans (Some'.weak (.takeEq (by first | rfl | simp) (.takeEq (by first | rfl | simp) (.takeEq (by first | rfl | simp) (.takeEq (by first | rfl | simp) (.takeEq (by first | rfl | simp) (.takeEq (by first | rfl | simp) (.takeEq (by first | rfl | simp) (.takeEq (by first | rfl | simp) (.takeEq (by first | rfl | simp) (.takeEq (by first | rfl | simp) (.take (.take (.take (.nil _))))))))))))))))
        · refine OpStep.makeSlice (n := n) Tsl_85 rfl (by decide) (by first | rfl | omega) (by first | rfl | omega) (by omega) (by simp only [maxLen]; omega) fun b10 => ?_
          refine ⟨(Some'.weak (.skip (.skip (.skip (.skip (.skip (.skip (.skip (.skip (.take (.take (.take (.nil _))))))))))))), ?_⟩
          refine DW.two (i := 3) (j := 10) (by kernel_rfl) rfl rfl rfl rfl ?_ ?_
          · refine OpStep.call (vs := [(vx SV (i))]) (caps := []) Tcall_64 rfl rfl (fun w hs => l1Own_spec (by omega) (hs.sl (hin i hi))) ?_
            rintro uo _ rfl
            refine ⟨(Some'.weak (.skip (.skip (.skip (.skip (.skip (.skip (.skip (.skip (.skip (.take (.take (.take (.nil _)))))))))))))), ?_⟩
            refine DW.formOwn (.head _) (fun A_uo3 c_uo3 hv hcapc_uo3 hmaxc_uo3 => ?_)
            subst hv
            refine DW.take (i := 8) (v := .agg #[.slice A_uo3 pn c_uo3, .slice (some ⟨b10, 0, none⟩) n n, .int .i64 (-1), .slice none 0 0]) rfl (by kernel_rfl) (by kernel_rfl) (by kernel_rfl) (fun _ _ _ h => h) (Some'.weak (.skip (.skip (.skip (.skip (.skip (.skip (.skip (.skip (.skip (.take (.take (.take (.nil _)))))))))))))) rfl (OpY.build (cs := [.slice A_uo3 pn c_uo3, .slice (some ⟨b10, 0, none⟩) n n, .int .i64 (-1), .slice none 0 0]) (by kernel_rfl)) ?_
            refine DW.two (i := 9) (j := 10) (by kernel_rfl) rfl rfl rfl rfl ?_ ?_
            · refine OpStep.callM (H1 := [.own (.slice none 0 0) 101 3 0 (ints (fl3 []))]) (H2 := [.own (.slice A_uo3 pn c_uo3) 3 1 pn (ints (lx SV i)), .own (.slice (some ⟨b10, 0, none⟩) n n) 4 1 n ((List.replicate n ([.bool false] : List Value)).flatten), .own vl 110 4 (zs.length) (ncells zs), .grp 3 1 (pgN pn zs), .grp 4 1 (dgN n zs), .grp 101 3 (sgN zs), .own (.slice (some ⟨b4, 0, none⟩) N3 N3) 28 1 N3 (oc T), .grp 3 1 (gl T), .blk b3 48 [.slice none 0 0, .slice none 0 0], .blk b2 39 [.int .i64 Q, .slice Ac n cc], .blk b1 35 [.int .i64 N, .slice Ag m cg]]) (vs := [.agg #[.int .i64 N, .slice Ag m cg], .agg #[.int .i64 Q, .slice Ac n cc], .agg #[.slice A_uo3 pn c_uo3, .slice (some ⟨b10, 0, none⟩) n n, .int .i64 (-1), .slice none 0 0]]) (caps := []) Tcall_63 rfl rfl (Weak.selF [2]) (fun w hs => (by have h := l23Run_spec (N := N) (Q := Q) (pv := -1) (L0 := []) (ds0 := List.replicate n false) (by omega) hin1 (by show 0 ≤ _; omega) (Ap.arg hg hs) (Ap.arg hc hs) (Ap.own (.head _) hs) (by rw [← bls_rep]; exact Ap.own (.tail _ (.head _)) hs) (hs.holds _ (.head _)); rw [hD1, hL1] at h; exact h)) ?_
              rintro _ _ ⟨vd2, vs2, rfl, rfl⟩
              refine ⟨(Some'.weak (.skip (.skip (.skip (.skip (.skip (.skip (.skip (.skip (.skip (.skip (.take (.take (.take (.nil _))))))))))))))), ?_⟩
              refine DW.step (i := 10) (by kernel_rfl) rfl rfl (OpStep.alloc (zs := [.slice none 0 0, .slice none 0 0, .int .i64 0, .slice none 0 0]) Tzero_110 fun b11 => ?_)
              refine ⟨(Some'.weak (.skip (.skip (.skip (.skip (.skip (.skip (.skip (.skip (.skip (.skip (.skip (.take (.take (.take (.nil _)))))))))))))))), ?_⟩
              refine DW.formOwn (.tail _ (List.Mem.head _)) (fun A_vd24 c_vd24 hv hcapc_vd24 hmaxc_vd24 => ?_)
              subst hv
              refine DW.formOwn (.tail _ (.tail _ (List.Mem.head _))) (fun A_vs24 c_vs24 hv hcapc_vs24 hmaxc_vs24 => ?_)
              subst hv
              refine DW.step (i := 11) (by kernel_rfl) rfl rfl (OpStep.storeAll (us := [.slice A_uo3 pn c_uo3, .slice A_vd24 n c_vd24, .int .i64 (-1), .slice A_vs24 (L1.length) c_vs24]) Tsize_110 rfl rfl rfl (.here _) rfl ?_)
              refine ⟨(Some'.weak (.skip (.skip (.skip (.skip (.skip (.skip (.skip (.skip (.skip (.skip (.skip (.take (.take (.take (.nil _)))))))))))))))), ?_⟩
              refine DW.done (by kernel_rfl) ?_
              refine Run.goal ⟨(by repeat (first | exact Same.refl _ _ | refine Same.put rfl ?_ | refine Same.over rfl rfl ?_)), (b11, .slice A_uo3 pn c_uo3, .slice A_vd24 n c_vd24, .slice A_vs24 (L1.length) c_vs24), ?_, ?_, ?_⟩
              · trivial
              · exact ⟨(by first | rfl | (congr 1; omega) | simp [*]), trivial⟩
              · exact ((Weak.selF [0, 2, 0, 0, 1, 1, 1, 1, 1, 1, 1, 1, 1]).trans (Some'.weak (.takeEq (by first | rfl | simp) (.takeEq (by first | rfl | simp) (.takeEq (by first | rfl | simp) (.takeEq (by first | rfl | simp) (.takeEq (by first | rfl | simp) (.takeEq (by first | rfl | simp) (.takeEq (by first | rfl | simp) (.takeEq (by first | rfl | simp) (.takeEq (by first | rfl | simp) (.takeEq (by first | rfl | simp) (.take (.take (.take (.nil _))))))))))))))))
            · refine OpStep.alloc (zs := [.slice none 0 0, .slice none 0 0, .int .i64 0, .slice none 0 0]) Tzero_110 fun b12 => ?_
              refine ⟨(Some'.weak (.skip (.skip (.skip (.skip (.skip (.skip (.skip (.skip (.skip (.skip (.take (.take (.take (.nil _))))))))))))))), ?_⟩
              refine DW.step (i := 9) (by kernel_rfl) rfl rfl (OpStep.callM (H1 := [.own (.slice none 0 0) 101 3 0 (ints (fl3 []))]) (H2 := [.blk b12 110 [.slice none 0 0, .slice none 0 0, .int .i64 0, .slice none 0 0], .own (.slice A_uo3 pn c_uo3) 3 1 pn (ints (lx SV i)), .own (.slice (some ⟨b10, 0, none⟩) n n) 4 1 n ((List.replicate n ([.bool false] : List Value)).flatten), .own vl 110 4 (zs.length) (ncells zs), .grp 3 1 (pgN pn zs), .grp 4 1 (dgN n zs), .grp 101 3 (sgN zs), .own (.slice (some ⟨b4, 0, none⟩) N3 N3) 28 1 N3 (oc T), .grp 3 1 (gl T), .blk b3 48 [.slice none 0 0, .slice none 0 0], .blk b2 39 [.int .i64 Q, .slice Ac n cc], .blk b1 35 [.int .i64 N, .slice Ag m cg]]) (vs := [.agg #[.int .i64 N, .slice Ag m cg], .agg #[.int .i64 Q, .slice Ac n cc], .agg #[.slice A_uo3 pn c_uo3, .slice (some ⟨b10, 0, none⟩) n n, .int .i64 (-1), .slice none 0 0]]) (caps := []) Tcall_63 rfl rfl (Weak.selF [3]) (fun w hs => (by have h := l23Run_spec (N := N) (Q := Q) (pv := -1) (L0 := []) (ds0 := List.replicate n false) (by omega) hin1 (by show 0 ≤ _; omega) (Ap.arg hg hs) (Ap.arg hc hs) (Ap.own (.tail _ (.head _)) hs) (by rw [← bls_rep]; exact Ap.own (.tail _ (.tail _ (.head _))) hs) (hs.holds _ (.head _)); rw [hD1, hL1] at h; exact h)) ?_)
              rintro _ _ ⟨vd2, vs2, rfl, rfl⟩
              refine ⟨(Some'.weak (.skip (.skip (.skip (.skip (.skip (.skip (.skip (.skip (.skip (.skip (.skip (.take (.take (.take (.nil _)))))))))))))))), ?_⟩
              refine DW.formOwn (.head _) (fun A_vd25 c_vd25 hv hcapc_vd25 hmaxc_vd25 => ?_)
              subst hv
              refine DW.formOwn (.tail _ (List.Mem.head _)) (fun A_vs25 c_vs25 hv hcapc_vs25 hmaxc_vs25 => ?_)
              subst hv
              refine DW.step (i := 11) (by kernel_rfl) rfl rfl (OpStep.storeAll (us := [.slice A_uo3 pn c_uo3, .slice A_vd25 n c_vd25, .int .i64 (-1), .slice A_vs25 (L1.length) c_vs25]) Tsize_110 rfl rfl rfl (.there _ (.there _ (.here _))) rfl ?_)
              refine ⟨(Some'.weak (.skip (.skip (.skip (.skip (.skip (.skip (.skip (.skip (.skip (.skip (.skip (.take (.take (.take (.nil _)))))))))))))))), ?_⟩
              refine DW.done (by kernel_rfl) ?_
              refine Run.goal ⟨(by repeat (first | exact Same.refl _ _ | refine Same.put rfl ?_ | refine Same.over rfl rfl ?_)), (b12, .slice A_uo3 pn c_uo3, .slice A_vd25 n c_vd25, .slice A_vs25 (L1.length) c_vs25), ?_, ?_, ?_⟩
              · trivial
              · exact ⟨(by first | rfl | (congr 1; omega) | simp [*]), trivial⟩
              · exact ((Weak.selF [2, 2, 0, 0, 1, 1, 1, 1, 1, 1, 1, 1, 1]).trans (Some'.weak (.takeEq (by first | rfl | simp) (.takeEq (by first | rfl | simp) (.takeEq (by first | rfl | simp) (.takeEq (by first | rfl | simp) (.takeEq (by first | rfl | simp) (.takeEq (by first | rfl | simp) (.takeEq (by first | rfl | simp) (.takeEq (by first | rfl | simp) (.takeEq (by first | rfl | simp) (.takeEq (by first | rfl | simp) (.take (.take (.take (.nil _))))))))))))))))
          · refine OpStep.alloc (zs := [.slice none 0 0, .slice none 0 0, .int .i64 0, .slice none 0 0]) Tzero_110 fun b13 => ?_
            refine ⟨(Some'.weak (.skip (.skip (.skip (.skip (.skip (.skip (.skip (.skip (.skip (.take (.take (.take (.nil _)))))))))))))), ?_⟩
            refine DW.step (i := 3) (by kernel_rfl) rfl rfl (OpStep.call (vs := [(vx SV (i))]) (caps := []) Tcall_64 rfl rfl (fun w hs => l1Own_spec (by omega) (hs.sl (hin i hi))) ?_)
            rintro uo _ rfl
            refine ⟨(Some'.weak (.skip (.skip (.skip (.skip (.skip (.skip (.skip (.skip (.skip (.skip (.take (.take (.take (.nil _))))))))))))))), ?_⟩
            refine DW.formOwn (.head _) (fun A_uo4 c_uo4 hv hcapc_uo4 hmaxc_uo4 => ?_)
            subst hv
            refine DW.take (i := 8) (v := .agg #[.slice A_uo4 pn c_uo4, .slice (some ⟨b10, 0, none⟩) n n, .int .i64 (-1), .slice none 0 0]) rfl (by kernel_rfl) (by kernel_rfl) (by kernel_rfl) (fun _ _ _ h => h) (Some'.weak (.skip (.skip (.skip (.skip (.skip (.skip (.skip (.skip (.skip (.skip (.take (.take (.take (.nil _))))))))))))))) rfl (OpY.build (cs := [.slice A_uo4 pn c_uo4, .slice (some ⟨b10, 0, none⟩) n n, .int .i64 (-1), .slice none 0 0]) (by kernel_rfl)) ?_
            refine DW.step (i := 9) (by kernel_rfl) rfl rfl (OpStep.callM (H1 := [.own (.slice none 0 0) 101 3 0 (ints (fl3 []))]) (H2 := [.own (.slice A_uo4 pn c_uo4) 3 1 pn (ints (lx SV i)), .blk b13 110 [.slice none 0 0, .slice none 0 0, .int .i64 0, .slice none 0 0], .own (.slice (some ⟨b10, 0, none⟩) n n) 4 1 n ((List.replicate n ([.bool false] : List Value)).flatten), .own vl 110 4 (zs.length) (ncells zs), .grp 3 1 (pgN pn zs), .grp 4 1 (dgN n zs), .grp 101 3 (sgN zs), .own (.slice (some ⟨b4, 0, none⟩) N3 N3) 28 1 N3 (oc T), .grp 3 1 (gl T), .blk b3 48 [.slice none 0 0, .slice none 0 0], .blk b2 39 [.int .i64 Q, .slice Ac n cc], .blk b1 35 [.int .i64 N, .slice Ag m cg]]) (vs := [.agg #[.int .i64 N, .slice Ag m cg], .agg #[.int .i64 Q, .slice Ac n cc], .agg #[.slice A_uo4 pn c_uo4, .slice (some ⟨b10, 0, none⟩) n n, .int .i64 (-1), .slice none 0 0]]) (caps := []) Tcall_63 rfl rfl (Weak.selF [3]) (fun w hs => (by have h := l23Run_spec (N := N) (Q := Q) (pv := -1) (L0 := []) (ds0 := List.replicate n false) (by omega) hin1 (by show 0 ≤ _; omega) (Ap.arg hg hs) (Ap.arg hc hs) (Ap.own (.head _) hs) (by rw [← bls_rep]; exact Ap.own (.tail _ (.tail _ (.head _))) hs) (hs.holds _ (.head _)); rw [hD1, hL1] at h; exact h)) ?_)
            rintro _ _ ⟨vd2, vs2, rfl, rfl⟩
            refine ⟨(Some'.weak (.skip (.skip (.skip (.skip (.skip (.skip (.skip (.skip (.skip (.skip (.skip (.take (.take (.take (.nil _)))))))))))))))), ?_⟩
            refine DW.formOwn (.head _) (fun A_vd26 c_vd26 hv hcapc_vd26 hmaxc_vd26 => ?_)
            subst hv
            refine DW.formOwn (.tail _ (List.Mem.head _)) (fun A_vs26 c_vs26 hv hcapc_vs26 hmaxc_vs26 => ?_)
            subst hv
            refine DW.step (i := 11) (by kernel_rfl) rfl rfl (OpStep.storeAll (us := [.slice A_uo4 pn c_uo4, .slice A_vd26 n c_vd26, .int .i64 (-1), .slice A_vs26 (L1.length) c_vs26]) Tsize_110 rfl rfl rfl (.there _ (.there _ (.there _ (.here _)))) rfl ?_)
            refine ⟨(Some'.weak (.skip (.skip (.skip (.skip (.skip (.skip (.skip (.skip (.skip (.skip (.skip (.take (.take (.take (.nil _)))))))))))))))), ?_⟩
            refine DW.done (by kernel_rfl) ?_
            refine Run.goal ⟨(by repeat (first | exact Same.refl _ _ | refine Same.put rfl ?_ | refine Same.over rfl rfl ?_)), (b13, .slice A_uo4 pn c_uo4, .slice A_vd26 n c_vd26, .slice A_vs26 (L1.length) c_vs26), ?_, ?_, ?_⟩
            · trivial
            · exact ⟨(by first | rfl | (congr 1; omega) | simp [*]), trivial⟩
            · exact ((Weak.selF [3, 2, 0, 0, 1, 1, 1, 1, 1, 1, 1, 1, 1]).trans (Some'.weak (.takeEq (by first | rfl | simp) (.takeEq (by first | rfl | simp) (.takeEq (by first | rfl | simp) (.takeEq (by first | rfl | simp) (.takeEq (by first | rfl | simp) (.takeEq (by first | rfl | simp) (.takeEq (by first | rfl | simp) (.takeEq (by first | rfl | simp) (.takeEq (by first | rfl | simp) (.takeEq (by first | rfl | simp) (.take (.take (.take (.nil _))))))))))))))))
        · refine OpStep.alloc (zs := [.slice none 0 0, .slice none 0 0, .int .i64 0, .slice none 0 0]) Tzero_110 fun b14 => ?_
          refine ⟨(Some'.weak (.skip (.skip (.skip (.skip (.skip (.skip (.skip (.skip (.take (.take (.take (.nil _))))))))))))), ?_⟩
          refine DW.two (i := 3) (j := 7) (by kernel_rfl) rfl rfl rfl rfl ?_ ?_
          · refine OpStep.call (vs := [(vx SV (i))]) (caps := []) Tcall_64 rfl rfl (fun w hs => l1Own_spec (by omega) (hs.sl (hin i hi))) ?_
            rintro uo _ rfl
            refine ⟨(Some'.weak (.skip (.skip (.skip (.skip (.skip (.skip (.skip (.skip (.skip (.take (.take (.take (.nil _)))))))))))))), ?_⟩
            refine DW.step (i := 7) (by kernel_rfl) rfl rfl (OpStep.makeSlice (n := n) Tsl_85 rfl (by decide) (by first | rfl | omega) (by first | rfl | omega) (by omega) (by simp only [maxLen]; omega) fun b15 => ?_)
            refine ⟨(Some'.weak (.skip (.skip (.skip (.skip (.skip (.skip (.skip (.skip (.skip (.skip (.take (.take (.take (.nil _))))))))))))))), ?_⟩
            refine DW.formOwn (.tail _ (List.Mem.head _)) (fun A_uo5 c_uo5 hv hcapc_uo5 hmaxc_uo5 => ?_)
            subst hv
            refine DW.take (i := 8) (v := .agg #[.slice A_uo5 pn c_uo5, .slice (some ⟨b15, 0, none⟩) n n, .int .i64 (-1), .slice none 0 0]) rfl (by kernel_rfl) (by kernel_rfl) (by kernel_rfl) (fun _ _ _ h => h) (Some'.weak (.skip (.skip (.skip (.skip (.skip (.skip (.skip (.skip (.skip (.skip (.take (.take (.take (.nil _))))))))))))))) rfl (OpY.build (cs := [.slice A_uo5 pn c_uo5, .slice (some ⟨b15, 0, none⟩) n n, .int .i64 (-1), .slice none 0 0]) (by kernel_rfl)) ?_
            refine DW.step (i := 9) (by kernel_rfl) rfl rfl (OpStep.callM (H1 := [.own (.slice none 0 0) 101 3 0 (ints (fl3 []))]) (H2 := [.own (.slice (some ⟨b15, 0, none⟩) n n) 4 1 n ((List.replicate n ([.bool false] : List Value)).flatten), .own (.slice A_uo5 pn c_uo5) 3 1 pn (ints (lx SV i)), .blk b14 110 [.slice none 0 0, .slice none 0 0, .int .i64 0, .slice none 0 0], .own vl 110 4 (zs.length) (ncells zs), .grp 3 1 (pgN pn zs), .grp 4 1 (dgN n zs), .grp 101 3 (sgN zs), .own (.slice (some ⟨b4, 0, none⟩) N3 N3) 28 1 N3 (oc T), .grp 3 1 (gl T), .blk b3 48 [.slice none 0 0, .slice none 0 0], .blk b2 39 [.int .i64 Q, .slice Ac n cc], .blk b1 35 [.int .i64 N, .slice Ag m cg]]) (vs := [.agg #[.int .i64 N, .slice Ag m cg], .agg #[.int .i64 Q, .slice Ac n cc], .agg #[.slice A_uo5 pn c_uo5, .slice (some ⟨b15, 0, none⟩) n n, .int .i64 (-1), .slice none 0 0]]) (caps := []) Tcall_63 rfl rfl (Weak.selF [3]) (fun w hs => (by have h := l23Run_spec (N := N) (Q := Q) (pv := -1) (L0 := []) (ds0 := List.replicate n false) (by omega) hin1 (by show 0 ≤ _; omega) (Ap.arg hg hs) (Ap.arg hc hs) (Ap.own (.tail _ (.head _)) hs) (by rw [← bls_rep]; exact Ap.own (.head _) hs) (hs.holds _ (.head _)); rw [hD1, hL1] at h; exact h)) ?_)
            rintro _ _ ⟨vd2, vs2, rfl, rfl⟩
            refine ⟨(Some'.weak (.skip (.skip (.skip (.skip (.skip (.skip (.skip (.skip (.skip (.skip (.skip (.take (.take (.take (.nil _)))))))))))))))), ?_⟩
            refine DW.formOwn (.head _) (fun A_vd27 c_vd27 hv hcapc_vd27 hmaxc_vd27 => ?_)
            subst hv
            refine DW.formOwn (.tail _ (List.Mem.head _)) (fun A_vs27 c_vs27 hv hcapc_vs27 hmaxc_vs27 => ?_)
            subst hv
            refine DW.step (i := 11) (by kernel_rfl) rfl rfl (OpStep.storeAll (us := [.slice A_uo5 pn c_uo5, .slice A_vd27 n c_vd27, .int .i64 (-1), .slice A_vs27 (L1.length) c_vs27]) Tsize_110 rfl rfl rfl (.there _ (.there _ (.there _ (.there _ (.here _))))) rfl ?_)
            refine ⟨(Some'.weak (.skip (.skip (.skip (.skip (.skip (.skip (.skip (.skip (.skip (.skip (.skip (.take (.take (.take (.nil _)))))))))))))))), ?_⟩
            refine DW.done (by kernel_rfl) ?_
            refine Run.goal ⟨(by repeat (first | exact Same.refl _ _ | refine Same.put rfl ?_ | refine Same.over rfl rfl ?_)), (b14, .slice A_uo5 pn c_uo5, .slice A_vd27 n c_vd27, .slice A_vs27 (L1.length) c_vs27), ?_, ?_, ?_⟩
            · trivial
            · exact ⟨(by first | rfl | (congr 1; omega) | simp [*]), trivial⟩
            · exact ((Weak.selF [4, 3, 0, 0, 1, 1, 1, 1, 1, 1, 1, 1, 1]).trans (Some'.weak (.takeEq (by first | rfl | simp) (.takeEq (by first | rfl | simp) (.takeEq (by first | rfl | simp) (.takeEq (by first | rfl | simp) (.takeEq (by first | rfl | simp) (.takeEq (by first | rfl | simp) (.takeEq (by first | rfl | simp) (.takeEq (by first | rfl | simp) (.takeEq (by first | rfl | simp) (.takeEq (by first | rfl | simp) (.take (.take (.take (.nil _))))))))))))))))
          · refine OpStep.makeSlice (n := n) Tsl_85 rfl (by decide) (by first | rfl | omega) (by first | rfl | omega) (by omega) (by simp only [maxLen]; omega) fun b16 => ?_
            refine ⟨(Some'.weak (.skip (.skip (.skip (.skip (.skip (.skip (.skip (.skip (.skip (.take (.take (.take (.nil _)))))))))))))), ?_⟩
            refine DW.step (i := 3) (by kernel_rfl) rfl rfl (OpStep.call (vs := [(vx SV (i))]) (caps := []) Tcall_64 rfl rfl (fun w hs => l1Own_spec (by omega) (hs.sl (hin i hi))) ?_)
            rintro uo _ rfl
            refine ⟨(Some'.weak (.skip (.skip (.skip (.skip (.skip (.skip (.skip (.skip (.skip (.skip (.take (.take (.take (.nil _))))))))))))))), ?_⟩
            refine DW.formOwn (.head _) (fun A_uo6 c_uo6 hv hcapc_uo6 hmaxc_uo6 => ?_)
            subst hv
            refine DW.take (i := 8) (v := .agg #[.slice A_uo6 pn c_uo6, .slice (some ⟨b16, 0, none⟩) n n, .int .i64 (-1), .slice none 0 0]) rfl (by kernel_rfl) (by kernel_rfl) (by kernel_rfl) (fun _ _ _ h => h) (Some'.weak (.skip (.skip (.skip (.skip (.skip (.skip (.skip (.skip (.skip (.skip (.take (.take (.take (.nil _))))))))))))))) rfl (OpY.build (cs := [.slice A_uo6 pn c_uo6, .slice (some ⟨b16, 0, none⟩) n n, .int .i64 (-1), .slice none 0 0]) (by kernel_rfl)) ?_
            refine DW.step (i := 9) (by kernel_rfl) rfl rfl (OpStep.callM (H1 := [.own (.slice none 0 0) 101 3 0 (ints (fl3 []))]) (H2 := [.own (.slice A_uo6 pn c_uo6) 3 1 pn (ints (lx SV i)), .own (.slice (some ⟨b16, 0, none⟩) n n) 4 1 n ((List.replicate n ([.bool false] : List Value)).flatten), .blk b14 110 [.slice none 0 0, .slice none 0 0, .int .i64 0, .slice none 0 0], .own vl 110 4 (zs.length) (ncells zs), .grp 3 1 (pgN pn zs), .grp 4 1 (dgN n zs), .grp 101 3 (sgN zs), .own (.slice (some ⟨b4, 0, none⟩) N3 N3) 28 1 N3 (oc T), .grp 3 1 (gl T), .blk b3 48 [.slice none 0 0, .slice none 0 0], .blk b2 39 [.int .i64 Q, .slice Ac n cc], .blk b1 35 [.int .i64 N, .slice Ag m cg]]) (vs := [.agg #[.int .i64 N, .slice Ag m cg], .agg #[.int .i64 Q, .slice Ac n cc], .agg #[.slice A_uo6 pn c_uo6, .slice (some ⟨b16, 0, none⟩) n n, .int .i64 (-1), .slice none 0 0]]) (caps := []) Tcall_63 rfl rfl (Weak.selF [3]) (fun w hs => (by have h := l23Run_spec (N := N) (Q := Q) (pv := -1) (L0 := []) (ds0 := List.replicate n false) (by omega) hin1 (by show 0 ≤ _; omega) (Ap.arg hg hs) (Ap.arg hc hs) (Ap.own (.head _) hs) (by rw [← bls_rep]; exact Ap.own (.tail _ (.head _)) hs) (hs.holds _ (.head _)); rw [hD1, hL1] at h; exact h)) ?_)
            rintro _ _ ⟨vd2, vs2, rfl, rfl⟩
            refine ⟨(Some'.weak (.skip (.skip (.skip (.skip (.skip (.skip (.skip (.skip (.skip (.skip (.skip (.take (.take (.take (.nil _)))))))))))))))), ?_⟩
            refine DW.formOwn (.head _) (fun A_vd28 c_vd28 hv hcapc_vd28 hmaxc_vd28 => ?_)
            subst hv
            refine DW.formOwn (.tail _ (List.Mem.head _)) (fun A_vs28 c_vs28 hv hcapc_vs28 hmaxc_vs28 => ?_)
            subst hv
            refine DW.step (i := 11) (by kernel_rfl) rfl rfl (OpStep.storeAll (us := [.slice A_uo6 pn c_uo6, .slice A_vd28 n c_vd28, .int .i64 (-1), .slice A_vs28 (L1.length) c_vs28]) Tsize_110 rfl rfl rfl (.there _ (.there _ (.there _ (.there _ (.here _))))) rfl ?_)
            refine ⟨(Some'.weak (.skip (.skip (.skip (.skip (.skip (.skip (.skip (.skip (.skip (.skip (.skip (.take (.take (.take (.nil _)))))))))))))))), ?_⟩
            refine DW.done (by kernel_rfl) ?_
            refine Run.goal ⟨(by repeat (first | exact Same.refl _ _ | refine Same.put rfl ?_ | refine Same.over rfl rfl ?_)), (b14, .slice A_uo6 pn c_uo6, .slice A_vd28 n c_vd28, .slice A_vs28 (L1.length) c_vs28), ?_, ?_, ?_⟩
            · trivial
            · exact ⟨(by first | rfl | (congr 1; omega) | simp [*]), trivial⟩
            · exact ((Weak.selF [4, 2, 0, 0, 1, 1, 1, 1, 1, 1, 1, 1, 1]).trans (Some'.weak (.takeEq (by first | rfl | simp) (.takeEq (by first | rfl | simp) (.takeEq (by first | rfl | simp) (.takeEq (by first | rfl | simp) (.takeEq (by first | rfl | simp) (.takeEq (by first | rfl | simp) (.takeEq (by first | rfl | simp) (.takeEq (by first | rfl | simp) (.takeEq (by first | rfl | simp) (.takeEq (by first | rfl | simp) (.take (.take (.take (.nil _))))))))))))))))
      · rintro ⟨b12, w1, w2, w3⟩ fr hcut
        show Run _ _ (over _ _ [(12, .pointer (some ⟨b12, 0, none⟩))] fr) [.blk b12 110 [w1, w2, .int .i64 (-1), w3], .own w1 3 1 pn (ints (lx SV i)), .own w2 4 1 n (bls D1), .own w3 101 3 (L1.length) (ints (fl3 L1)), .own vl 110 4 (zs.length) (ncells zs), .grp 3 1 (pgN pn zs), .grp 4 1 (dgN n zs), .grp 101 3 (sgN zs), .own (.slice (some ⟨b4, 0, none⟩) N3 N3) 28 1 N3 (oc T), .grp 3 1 (gl T), .blk b3 48 [.slice none 0 0, .slice none 0 0], .blk b2 39 [.int .i64 Q, .slice Ac n cc], .blk b1 35 [.int .i64 N, .slice Ag m cg]]
        refine Run.seq ?_
        refine Run.formOwn (.tail _ (List.Mem.head _)) (fun A_w11 c_w11 hv hcapc_w11 hmaxc_w11 => ?_) (fun _ _ _ => ⟨nofun, nofun, nofun⟩)
        subst hv
        refine Run.formOwn (.tail _ (.tail _ (List.Mem.head _))) (fun A_w21 c_w21 hv hcapc_w21 hmaxc_w21 => ?_) (fun _ _ _ => ⟨nofun, nofun, nofun⟩)
        subst hv
        refine Run.formOwn (.tail _ (.tail _ (.tail _ (List.Mem.head _)))) (fun A_w31 c_w31 hv hcapc_w31 hmaxc_w31 => ?_) (fun _ _ _ => ⟨nofun, nofun, nofun⟩)
        subst hv
        refine Run.weak (H' := [.grp 3 1 (pgN pn (zs ++ [((.slice A_w11 pn c_w11 : Value), (.slice A_w21 n c_w21 : Value), (.slice A_w31 (L1.length) c_w31 : Value), (-1 : Int), L1, (((lx SV i), D1) : RK), [i])])), .blk b12 110 [.slice A_w11 pn c_w11, .slice A_w21 n c_w21, .int .i64 (-1), .slice A_w31 (L1.length) c_w31], .own (.slice A_w21 n c_w21) 4 1 n (bls D1), .own (.slice A_w31 (L1.length) c_w31) 101 3 (L1.length) (ints (fl3 L1)), .own vl 110 4 (zs.length) (ncells zs), .grp 4 1 (dgN n zs), .grp 101 3 (sgN zs), .own (.slice (some ⟨b4, 0, none⟩) N3 N3) 28 1 N3 (oc T), .grp 3 1 (gl T), .blk b3 48 [.slice none 0 0, .slice none 0 0], .blk b2 39 [.int .i64 Q, .slice Ac n cc], .blk b1 35 [.int .i64 N, .slice Ag m cg]]) ((Weak.selF [1, 4]).trans (Weak.pgNSnoc (zs := zs) (z := ((.slice A_w11 pn c_w11 : Value), (.slice A_w21 n c_w21 : Value), (.slice A_w31 (L1.length) c_w31 : Value), (-1 : Int), L1, (((lx SV i), D1) : RK), [i])))) ?_ ⟨_, _, rfl, fun _ => nofun, fun _ => nofun⟩
        refine Run.weak (H' := [.grp 4 1 (dgN n (zs ++ [((.slice A_w11 pn c_w11 : Value), (.slice A_w21 n c_w21 : Value), (.slice A_w31 (L1.length) c_w31 : Value), (-1 : Int), L1, (((lx SV i), D1) : RK), [i])])), .grp 3 1 (pgN pn (zs ++ [((.slice A_w11 pn c_w11 : Value), (.slice A_w21 n c_w21 : Value), (.slice A_w31 (L1.length) c_w31 : Value), (-1 : Int), L1, (((lx SV i), D1) : RK), [i])])), .blk b12 110 [.slice A_w11 pn c_w11, .slice A_w21 n c_w21, .int .i64 (-1), .slice A_w31 (L1.length) c_w31], .own (.slice A_w31 (L1.length) c_w31) 101 3 (L1.length) (ints (fl3 L1)), .own vl 110 4 (zs.length) (ncells zs), .grp 101 3 (sgN zs), .own (.slice (some ⟨b4, 0, none⟩) N3 N3) 28 1 N3 (oc T), .grp 3 1 (gl T), .blk b3 48 [.slice none 0 0, .slice none 0 0], .blk b2 39 [.int .i64 Q, .slice Ac n cc], .blk b1 35 [.int .i64 N, .slice Ag m cg]]) ((Weak.selF [2, 4]).trans (Weak.dgNSnoc (zs := zs) (z := ((.slice A_w11 pn c_w11 : Value), (.slice A_w21 n c_w21 : Value), (.slice A_w31 (L1.length) c_w31 : Value), (-1 : Int), L1, (((lx SV i), D1) : RK), [i])))) ?_ ⟨_, _, rfl, fun _ => nofun, fun _ => nofun⟩
        refine Run.weak (H' := [.grp 101 3 (sgN (zs ++ [((.slice A_w11 pn c_w11 : Value), (.slice A_w21 n c_w21 : Value), (.slice A_w31 (L1.length) c_w31 : Value), (-1 : Int), L1, (((lx SV i), D1) : RK), [i])])), .grp 4 1 (dgN n (zs ++ [((.slice A_w11 pn c_w11 : Value), (.slice A_w21 n c_w21 : Value), (.slice A_w31 (L1.length) c_w31 : Value), (-1 : Int), L1, (((lx SV i), D1) : RK), [i])])), .grp 3 1 (pgN pn (zs ++ [((.slice A_w11 pn c_w11 : Value), (.slice A_w21 n c_w21 : Value), (.slice A_w31 (L1.length) c_w31 : Value), (-1 : Int), L1, (((lx SV i), D1) : RK), [i])])), .blk b12 110 [.slice A_w11 pn c_w11, .slice A_w21 n c_w21, .int .i64 (-1), .slice A_w31 (L1.length) c_w31], .own vl 110 4 (zs.length) (ncells zs), .own (.slice (some ⟨b4, 0, none⟩) N3 N3) 28 1 N3 (oc T), .grp 3 1 (gl T), .blk b3 48 [.slice none 0 0, .slice none 0 0], .blk b2 39 [.int .i64 Q, .slice Ac n cc], .blk b1 35 [.int .i64 N, .slice Ag m cg]]) ((Weak.selF [3, 4]).trans (Weak.sgNSnoc (zs := zs) (z := ((.slice A_w11 pn c_w11 : Value), (.slice A_w21 n c_w21 : Value), (.slice A_w31 (L1.length) c_w31 : Value), (-1 : Int), L1, (((lx SV i), D1) : RK), [i])))) ?_ ⟨_, _, rfl, fun _ => nofun, fun _ => nofun⟩
        obtain ⟨A1, B1, hAB, hset⟩ := tb_split (T := T) (c := c1) (by omega)
        refine Run.weak (H' := [.own ((vx T (c1))) 3 1 ((lx T c1).length) (ints (lx T c1)), .grp 3 1 (gl (A1 ++ B1)), .grp 101 3 (sgN (zs ++ [((.slice A_w11 pn c_w11 : Value), (.slice A_w21 n c_w21 : Value), (.slice A_w31 (L1.length) c_w31 : Value), (-1 : Int), L1, (((lx SV i), D1) : RK), [i])])), .grp 4 1 (dgN n (zs ++ [((.slice A_w11 pn c_w11 : Value), (.slice A_w21 n c_w21 : Value), (.slice A_w31 (L1.length) c_w31 : Value), (-1 : Int), L1, (((lx SV i), D1) : RK), [i])])), .grp 3 1 (pgN pn (zs ++ [((.slice A_w11 pn c_w11 : Value), (.slice A_w21 n c_w21 : Value), (.slice A_w31 (L1.length) c_w31 : Value), (-1 : Int), L1, (((lx SV i), D1) : RK), [i])])), .blk b12 110 [.slice A_w11 pn c_w11, .slice A_w21 n c_w21, .int .i64 (-1), .slice A_w31 (L1.length) c_w31], .own vl 110 4 (zs.length) (ncells zs), .own (.slice (some ⟨b4, 0, none⟩) N3 N3) 28 1 N3 (oc T), .blk b3 48 [.slice none 0 0, .slice none 0 0], .blk b2 39 [.int .i64 Q, .slice Ac n cc], .blk b1 35 [.int .i64 N, .slice Ag m cg]]) ((Weak.selF [6]).trans (Weak.tbOut hAB)) ?_ ⟨_, _, rfl, fun _ => nofun, fun _ => nofun⟩
        refine Run.cut (ι := Value) [39, 40, 41, 42, 43, 44, 45, 46, 47, 48, 49, 50, 51, 52, 53, 54] (fun va1 => []) (fun va1 => [.own va1 3 1 ((lx T c1 ++ [((mkD D1 n : Nat) : Int)]).length) (ints (lx T c1 ++ [((mkD D1 n : Nat) : Int)])), .grp 3 1 (gl (A1 ++ B1)), .grp 101 3 (sgN (zs ++ [((.slice A_w11 pn c_w11 : Value), (.slice A_w21 n c_w21 : Value), (.slice A_w31 (L1.length) c_w31 : Value), (-1 : Int), L1, (((lx SV i), D1) : RK), [i])])), .grp 4 1 (dgN n (zs ++ [((.slice A_w11 pn c_w11 : Value), (.slice A_w21 n c_w21 : Value), (.slice A_w31 (L1.length) c_w31 : Value), (-1 : Int), L1, (((lx SV i), D1) : RK), [i])])), .grp 3 1 (pgN pn (zs ++ [((.slice A_w11 pn c_w11 : Value), (.slice A_w21 n c_w21 : Value), (.slice A_w31 (L1.length) c_w31 : Value), (-1 : Int), L1, (((lx SV i), D1) : RK), [i])])), .blk b12 110 [.slice A_w11 pn c_w11, .slice A_w21 n c_w21, .int .i64 (-1), .slice A_w31 (L1.length) c_w31], .own vl 110 4 (zs.length) (ncells zs), .own (.slice (some ⟨b4, 0, none⟩) N3 N3) 28 1 N3 (oc (T.set c1 ((va1 : Value), lx T c1 ++ [((mkD D1 n : Nat) : Int)]))), .blk b3 48 [.slice none 0 0, .slice none 0 0], .blk b2 39 [.int .i64 Q, .slice Ac n cc], .blk b1 35 [.int .i64 N, .slice Ag m cg]]) (fun va1 => True) ?_ ?_
        · refine Run.lastlyB [16] [.own (.slice (some ⟨b4, 0, none⟩) N3 N3) 28 1 N3 (oc T), .blk b12 110 [.slice A_w11 pn c_w11, .slice A_w21 n c_w21, .int .i64 (-1), .slice A_w31 (L1.length) c_w31]] (by kernel_rfl) ?_
          refine DL.takeP (i := 0) (v := .slice (some ⟨b4, 0, none⟩) N3 N3) rfl (by kernel_rfl) (by kernel_rfl) (by kernel_rfl) (fun _ _ _ h => h) rfl (fun _ => OpY.pure rfl) ?_
          refine DL.takeP (i := 1) (v := .pointer (some ⟨b12, 0, none⟩)) rfl (by kernel_rfl) (by kernel_rfl) (by kernel_rfl) (fun _ _ _ h => h) rfl (fun _ => OpY.fieldAddr Tfo_110_0 rfl rfl) ?_
          refine DL.take (i := 2) (v := .slice A_w11 pn c_w11) rfl (by kernel_rfl) (by kernel_rfl) (by kernel_rfl) (by kernel_rfl) (fun _ _ _ h => h) ((Weak.selF [7, 5]).trans (Some'.weak (.take (.take (.nil _))))) rfl (OpY.load1 Tone_28 rfl (Cells.blk (.tail _ (List.Mem.head _)) ⟨rfl, trivial⟩)) ?_
          refine DL.takeP (i := 4) (v := .slice (some ⟨b4, 0, none⟩) N3 N3) rfl (by kernel_rfl) (by kernel_rfl) (by kernel_rfl) (fun _ _ _ h => h) rfl (fun _ => OpY.pure rfl) ?_
          refine DL.takeP (i := 5) (v := .pointer (some ⟨b12, 0, none⟩)) rfl (by kernel_rfl) (by kernel_rfl) (by kernel_rfl) (fun _ _ _ h => h) rfl (fun _ => OpY.fieldAddr Tfo_110_0 rfl rfl) ?_
          refine DL.take (i := 6) (v := .slice A_w11 pn c_w11) rfl (by kernel_rfl) (by kernel_rfl) (by kernel_rfl) (by kernel_rfl) (fun _ _ _ h => h) ((Weak.selF [7, 5]).trans (Some'.weak (.take (.take (.nil _))))) rfl (OpY.load1 Tone_28 rfl (Cells.blk (.tail _ (List.Mem.head _)) ⟨rfl, trivial⟩)) ?_
          refine DL.takeP (i := 10) (v := .pointer (some ⟨b12, 1, none⟩)) rfl (by kernel_rfl) (by kernel_rfl) (by kernel_rfl) (fun _ _ _ h => h) rfl (fun _ => OpY.fieldAddr Tfo_110_1 rfl rfl) ?_
          refine DL.take (i := 11) (v := .slice A_w21 n c_w21) rfl (by kernel_rfl) (by kernel_rfl) (by kernel_rfl) (by kernel_rfl) (fun _ _ _ h => h) ((Weak.selF [7, 5]).trans (Some'.weak (.take (.take (.nil _))))) rfl (OpY.load1 Tone_85 rfl (Cells.blk (.tail _ (List.Mem.head _)) ⟨rfl, trivial⟩)) ?_
          refine DL.stepS (i := 3) (by kernel_rfl) rfl rfl (OpStep.q (v := .int .i64 (((c1 : Nat) : Int))) (OpQ.call (vs := [.slice A_w11 pn c_w11]) (caps := []) Tcall_65 rfl rfl (fun w hs => (by have h := l23Code_spec (ps := (lx SV i)) hpn.2 (pl_range hN5 hk1.po) (hs.slGrpR (p := pmN pn ((.slice A_w11 pn c_w11 : Value), (.slice A_w21 n c_w21 : Value), (.slice A_w31 (L1.length) c_w31 : Value), (-1 : Int), L1, (((lx SV i), D1) : RK), [i])) (.tail _ (.tail _ (.tail _ (.tail _ (List.Mem.head _))))) (pgN_mem (List.mem_append.2 (.inr (.head _))))); rw [hc1] at h; exact h))) ?_)
          refine ⟨((Weak.selF [7, 5]).trans (Some'.weak (.take (.take (.nil _))))), ?_⟩
          refine DL.stepS (i := 7) (by kernel_rfl) rfl rfl (OpStep.q (v := .int .i64 (((c1 : Nat) : Int))) (OpQ.call (vs := [.slice A_w11 pn c_w11]) (caps := []) Tcall_65 rfl rfl (fun w hs => (by have h := l23Code_spec (ps := (lx SV i)) hpn.2 (pl_range hN5 hk1.po) (hs.slGrpR (p := pmN pn ((.slice A_w11 pn c_w11 : Value), (.slice A_w21 n c_w21 : Value), (.slice A_w31 (L1.length) c_w31 : Value), (-1 : Int), L1, (((lx SV i), D1) : RK), [i])) (.tail _ (.tail _ (.tail _ (.tail _ (List.Mem.head _))))) (pgN_mem (List.mem_append.2 (.inr (.head _))))); rw [hc1] at h; exact h))) ?_)
          refine ⟨((Weak.selF [7, 5]).trans (Some'.weak (.take (.take (.nil _))))), ?_⟩
          refine DL.takeP (i := 8) (v := .pointer (some ⟨b4, c1, none⟩)) rfl (by kernel_rfl) (by kernel_rfl) (by kernel_rfl) (fun _ _ _ h => h) rfl (fun _ => OpY.index (kk := c1) Tsl_68 rfl rfl (by omega) (by omega) (by first | rfl | omega)) ?_
          refine DL.take (i := 9) (v := (vx T (c1))) rfl (by kernel_rfl) (by kernel_rfl) (by kernel_rfl) (by kernel_rfl) (fun _ _ _ h => h) ((Weak.selF [7, 5]).trans (Some'.weak (.take (.take (.nil _))))) rfl (OpY.load1 Tone_28 rfl (Cells.own0 (.head _) (preO (by first | omega | (rw [hTl]; omega))))) ?_
          refine DL.stepS (i := 12) (by kernel_rfl) rfl rfl (OpStep.q (v := .int .i64 (((mkD D1 n : Nat) : Int))) (OpQ.call (vs := [.slice A_w21 n c_w21]) (caps := []) Tcall_66 rfl rfl (fun w hs => l23Mask_spec hn40 (hs.slGrpR (p := dmN n ((.slice A_w11 pn c_w11 : Value), (.slice A_w21 n c_w21 : Value), (.slice A_w31 (L1.length) c_w31 : Value), (-1 : Int), L1, (((lx SV i), D1) : RK), [i])) (.tail _ (.tail _ (.tail _ (List.Mem.head _)))) (dgN_mem (List.mem_append.2 (.inr (.head _))))))) ?_)
          refine ⟨((Weak.selF [7, 5]).trans (Some'.weak (.take (.take (.nil _))))), ?_⟩
          refine DL.stepS (i := 13) (by kernel_rfl) rfl rfl (OpStep.buildSlice (us := [.int .i64 (((mkD D1 n : Nat) : Int))]) Tsl_28 (by decide) (by decide) ⟨rfl, [.int .i64 (((mkD D1 n : Nat) : Int))], _, rfl, rfl, rfl, rfl⟩ rfl fun b17 => ?_)
          refine ⟨((Weak.selF [8, 6]).trans (Some'.weak (.take (.take (.nil _))))), ?_⟩
          refine DL.stepS (i := 14) (by kernel_rfl) rfl rfl (OpStep.append (H1 := [.own (.slice (some ⟨b17, 0, none⟩) 1 1) 3 1 1 ([.int .i64 (((mkD D1 n : Nat) : Int))])]) (H2 := [.grp 3 1 (gl (A1 ++ B1)), .grp 101 3 (sgN (zs ++ [((.slice A_w11 pn c_w11 : Value), (.slice A_w21 n c_w21 : Value), (.slice A_w31 (L1.length) c_w31 : Value), (-1 : Int), L1, (((lx SV i), D1) : RK), [i])])), .grp 4 1 (dgN n (zs ++ [((.slice A_w11 pn c_w11 : Value), (.slice A_w21 n c_w21 : Value), (.slice A_w31 (L1.length) c_w31 : Value), (-1 : Int), L1, (((lx SV i), D1) : RK), [i])])), .grp 3 1 (pgN pn (zs ++ [((.slice A_w11 pn c_w11 : Value), (.slice A_w21 n c_w21 : Value), (.slice A_w31 (L1.length) c_w31 : Value), (-1 : Int), L1, (((lx SV i), D1) : RK), [i])])), .blk b12 110 [.slice A_w11 pn c_w11, .slice A_w21 n c_w21, .int .i64 (-1), .slice A_w31 (L1.length) c_w31], .own vl 110 4 (zs.length) (ncells zs), .own (.slice (some ⟨b4, 0, none⟩) N3 N3) 28 1 N3 (oc T), .blk b3 48 [.slice none 0 0, .slice none 0 0], .blk b2 39 [.int .i64 Q, .slice Ac n cc], .blk b1 35 [.int .i64 N, .slice Ag m cg]]) (v := (vx T (c1))) (u := .slice (some ⟨b17, 0, none⟩) 1 1) (n := (lx T c1).length) (m := 1) (xs := ints (lx T c1)) (ys := [.int .i64 (((mkD D1 n : Nat) : Int))]) Tsl_28 (by decide) rfl rfl rfl rfl (fun w hs => hs.slOwn (.head _)) (by first | exact ints_all _ | simp [Value.oneCell']) (by omega) (by simp only [maxLen]; omega) fun av1 hnav1 => ?_)
          refine DL.weakS (H' := [.own (.slice (some ⟨b17, 0, none⟩) 1 1) 3 1 1 ([.int .i64 (((mkD D1 n : Nat) : Int))]), .own av1 3 1 ((lx T c1 ++ [((mkD D1 n : Nat) : Int)]).length) (ints (lx T c1 ++ [((mkD D1 n : Nat) : Int)])), .grp 3 1 (gl (A1 ++ B1)), .grp 101 3 (sgN (zs ++ [((.slice A_w11 pn c_w11 : Value), (.slice A_w21 n c_w21 : Value), (.slice A_w31 (L1.length) c_w31 : Value), (-1 : Int), L1, (((lx SV i), D1) : RK), [i])])), .grp 4 1 (dgN n (zs ++ [((.slice A_w11 pn c_w11 : Value), (.slice A_w21 n c_w21 : Value), (.slice A_w31 (L1.length) c_w31 : Value), (-1 : Int), L1, (((lx SV i), D1) : RK), [i])])), .grp 3 1 (pgN pn (zs ++ [((.slice A_w11 pn c_w11 : Value), (.slice A_w21 n c_w21 : Value), (.slice A_w31 (L1.length) c_w31 : Value), (-1 : Int), L1, (((lx SV i), D1) : RK), [i])])), .blk b12 110 [.slice A_w11 pn c_w11, .slice A_w21 n c_w21, .int .i64 (-1), .slice A_w31 (L1.length) c_w31], .own vl 110 4 (zs.length) (ncells zs), .own (.slice (some ⟨b4, 0, none⟩) N3 N3) 28 1 N3 (oc T), .blk b3 48 [.slice none 0 0, .slice none 0 0], .blk b2 39 [.int .i64 Q, .slice Ac n cc], .blk b1 35 [.int .i64 N, .slice Ag m cg]]) (Some'.weak (.take (.takeEq (by rw [ints_append]; exact congrArg (fun k => Res.own _ _ _ k _) (by simp)) (.take (.take (.take (.take (.take (.take (.take (.take (.take (.take (.nil _)))))))))))))) ?_
          refine ⟨((Weak.selF [8, 6]).trans (Some'.weak (.take (.take (.nil _))))), ?_⟩
          refine DL.takeP (i := 15) (v := .pointer (some ⟨b4, c1, none⟩)) rfl (by kernel_rfl) (by kernel_rfl) (by kernel_rfl) (fun _ _ _ h => h) rfl (fun _ => OpY.index (kk := c1) Tsl_68 rfl rfl (by omega) (by omega) (by first | rfl | omega)) ?_
          refine DL.formOwn (.tail _ (List.Mem.head _)) (fun A_av11 c_av11 hv hcapc_av11 hmaxc_av11 => ?_)
          subst hv
          refine DL.step (i := 16) (by kernel_rfl) (by kernel_rfl) rfl rfl (OpStep.storeOwn (us := [.slice A_av11 ((lx T c1 ++ [((mkD D1 n : Nat) : Int)]).length) c_av11]) Tsize_28 rfl rfl rfl rfl (by rw [oc_set (T := T) (c := c1) (v := .slice A_av11 ((lx T c1 ++ [((mkD D1 n : Nat) : Int)]).length) c_av11) (l := lx T c1 ++ [((mkD D1 n : Nat) : Int)]) (by omega)]; exact (.there _ (.there _ (.there _ (.there _ (.there _ (.there _ (.there _ (.there _ (.here _)))))))))) (by simp only [List.length_cons, List.length_nil]; omega) ?_)
          refine DL.done (by kernel_rfl) ?_
          refine Run.goal ⟨(by repeat (first | exact Same.refl _ _ | refine Same.put rfl ?_ | refine Same.over rfl rfl ?_)), .slice A_av11 ((lx T c1 ++ [((mkD D1 n : Nat) : Int)]).length) c_av11, ?_, ?_, ?_⟩
          · trivial
          · exact trivial
          · exact ((Weak.selF [1, 1, 1, 1, 1, 1, 1, 1, 1, 1, 1]).trans (Some'.weak (.takeEq (by first | rfl | simp) (.takeEq (by first | rfl | simp) (.takeEq (by first | rfl | simp) (.takeEq (by first | rfl | simp) (.takeEq (by first | rfl | simp) (.take (.takeEq (by first | rfl | simp) (.takeEq (by first | rfl | simp) (.take (.take (.take (.nil _))))))))))))))
        · rintro va1 fr hcut
          show Run _ _ (over _ _ [] fr) [.own va1 3 1 ((lx T c1 ++ [((mkD D1 n : Nat) : Int)]).length) (ints (lx T c1 ++ [((mkD D1 n : Nat) : Int)])), .grp 3 1 (gl (A1 ++ B1)), .grp 101 3 (sgN (zs ++ [((.slice A_w11 pn c_w11 : Value), (.slice A_w21 n c_w21 : Value), (.slice A_w31 (L1.length) c_w31 : Value), (-1 : Int), L1, (((lx SV i), D1) : RK), [i])])), .grp 4 1 (dgN n (zs ++ [((.slice A_w11 pn c_w11 : Value), (.slice A_w21 n c_w21 : Value), (.slice A_w31 (L1.length) c_w31 : Value), (-1 : Int), L1, (((lx SV i), D1) : RK), [i])])), .grp 3 1 (pgN pn (zs ++ [((.slice A_w11 pn c_w11 : Value), (.slice A_w21 n c_w21 : Value), (.slice A_w31 (L1.length) c_w31 : Value), (-1 : Int), L1, (((lx SV i), D1) : RK), [i])])), .blk b12 110 [.slice A_w11 pn c_w11, .slice A_w21 n c_w21, .int .i64 (-1), .slice A_w31 (L1.length) c_w31], .own vl 110 4 (zs.length) (ncells zs), .own (.slice (some ⟨b4, 0, none⟩) N3 N3) 28 1 N3 (oc (T.set c1 ((va1 : Value), lx T c1 ++ [((mkD D1 n : Nat) : Int)]))), .blk b3 48 [.slice none 0 0, .slice none 0 0], .blk b2 39 [.int .i64 Q, .slice Ac n cc], .blk b1 35 [.int .i64 N, .slice Ag m cg]]
          refine Run.weak (H' := [.grp 3 1 (gl (T.set c1 ((va1 : Value), lx T c1 ++ [((mkD D1 n : Nat) : Int)]))), .grp 101 3 (sgN (zs ++ [((.slice A_w11 pn c_w11 : Value), (.slice A_w21 n c_w21 : Value), (.slice A_w31 (L1.length) c_w31 : Value), (-1 : Int), L1, (((lx SV i), D1) : RK), [i])])), .grp 4 1 (dgN n (zs ++ [((.slice A_w11 pn c_w11 : Value), (.slice A_w21 n c_w21 : Value), (.slice A_w31 (L1.length) c_w31 : Value), (-1 : Int), L1, (((lx SV i), D1) : RK), [i])])), .grp 3 1 (pgN pn (zs ++ [((.slice A_w11 pn c_w11 : Value), (.slice A_w21 n c_w21 : Value), (.slice A_w31 (L1.length) c_w31 : Value), (-1 : Int), L1, (((lx SV i), D1) : RK), [i])])), .blk b12 110 [.slice A_w11 pn c_w11, .slice A_w21 n c_w21, .int .i64 (-1), .slice A_w31 (L1.length) c_w31], .own vl 110 4 (zs.length) (ncells zs), .own (.slice (some ⟨b4, 0, none⟩) N3 N3) 28 1 N3 (oc (T.set c1 ((va1 : Value), lx T c1 ++ [((mkD D1 n : Nat) : Int)]))), .blk b3 48 [.slice none 0 0, .slice none 0 0], .blk b2 39 [.int .i64 Q, .slice Ac n cc], .blk b1 35 [.int .i64 N, .slice Ag m cg]]) ((Weak.refl _).trans (Weak.tbIn hset)) ?_ ⟨_, _, rfl, fun _ => nofun, fun _ => nofun⟩
          refine Run.region ?_
          refine Run.q (v := vl) rfl (OpQ.y (OpY.pure rfl)) ?_
          refine Run.q (v := .agg #[.slice A_w11 pn c_w11, .slice A_w21 n c_w21, .int .i64 (-1), .slice A_w31 (L1.length) c_w31]) rfl (OpQ.y (OpY.loadN (cs := [.slice A_w11 pn c_w11, .slice A_w21 n c_w21, .int .i64 (-1), .slice A_w31 (L1.length) c_w31]) Tagg_110 rfl (Cells.blk (.tail _ (.tail _ (.tail _ (.tail _ (List.Mem.head _))))) ⟨rfl, rfl, rfl, rfl, trivial⟩))) ?_
          refine Run.step rfl (OpStep.buildSlice (us := [.slice A_w11 pn c_w11, .slice A_w21 n c_w21, .int .i64 (-1), .slice A_w31 (L1.length) c_w31]) Tsl_108 (by decide) (by decide) ⟨rfl, [.slice A_w11 pn c_w11, .slice A_w21 n c_w21, .int .i64 (-1), .slice A_w31 (L1.length) c_w31], _, rfl, rfl, rfl, rfl⟩ rfl fun b18 => ?_)
          refine Run.step rfl (OpStep.append (H1 := [.own (.slice (some ⟨b18, 0, none⟩) 1 1) 110 4 1 ([.slice A_w11 pn c_w11, .slice A_w21 n c_w21, .int .i64 (-1), .slice A_w31 (L1.length) c_w31]), .grp 3 1 (gl (T.set c1 ((va1 : Value), lx T c1 ++ [((mkD D1 n : Nat) : Int)]))), .grp 101 3 (sgN (zs ++ [((.slice A_w11 pn c_w11 : Value), (.slice A_w21 n c_w21 : Value), (.slice A_w31 (L1.length) c_w31 : Value), (-1 : Int), L1, (((lx SV i), D1) : RK), [i])])), .grp 4 1 (dgN n (zs ++ [((.slice A_w11 pn c_w11 : Value), (.slice A_w21 n c_w21 : Value), (.slice A_w31 (L1.length) c_w31 : Value), (-1 : Int), L1, (((lx SV i), D1) : RK), [i])])), .grp 3 1 (pgN pn (zs ++ [((.slice A_w11 pn c_w11 : Value), (.slice A_w21 n c_w21 : Value), (.slice A_w31 (L1.length) c_w31 : Value), (-1 : Int), L1, (((lx SV i), D1) : RK), [i])])), .blk b12 110 [.slice A_w11 pn c_w11, .slice A_w21 n c_w21, .int .i64 (-1), .slice A_w31 (L1.length) c_w31]]) (H2 := [.own (.slice (some ⟨b4, 0, none⟩) N3 N3) 28 1 N3 (oc (T.set c1 ((va1 : Value), lx T c1 ++ [((mkD D1 n : Nat) : Int)]))), .blk b3 48 [.slice none 0 0, .slice none 0 0], .blk b2 39 [.int .i64 Q, .slice Ac n cc], .blk b1 35 [.int .i64 N, .slice Ag m cg]]) (v := vl) (u := .slice (some ⟨b18, 0, none⟩) 1 1) (n := zs.length) (m := 1) (xs := ncells zs) (ys := [.slice A_w11 pn c_w11, .slice A_w21 n c_w21, .int .i64 (-1), .slice A_w31 (L1.length) c_w31]) Tsl_108 (by decide) rfl rfl rfl rfl (fun w hs => hs.slOwn (.head _)) (by simp [Value.oneCell', ncell]) (by omega) (by simp only [maxLen]; omega) fun av2 hnav2 => ?_)
          refine Run.weak (H' := [.own (.slice (some ⟨b18, 0, none⟩) 1 1) 110 4 1 ([.slice A_w11 pn c_w11, .slice A_w21 n c_w21, .int .i64 (-1), .slice A_w31 (L1.length) c_w31]), .grp 3 1 (gl (T.set c1 ((va1 : Value), lx T c1 ++ [((mkD D1 n : Nat) : Int)]))), .grp 101 3 (sgN (zs ++ [((.slice A_w11 pn c_w11 : Value), (.slice A_w21 n c_w21 : Value), (.slice A_w31 (L1.length) c_w31 : Value), (-1 : Int), L1, (((lx SV i), D1) : RK), [i])])), .grp 4 1 (dgN n (zs ++ [((.slice A_w11 pn c_w11 : Value), (.slice A_w21 n c_w21 : Value), (.slice A_w31 (L1.length) c_w31 : Value), (-1 : Int), L1, (((lx SV i), D1) : RK), [i])])), .grp 3 1 (pgN pn (zs ++ [((.slice A_w11 pn c_w11 : Value), (.slice A_w21 n c_w21 : Value), (.slice A_w31 (L1.length) c_w31 : Value), (-1 : Int), L1, (((lx SV i), D1) : RK), [i])])), .blk b12 110 [.slice A_w11 pn c_w11, .slice A_w21 n c_w21, .int .i64 (-1), .slice A_w31 (L1.length) c_w31], .own av2 110 4 ((zs ++ [((.slice A_w11 pn c_w11 : Value), (.slice A_w21 n c_w21 : Value), (.slice A_w31 (L1.length) c_w31 : Value), (-1 : Int), L1, (((lx SV i), D1) : RK), [i])]).length) (ncells (zs ++ [((.slice A_w11 pn c_w11 : Value), (.slice A_w21 n c_w21 : Value), (.slice A_w31 (L1.length) c_w31 : Value), (-1 : Int), L1, (((lx SV i), D1) : RK), [i])])), .own (.slice (some ⟨b4, 0, none⟩) N3 N3) 28 1 N3 (oc (T.set c1 ((va1 : Value), lx T c1 ++ [((mkD D1 n : Nat) : Int)]))), .blk b3 48 [.slice none 0 0, .slice none 0 0], .blk b2 39 [.int .i64 Q, .slice Ac n cc], .blk b1 35 [.int .i64 N, .slice Ag m cg]]) (Some'.weak (.take (.take (.take (.take (.take (.take (.takeEq (by rw [ncells_snoc]; exact congrArg (fun k => Res.own _ _ _ k _) (by simp)) (.take (.take (.take (.take (.nil _))))))))))))) ?_ ⟨_, _, rfl, fun _ => nofun, fun _ => nofun⟩
          refine Run.q (v := av2) rfl (OpQ.y (OpY.pure rfl)) ?_
          refine Run.done ?_
          refine Run.blockEnd ?_
          refine Run.region ?_
          refine Run.q (v := .int .i64 ((((i : Nat) : Int)) + 1)) rfl (OpQ.y (OpY.add rfl rfl rfl (by omega) (by omega))) ?_
          refine Run.q (v := .int .i64 ((((i : Nat) : Int)) + 1)) rfl (OpQ.y (OpY.pure rfl)) ?_
          refine Run.done ?_
          refine Run.goal ⟨(by repeat (first | exact Same.refl _ _ | refine Same.put rfl ?_ | refine Same.over rfl rfl ?_)), (i + 1, av2, T.set c1 ((va1 : Value), lx T c1 ++ [((mkD D1 n : Nat) : Int)]), zs ++ [((.slice A_w11 pn c_w11 : Value), (.slice A_w21 n c_w21 : Value), (.slice A_w31 (L1.length) c_w31 : Value), (-1 : Int), L1, (((lx SV i), D1) : RK), [i])]), ?_, ?_, ?_, ?_⟩
          · refine ⟨hi, ?_, hlk.snoc (.inl ⟨rfl, i, rfl, hlx i, by show L1 = _; rw [← hL1, ← hlx]; rfl⟩), by rw [nk_snoc]; exact htb.snoc hc1 (by omega)⟩
            have hki : i < (mKeys es m xs n sts).length := by rw [List.length_map]; omega
            rw [nk_snoc, hzq, ← List.take_append_getElem hki, st0_snoc, List.length_take, Nat.min_eq_left (by omega), Nat.zero_add]
            have h2 : (mKeys es m xs n sts)[i] = (lx SV i, D1) := by
              rw [← hS1, List.getElem_map, hlx]
              simp [List.getD, show i < sts.length by omega]
            rw [h2]
          · show SV.length - (i + 1) < SV.length - i; omega
          · exact ⟨(by first | rfl | (congr 1; omega) | simp), (by first | rfl | (congr 1; omega) | simp), trivial⟩
          · exact ((Weak.selF [6, 4, 3, 2, 3, 1, 2, 2, 2]).trans (Some'.weak (.takeEq (by first | rfl | simp) (.takeEq (by first | rfl | simp) (.takeEq (by first | rfl | simp) (.takeEq (by first | rfl | simp) (.takeEq (by first | rfl | simp) (.takeEq (by first | rfl | simp) (.take (.take (.take (.nil _))))))))))))
    · have p26 := h26; try simp only [bs] at p26
      obtain ⟨_, hzq, hlk, htb⟩ := hinv
      have hi : i = SV.length := by omega
      have hQ0 : nk zs = bfsL (kstep es m xs n) m (st0 (mKeys es m xs n sts) 0) 0 := by rw [hzq, List.take_of_length_le (by omega)]; rfl
      refine Run.exit rfl ?_
      refine Run.seq ?_
      refine Run.region ?_
      refine Run.q (v := .pointer (some ⟨b2, 1, none⟩)) rfl (OpQ.y (OpY.fieldAddr Tfo_39_1 rfl rfl)) ?_
      refine Run.q (v := .slice Ac n cc) rfl (OpQ.y (OpY.load1 Tone_37 rfl (Cells.blk (.tail _ (.tail _ (.tail _ (.tail _ (.tail _ (.tail _ (.tail _ (List.Mem.head _)))))))) ⟨rfl, trivial⟩))) ?_
      refine Run.q (v := .int .i64 (((n : Nat) : Int))) rfl (OpQ.y (OpY.len Tsl_37 rfl)) ?_
      refine Run.q (v := .int .u64 (((n : Nat) : Int))) rfl (OpQ.y (OpY.convIntEq Tsome_3 Tint_114 rfl (by rw [IntKind.wrap_u64]; omega))) ?_
      refine Run.q (v := .int .i64 (((q0 : Nat) : Int))) rfl (OpQ.y (OpY.shlOneB rfl rfl rfl (by omega) hq0)) ?_
      refine Run.q (v := .int .i64 (((gq : Nat) : Int))) rfl (OpQ.y (OpY.sub rfl rfl (by omega) (by omega) (by omega))) ?_
      refine Run.q (v := .int .i64 (((gq : Nat) : Int))) rfl (OpQ.y (OpY.pure rfl)) ?_
      refine Run.done ?_
      refine Run.seq ?_
      refine Run.seq ?_
      refine Run.region ?_
      refine Run.q (v := .int .i64 0) rfl (OpQ.y (OpY.pure rfl)) ?_
      refine Run.done ?_
      refine Run.block ?_
      refine Run.loop (ι := Nat × Value × List (Value × List Int) × List NZ) ([7, 9, 14, 15, 16, 18, 19, 20, 21, 66, 67, 68, 69, 70, 71, 72, 73, 74, 75, 76, 77, 78, 79, 80, 81, 82, 83, 84, 85, 86, 87, 88, 89, 90, 91, 92, 93, 94, 95, 96, 97, 98, 99, 100, 101, 102, 103, 104, 105, 106] ++ [107, 108, 109, 110, 111, 112, 113, 114, 115, 116, 117, 118, 119, 120, 121, 122, 123, 124, 125, 126, 127, 128, 129, 130, 131, 132, 133, 134, 135, 136, 137, 138, 139, 140, 141, 142, 143, 144, 145, 146, 147, 148, 149, 150, 151, 152, 153, 154, 155, 156] ++ [157, 158, 159, 160, 161, 162, 163, 164, 165, 166, 167]) (fun ⟨ai, vl, T, zs⟩ => [(9, vl), (14, .int .i64 (((ai : Nat) : Int)))]) (fun ⟨ai, vl, T, zs⟩ => [.own vl 110 4 (zs.length) (ncells zs), .grp 3 1 (pgN pn zs), .grp 4 1 (dgN n zs), .grp 101 3 (sgN zs), .own (.slice (some ⟨b4, 0, none⟩) N3 N3) 28 1 N3 (oc T), .grp 3 1 (gl T), .blk b3 48 [.slice none 0 0, .slice none 0 0], .blk b2 39 [.int .i64 Q, .slice Ac n cc], .blk b1 35 [.int .i64 N, .slice Ag m cg]]) (fun ⟨ai, vl, T, zs⟩ => ai ≤ 12800000 ∧ nk zs = bfsL (kstep es m xs n) m (st0 (mKeys es m xs n sts) 0) ai ∧ LkN es m xs n sts zs ∧ TbOk N3 pn n T (nk zs) ∧ ∀ j, j < ai → ∀ z, zs[j]? = some z → allD z.2.2.2.2.2.1.2 n = false) (fun ⟨ai, vl, T, zs⟩ => 12800001 - ai) (0, vl, T, zs) ?_ ?_ ?_ ?_
      · exact ⟨Nat.zero_le _, hQ0, hlk, htb, fun j hj => absurd hj (by omega)⟩
      · exact ⟨rfl, rfl, trivial⟩
      · exact ((Weak.refl _).trans (Some'.weak (.take (.take (.take (.take (.take (.take (.take (.take (.take (.nil _))))))))))))
      · rintro ⟨ai, vl, T, zs⟩ fr hinv
        show Run _ _ (over _ _ [(9, vl), (14, .int .i64 (((ai : Nat) : Int)))] fr) [.own vl 110 4 (zs.length) (ncells zs), .grp 3 1 (pgN pn zs), .grp 4 1 (dgN n zs), .grp 101 3 (sgN zs), .own (.slice (some ⟨b4, 0, none⟩) N3 N3) 28 1 N3 (oc T), .grp 3 1 (gl T), .blk b3 48 [.slice none 0 0, .slice none 0 0], .blk b2 39 [.int .i64 Q, .slice Ac n cc], .blk b1 35 [.int .i64 N, .slice Ag m cg]]
        try dsimp only at hinv
        refine Run.seq ?_
        refine Run.seq ?_
        refine Run.region ?_
        refine Run.q (v := .int .i64 (((ai : Nat) : Int))) rfl (OpQ.y (OpY.pure rfl)) ?_
        refine Run.q (v := vl) rfl (OpQ.y (OpY.pure rfl)) ?_
        refine Run.formOwn (.head _) (fun A_vl1 c_vl1 hv hcapc_vl1 hmaxc_vl1 => ?_) (fun _ _ _ => ⟨nofun, nofun, nofun⟩)
        subst hv
        refine Run.q (v := .int .i64 (((zs.length : Nat) : Int))) rfl (OpQ.y (OpY.len Tsl_108 rfl)) ?_
        refine Run.q (v := .bool (decide ((((ai : Nat) : Int)) < (((zs.length : Nat) : Int))))) rfl (OpQ.y (OpY.pure rfl)) ?_
        refine Run.done ?_
        refine Run.cond (b := decide ((((ai : Nat) : Int)) < (((zs.length : Nat) : Int)))) rfl (fun h69 => ?_) (fun h69 => ?_)
        · have p69 := h69; try simp only [bs] at p69
          have hai : ai < zs.length := by omega
          obtain ⟨hai0, hzq, hlk, htb, hzn⟩ := hinv
          obtain ⟨⟨gvp, gvd, gvs, gf, gw, ⟨gk, gd⟩, gp⟩, hz⟩ : ∃ z, zs[ai]? = some z := ⟨_, List.getElem?_eq_getElem hai⟩
          have hzx : (bfsL (kstep es m xs n) m (st0 (mKeys es m xs n sts) 0) ai)[ai]? = some ((gk, gd), gp) := by rw [← hzq, nk, List.getElem?_map, hz]; rfl
          have hzM : zs.length ≤ 12800000 := by have h := hbl ai; rw [← hzq, nk, List.length_map] at h; exact h
          have hkz : KOk N Q pn n xs (gk, gd) := hbk ai _ (List.mem_of_getElem? hzx)
          have hTl := htb.len
          have hpl2 : gp.length ≤ ai + 1 := bfsL_plen hkn ai ai _ hzx
          have hform : ∀ z ∈ zs, NF es m xs n sts z.2.2.2.2.2.1 z.2.2.2.2.2.2 := fun z hzm => NF_of (i := ai) (y := z.2.2.2.2.2) (by rw [← hzq]; exact List.mem_map.2 ⟨z, hzm, rfl⟩)
          refine Run.formMem (.tail _ (List.Mem.head _)) (pgN_mem (pn := pn) (List.mem_of_getElem? hz)) (fun gA1 gc1 hgv => ?_) (fun _ _ _ => ⟨nofun, nofun, nofun⟩)
          simp only [pmN] at hgv
          subst hgv
          refine Run.formMem (.tail _ (.tail _ (List.Mem.head _))) (dgN_mem (n := n) (List.mem_of_getElem? hz)) (fun gA2 gc2 hgv => ?_) (fun _ _ _ => ⟨nofun, nofun, nofun⟩)
          simp only [dmN] at hgv
          subst hgv
          refine Run.formMem (.tail _ (.tail _ (.tail _ (List.Mem.head _)))) (sgN_mem (List.mem_of_getElem? hz)) (fun gA3 gc3 hgv => ?_) (fun _ _ _ => ⟨nofun, nofun, nofun⟩)
          simp only [smN] at hgv
          subst hgv
          refine Run.openOwn (.head _) (by omega) (fun gz cz hvgz hcapgz _ => ?_) (fun _ _ _ => ⟨nofun, nofun, nofun⟩)
          injection hvgz with hAgz _ hcgz; subst hAgz; subst hcgz
          refine Run.skip ?_
          refine Run.seq ?_
          refine Run.block ?_
          refine Run.seq ?_
          refine Run.seq ?_
          refine Run.region ?_
          refine Run.q (v := .slice (some ⟨gz, 0, none⟩) (zs.length) c_vl1) rfl (OpQ.y (OpY.pure rfl)) ?_
          refine Run.q (v := .int .i64 (((ai : Nat) : Int))) rfl (OpQ.y (OpY.pure rfl)) ?_
          refine Run.q (v := .pointer (some ⟨gz, ai * 4, none⟩)) rfl (OpQ.y (OpY.index (kk := ai) Tsl_108 rfl rfl (by omega) (by omega) (by first | rfl | omega))) ?_
          refine Run.q (v := .pointer (some ⟨gz, ai * 4 + 1, none⟩)) rfl (OpQ.y (OpY.fieldAddr Tfo_110_1 rfl rfl)) ?_
          refine Run.q (v := .slice gA2 n gc2) rfl (OpQ.y (OpY.load1 Tone_85 rfl (Cells.own0 (.head _) (preN_sub (o := 1) (preN hz) rfl)))) ?_
          refine Run.q (v := .int .i64 (((mkD gd n : Nat) : Int))) rfl (OpQ.call (vs := [.slice gA2 n gc2]) (caps := []) Tcall_66 rfl rfl (fun w hs => l23Mask_spec hn40 (hs.slGrpR (p := dmN n ((.slice gA1 pn gc1 : Value), (.slice gA2 n gc2 : Value), (.slice gA3 (gw.length) gc3 : Value), gf, gw, ((gk, gd) : RK), gp)) (.tail _ (.tail _ (List.Mem.head _))) (dgN_mem (List.mem_of_getElem? hz))))) ?_
          refine Run.q (v := .int .i64 (((gq : Nat) : Int))) rfl (OpQ.y (OpY.pure rfl)) ?_
          refine Run.q (v := .bool ((((mkD gd n : Nat) : Int)) == (((gq : Nat) : Int)))) rfl (OpQ.y (OpY.pure rfl)) ?_
          refine Run.done ?_
          refine Run.cond (b := (((mkD gd n : Nat) : Int)) == (((gq : Nat) : Int))) rfl (fun h79 => ?_) (fun h79 => ?_)
          · have p79 := h79; try simp only [bs] at p79
            have hall : allD gd n = true := mkD_all.1 (by rw [← hq0, ← hgq]; omega)
            have hmr : mR M es m xs n sts = some gp := mP_some (i := ai) (by omega) hzx hall (fun j hj y hy => by
              rw [← hzq, nk, List.getElem?_map] at hy
              cases hzj : zs[j]? with
              | none => rw [hzj] at hy; cases hy
              | some z => rw [hzj] at hy; cases hy; exact hzn j hj z hzj)
            have hyes := mR_yes hmr
            have hfl : (fulS es m xs n sts gp).length ≤ 13000000 := by
              have h := ful_len hes hn40 hks (hform _ (List.mem_of_getElem? hz))
              simp only at h; omega
            refine Run.seq ?_
            refine Run.region ?_
            refine Run.step rfl (OpStep.alloc (zs := [.slice none 0 0, .slice none 0 0]) Tzero_48 fun b19 => ?_)
            refine Run.done ?_
            refine Run.seq ?_
            refine Run.seq ?_
            refine Run.region ?_
            refine Run.q (v := .int .i64 (((ai : Nat) : Int))) rfl (OpQ.y (OpY.pure rfl)) ?_
            refine Run.q (v := .int .i64 (((ai : Nat) : Int))) rfl (OpQ.y (OpY.pure rfl)) ?_
            refine Run.done ?_
            refine Run.block ?_
            refine Run.weak (H' := [.own (.slice none 0 0) 3 1 0 ([]), .blk b19 48 [.slice none 0 0, .slice none 0 0], .own (.slice (some ⟨gz, 0, none⟩) (zs.length) c_vl1) 110 4 (zs.length) (ncells zs), .grp 3 1 (pgN pn zs), .grp 4 1 (dgN n zs), .grp 101 3 (sgN zs), .own (.slice (some ⟨b4, 0, none⟩) N3 N3) 28 1 N3 (oc T), .grp 3 1 (gl T), .blk b3 48 [.slice none 0 0, .slice none 0 0], .blk b2 39 [.int .i64 Q, .slice Ac n cc], .blk b1 35 [.int .i64 N, .slice Ag m cg]]) (Weak.nilOwn _ _) ?_ ⟨_, _, rfl, fun _ => nofun, fun _ => nofun⟩
            refine Run.weak (H' := [.own (.slice none 0 0) 101 3 0 ([]), .own (.slice none 0 0) 3 1 0 ([]), .blk b19 48 [.slice none 0 0, .slice none 0 0], .own (.slice (some ⟨gz, 0, none⟩) (zs.length) c_vl1) 110 4 (zs.length) (ncells zs), .grp 3 1 (pgN pn zs), .grp 4 1 (dgN n zs), .grp 101 3 (sgN zs), .own (.slice (some ⟨b4, 0, none⟩) N3 N3) 28 1 N3 (oc T), .grp 3 1 (gl T), .blk b3 48 [.slice none 0 0, .slice none 0 0], .blk b2 39 [.int .i64 Q, .slice Ac n cc], .blk b1 35 [.int .i64 N, .slice Ag m cg]]) (Weak.nilOwn _ _) ?_ ⟨_, _, rfl, fun _ => nofun, fun _ => nofun⟩
            refine Run.loop (ι := Int × List T3 × List Int × Value × Value) [16, 81, 82, 83, 84, 85, 86, 87, 88, 89, 90, 91, 92, 93, 94, 95, 96, 97, 98, 99, 100, 101, 102, 103, 104, 105] (fun ⟨kk, T3_, S3, vr1, vr2⟩ => [(16, .int .i64 kk)]) (fun ⟨kk, T3_, S3, vr1, vr2⟩ => [.own vr1 3 1 (S3.length) (ints S3), .own vr2 101 3 (T3_.length) (ints (fl3 T3_)), .own (.slice (some ⟨gz, 0, none⟩) (zs.length) c_vl1) 110 4 (zs.length) (ncells zs), .grp 3 1 (pgN pn zs), .grp 4 1 (dgN n zs), .grp 101 3 (sgN zs), .blk b19 48 [vr1, vr2], .blk b3 48 [.slice none 0 0, .slice none 0 0], .blk b2 39 [.int .i64 Q, .slice Ac n cc], .blk b1 35 [.int .i64 N, .slice Ag m cg]]) (fun ⟨kk, T3_, S3, vr1, vr2⟩ => OutN es m xs n sts zs gp kk T3_ S3 ∧ kk < 12800001) (fun ⟨kk, T3_, S3, vr1, vr2⟩ => (kk + 1).toNat) (((ai : Nat) : Int), [], [], .slice none 0 0, .slice none 0 0) ?_ ?_ ?_ ?_
            · exact ⟨.inl ⟨ai, _, [], rfl, hz, by simp, by simp⟩, by omega⟩
            · exact ⟨rfl, trivial⟩
            · exact ((Weak.selF [1, 0, 1, 1, 1, 1, 0, 2, 2, 2]).trans (Some'.weak (.takeEq (by first | rfl | simp) (.takeEq (by first | rfl | simp) (.take (.take (.take (.take (.takeEq (by first | rfl | simp) (.take (.take (.take (.nil _)))))))))))))
            · rintro ⟨kk, T3_, S3, vr1, vr2⟩ fr hinv
              show Run _ _ (over _ _ [(16, .int .i64 kk)] fr) [.own vr1 3 1 (S3.length) (ints S3), .own vr2 101 3 (T3_.length) (ints (fl3 T3_)), .own (.slice (some ⟨gz, 0, none⟩) (zs.length) c_vl1) 110 4 (zs.length) (ncells zs), .grp 3 1 (pgN pn zs), .grp 4 1 (dgN n zs), .grp 101 3 (sgN zs), .blk b19 48 [vr1, vr2], .blk b3 48 [.slice none 0 0, .slice none 0 0], .blk b2 39 [.int .i64 Q, .slice Ac n cc], .blk b1 35 [.int .i64 N, .slice Ag m cg]]
              try dsimp only at hinv
              refine Run.seq ?_
              refine Run.seq ?_
              refine Run.region ?_
              refine Run.q (v := .int .i64 kk) rfl (OpQ.y (OpY.pure rfl)) ?_
              refine Run.q (v := .bool (decide (kk ≥ 0))) rfl (OpQ.y (OpY.pure rfl)) ?_
              refine Run.done ?_
              refine Run.cond (b := decide (kk ≥ 0)) rfl (fun h82 => ?_) (fun h82 => ?_)
              · have p82 := h82; try simp only [bs] at p82
                obtain ⟨hoi, hom⟩ := hinv
                obtain ⟨f, ⟨oa, ob, oc_, ofr, ow_, ⟨ok_, od_⟩, op_⟩, r3, hkf, hzf, hw, hfu⟩ : ∃ (f : Nat) (y : NZ) (r : List Nat), kk = (f : Int) ∧ zs[f]? = some y ∧ gp = y.2.2.2.2.2.2 ++ r ∧ fulS es m xs n sts gp = fulS es m xs n sts y.2.2.2.2.2.2 ++ T3_ := by
                  rcases hoi with h | ⟨h, _⟩
                  · exact h
                  · omega
                have hfl2 : f < zs.length := (List.getElem?_eq_some_iff.1 hzf).1
                obtain ⟨hstep, hge, hless, hlen⟩ := OutN.step hlk hform hzf hw hfu
                simp only at hstep hge hless hlen
                have hokl : ok_.length = pn := (hbk ai ((ok_, od_), op_) (by rw [← hzq]; exact List.mem_map.2 ⟨_, List.mem_of_getElem? hzf, rfl⟩)).pl
                refine Run.skip ?_
                refine Run.seq ?_
                refine Run.block ?_
                refine Run.seq ?_
                refine Run.region ?_
                refine Run.q (v := .slice (some ⟨gz, 0, none⟩) (zs.length) c_vl1) rfl (OpQ.y (OpY.pure rfl)) ?_
                refine Run.q (v := .int .i64 kk) rfl (OpQ.y (OpY.pure rfl)) ?_
                refine Run.q (v := .pointer (some ⟨gz, f * 4, none⟩)) rfl (OpQ.y (OpY.index (kk := f) Tsl_108 rfl rfl (by omega) (by omega) (by first | rfl | omega))) ?_
                refine Run.q (v := .pointer (some ⟨gz, f * 4, none⟩)) rfl (OpQ.y (OpY.fieldAddr Tfo_110_0 rfl rfl)) ?_
                refine Run.q (v := oa) rfl (OpQ.y (OpY.load1 Tone_28 rfl (Cells.own0 (.tail _ (.tail _ (List.Mem.head _))) (preN_sub (o := 0) (preN hzf) rfl)))) ?_
                refine Run.step rfl (OpStep.call (vs := [oa]) (caps := []) Tcall_64 rfl rfl (fun w hs => (by have h := l1Own_spec (n := pn) (xs := ok_) (by omega) (hs.slGrpR (p := pmN pn (oa, ob, oc_, ofr, ow_, ((ok_, od_) : RK), op_)) (.tail _ (.tail _ (.tail _ (List.Mem.head _)))) (pgN_mem (List.mem_of_getElem? hzf))); rw [← hokl] at h; exact h)) ?_)
                rintro uo _ rfl
                show Run _ _ (putF _ _ _ uo) [.own uo 3 1 (ok_.length) (ints ok_), .own vr1 3 1 (S3.length) (ints S3), .own vr2 101 3 (T3_.length) (ints (fl3 T3_)), .own (.slice (some ⟨gz, 0, none⟩) (zs.length) c_vl1) 110 4 (zs.length) (ncells zs), .grp 3 1 (pgN pn zs), .grp 4 1 (dgN n zs), .grp 101 3 (sgN zs), .blk b19 48 [vr1, vr2], .blk b3 48 [.slice none 0 0, .slice none 0 0], .blk b2 39 [.int .i64 Q, .slice Ac n cc], .blk b1 35 [.int .i64 N, .slice Ag m cg]]
                refine Run.q (v := .pointer (some ⟨b19, 0, none⟩)) rfl (OpQ.y (OpY.fieldAddr Tfo_48_0 rfl rfl)) ?_
                refine Run.formOwn (.head _) (fun A_uo7 c_uo7 hv hcapc_uo7 hmaxc_uo7 => ?_) (fun _ _ _ => ⟨nofun, nofun, nofun⟩)
                subst hv
                refine Run.step rfl (OpStep.store (us := [.slice A_uo7 (ok_.length) c_uo7]) Tsize_28 rfl rfl rfl (.there _ (.there _ (.there _ (.there _ (.there _ (.there _ (.there _ (.here _)))))))) (by simp only [List.length_cons, List.length_nil]; omega) ?_)
                show Run _ _ _ [.own (.slice A_uo7 (ok_.length) c_uo7) 3 1 (ok_.length) (ints ok_), .own vr1 3 1 (S3.length) (ints S3), .own vr2 101 3 (T3_.length) (ints (fl3 T3_)), .own (.slice (some ⟨gz, 0, none⟩) (zs.length) c_vl1) 110 4 (zs.length) (ncells zs), .grp 3 1 (pgN pn zs), .grp 4 1 (dgN n zs), .grp 101 3 (sgN zs), .blk b19 48 [.slice A_uo7 (ok_.length) c_uo7, vr2], .blk b3 48 [.slice none 0 0, .slice none 0 0], .blk b2 39 [.int .i64 Q, .slice Ac n cc], .blk b1 35 [.int .i64 N, .slice Ag m cg]]
                refine Run.done ?_
                refine Run.lastlyB [11] [.blk b19 48 [.slice A_uo7 (ok_.length) c_uo7, vr2], .own (.slice (some ⟨gz, 0, none⟩) (zs.length) c_vl1) 110 4 (zs.length) (ncells zs)] (by kernel_rfl) ?_
                refine DL.takeP (i := 1) (v := .slice (some ⟨gz, 0, none⟩) (zs.length) c_vl1) rfl (by kernel_rfl) (by kernel_rfl) (by kernel_rfl) (fun _ _ _ h => h) rfl (fun _ => OpY.pure rfl) ?_
                refine DL.takeP (i := 2) (v := .int .i64 kk) rfl (by kernel_rfl) (by kernel_rfl) (by kernel_rfl) (fun _ _ _ h => h) rfl (fun _ => OpY.pure rfl) ?_
                refine DL.takeP (i := 3) (v := .pointer (some ⟨gz, f * 4, none⟩)) rfl (by kernel_rfl) (by kernel_rfl) (by kernel_rfl) (fun _ _ _ h => h) rfl (fun _ => OpY.index (kk := f) Tsl_108 rfl rfl (by omega) (by omega) (by first | rfl | omega)) ?_
                refine DL.takeP (i := 4) (v := .pointer (some ⟨gz, f * 4 + 3, none⟩)) rfl (by kernel_rfl) (by kernel_rfl) (by kernel_rfl) (fun _ _ _ h => h) rfl (fun _ => OpY.fieldAddr Tfo_110_3 rfl rfl) ?_
                refine DL.take (i := 5) (v := oc_) rfl (by kernel_rfl) (by kernel_rfl) (by kernel_rfl) (by kernel_rfl) (fun _ _ _ h => h) ((Weak.selF [7, 3]).trans (Some'.weak (.take (.take (.nil _))))) rfl (OpY.load1 Tone_46 rfl (Cells.own0 (.tail _ (List.Mem.head _)) (preN_sub (o := 3) (preN hzf) rfl))) ?_
                refine DL.takeP (i := 7) (v := .pointer (some ⟨b19, 1, none⟩)) rfl (by kernel_rfl) (by kernel_rfl) (by kernel_rfl) (fun _ _ _ h => h) rfl (fun _ => OpY.fieldAddr Tfo_48_1 rfl rfl) ?_
                refine DL.take (i := 8) (v := vr2) rfl (by kernel_rfl) (by kernel_rfl) (by kernel_rfl) (by kernel_rfl) (fun _ _ _ h => h) ((Weak.selF [7, 3]).trans (Some'.weak (.take (.take (.nil _))))) rfl (OpY.load1 Tone_46 rfl (Cells.blk (.head _) ⟨rfl, trivial⟩)) ?_
                refine DL.stepS (i := 0) (by kernel_rfl) rfl rfl (OpStep.buildSlice (us := []) Tsl_46 (by decide) (by decide) rfl rfl fun b20 => ?_)
                refine ⟨((Weak.selF [8, 4]).trans (Some'.weak (.take (.take (.nil _))))), ?_⟩
                refine DL.stepS (i := 6) (by kernel_rfl) rfl rfl (OpStep.append (H1 := []) (H2 := [.own (.slice A_uo7 (ok_.length) c_uo7) 3 1 (ok_.length) (ints ok_), .own vr1 3 1 (S3.length) (ints S3), .own vr2 101 3 (T3_.length) (ints (fl3 T3_)), .own (.slice (some ⟨gz, 0, none⟩) (zs.length) c_vl1) 110 4 (zs.length) (ncells zs), .grp 3 1 (pgN pn zs), .grp 4 1 (dgN n zs), .grp 101 3 (sgN zs), .blk b19 48 [.slice A_uo7 (ok_.length) c_uo7, vr2], .blk b3 48 [.slice none 0 0, .slice none 0 0], .blk b2 39 [.int .i64 Q, .slice Ac n cc], .blk b1 35 [.int .i64 N, .slice Ag m cg]]) (v := .slice (some ⟨b20, 0, none⟩) 0 0) (u := oc_) (n := 0) (m := ow_.length) (xs := []) (ys := ints (fl3 ow_)) Tsl_46 (by decide) rfl rfl rfl rfl (fun w hs => hs.slGrpR (p := smN (oa, ob, oc_, ofr, ow_, ((ok_, od_) : RK), op_)) (by repeat (first | exact List.Mem.head _ | apply List.Mem.tail)) (sgN_mem (List.mem_of_getElem? hzf))) (by exact ints_all _) (by omega) (by simp only [maxLen]; omega) fun av3 hnav3 => ?_)
                refine DL.weakS (H' := [.own av3 101 3 (ow_.length) (ints (fl3 ow_)), .own (.slice A_uo7 (ok_.length) c_uo7) 3 1 (ok_.length) (ints ok_), .own vr1 3 1 (S3.length) (ints S3), .own vr2 101 3 (T3_.length) (ints (fl3 T3_)), .own (.slice (some ⟨gz, 0, none⟩) (zs.length) c_vl1) 110 4 (zs.length) (ncells zs), .grp 3 1 (pgN pn zs), .grp 4 1 (dgN n zs), .grp 101 3 (sgN zs), .blk b19 48 [.slice A_uo7 (ok_.length) c_uo7, vr2], .blk b3 48 [.slice none 0 0, .slice none 0 0], .blk b2 39 [.int .i64 Q, .slice Ac n cc], .blk b1 35 [.int .i64 N, .slice Ag m cg]]) (Some'.weak (.takeEq (by simp) (.take (.take (.take (.take (.take (.take (.take (.take (.take (.take (.take (.nil _)))))))))))))) ?_
                refine ⟨((Weak.selF [8, 4]).trans (Some'.weak (.take (.take (.nil _))))), ?_⟩
                refine DL.stepS (i := 9) (by kernel_rfl) rfl rfl (OpStep.append (H1 := []) (H2 := [.own (.slice A_uo7 (ok_.length) c_uo7) 3 1 (ok_.length) (ints ok_), .own vr1 3 1 (S3.length) (ints S3), .own vr2 101 3 (T3_.length) (ints (fl3 T3_)), .own (.slice (some ⟨gz, 0, none⟩) (zs.length) c_vl1) 110 4 (zs.length) (ncells zs), .grp 3 1 (pgN pn zs), .grp 4 1 (dgN n zs), .grp 101 3 (sgN zs), .blk b19 48 [.slice A_uo7 (ok_.length) c_uo7, vr2], .blk b3 48 [.slice none 0 0, .slice none 0 0], .blk b2 39 [.int .i64 Q, .slice Ac n cc], .blk b1 35 [.int .i64 N, .slice Ag m cg]]) (v := av3) (u := vr2) (n := ow_.length) (m := T3_.length) (xs := ints (fl3 ow_)) (ys := ints (fl3 T3_)) Tsl_46 (by decide) rfl rfl rfl rfl (fun w hs => hs.slOwn (.tail _ (.tail _ (.tail _ (List.Mem.head _))))) (by exact ints_all _) (by omega) (by simp only [maxLen]; omega) fun av4 hnav4 => ?_)
                refine DL.weakS (H' := [.own av4 101 3 ((ow_ ++ T3_).length) (ints (fl3 (ow_ ++ T3_))), .own (.slice A_uo7 (ok_.length) c_uo7) 3 1 (ok_.length) (ints ok_), .own vr1 3 1 (S3.length) (ints S3), .own vr2 101 3 (T3_.length) (ints (fl3 T3_)), .own (.slice (some ⟨gz, 0, none⟩) (zs.length) c_vl1) 110 4 (zs.length) (ncells zs), .grp 3 1 (pgN pn zs), .grp 4 1 (dgN n zs), .grp 101 3 (sgN zs), .blk b19 48 [.slice A_uo7 (ok_.length) c_uo7, vr2], .blk b3 48 [.slice none 0 0, .slice none 0 0], .blk b2 39 [.int .i64 Q, .slice Ac n cc], .blk b1 35 [.int .i64 N, .slice Ag m cg]]) (Some'.weak (.takeEq (by rw [fl3_append, ints_append]; exact congrArg (fun k => Res.own _ _ _ k _) (by simp)) (.take (.take (.take (.take (.take (.take (.take (.take (.take (.take (.take (.nil _)))))))))))))) ?_
                refine ⟨((Weak.selF [8, 4]).trans (Some'.weak (.take (.take (.nil _))))), ?_⟩
                refine DL.takeP (i := 10) (v := .pointer (some ⟨b19, 1, none⟩)) rfl (by kernel_rfl) (by kernel_rfl) (by kernel_rfl) (fun _ _ _ h => h) rfl (fun _ => OpY.fieldAddr Tfo_48_1 rfl rfl) ?_
                refine DL.formOwn (.head _) (fun A_av41 c_av41 hv hcapc_av41 hmaxc_av41 => ?_)
                subst hv
                refine DL.step (i := 11) (by kernel_rfl) (by kernel_rfl) rfl rfl (OpStep.store (us := [.slice A_av41 ((ow_ ++ T3_).length) c_av41]) Tsize_46 rfl rfl rfl (.there _ (.there _ (.there _ (.there _ (.there _ (.there _ (.there _ (.there _ (.here _))))))))) (by simp only [List.length_cons, List.length_nil]; omega) ?_)
                show DL _ _ _ _ _ _ _ _ [.own (.slice A_av41 ((ow_ ++ T3_).length) c_av41) 101 3 ((ow_ ++ T3_).length) (ints (fl3 (ow_ ++ T3_))), .own (.slice A_uo7 (ok_.length) c_uo7) 3 1 (ok_.length) (ints ok_), .own vr1 3 1 (S3.length) (ints S3), .own vr2 101 3 (T3_.length) (ints (fl3 T3_)), .own (.slice (some ⟨gz, 0, none⟩) (zs.length) c_vl1) 110 4 (zs.length) (ncells zs), .grp 3 1 (pgN pn zs), .grp 4 1 (dgN n zs), .grp 101 3 (sgN zs), .blk b19 48 [.slice A_uo7 (ok_.length) c_uo7, .slice A_av41 ((ow_ ++ T3_).length) c_av41], .blk b3 48 [.slice none 0 0, .slice none 0 0], .blk b2 39 [.int .i64 Q, .slice Ac n cc], .blk b1 35 [.int .i64 N, .slice Ag m cg]]
                refine DL.done (by kernel_rfl) ?_
                refine Run.blockEnd ?_
                refine Run.region ?_
                refine Run.q (v := .slice (some ⟨gz, 0, none⟩) (zs.length) c_vl1) rfl (OpQ.y (OpY.pure rfl)) ?_
                refine Run.q (v := .int .i64 kk) rfl (OpQ.y (OpY.pure rfl)) ?_
                refine Run.q (v := .pointer (some ⟨gz, f * 4, none⟩)) rfl (OpQ.y (OpY.index (kk := f) Tsl_108 rfl rfl (by omega) (by omega) (by first | rfl | omega))) ?_
                refine Run.q (v := .pointer (some ⟨gz, f * 4 + 2, none⟩)) rfl (OpQ.y (OpY.fieldAddr Tfo_110_2 rfl rfl)) ?_
                refine Run.q (v := .int .i64 ofr) rfl (OpQ.y (OpY.load1 Tone_3 rfl (Cells.own0 (.tail _ (.tail _ (.tail _ (.tail _ (List.Mem.head _))))) (preN_sub (o := 2) (preN hzf) rfl)))) ?_
                refine Run.q (v := .int .i64 ofr) rfl (OpQ.y (OpY.pure rfl)) ?_
                refine Run.done ?_
                refine Run.goal ⟨(by repeat (first | exact Same.refl _ _ | refine Same.put rfl ?_ | refine Same.over rfl rfl ?_)), (ofr, ow_ ++ T3_, ok_, .slice A_uo7 (ok_.length) c_uo7, .slice A_av41 ((ow_ ++ T3_).length) c_av41), ?_, ?_, ?_, ?_⟩
                · exact ⟨hstep, by omega⟩
                · show (ofr + 1).toNat < (kk + 1).toNat; omega
                · exact ⟨(by first | rfl | (congr 1; omega) | simp), trivial⟩
                · exact ((Weak.selF [1, 0, 2, 2, 2, 2, 2, 2, 2, 2]).trans (Some'.weak (.takeEq (by first | rfl | simp) (.takeEq (by first | rfl | simp) (.takeEq (by first | rfl | simp) (.takeEq (by first | rfl | simp) (.takeEq (by first | rfl | simp) (.takeEq (by first | rfl | simp) (.takeEq (by first | rfl | simp) (.take (.take (.take (.nil _)))))))))))))
              · have p82 := h82; try simp only [bs] at p82
                obtain ⟨hoi, hom⟩ := hinv
                have hfin : fulS es m xs n sts gp = T3_ ∧ S3 = sts.getD (gp.headD 0) [] := by
                  rcases hoi with ⟨f, _, _, h, _⟩ | ⟨_, h1, h2⟩
                  · omega
                  · exact ⟨h1, h2⟩
                refine Run.exit rfl ?_
                refine Run.seq ?_
                refine Run.region ?_
                refine Run.q (v := .agg #[vr1, vr2]) rfl (OpQ.y (OpY.loadN (cs := [vr1, vr2]) Tagg_48 rfl (Cells.blk (.tail _ (.tail _ (.tail _ (.tail _ (.tail _ (.tail _ (List.Mem.head _))))))) ⟨rfl, rfl, trivial⟩))) ?_
                refine Run.formOwn (.head _) (fun A_vr11 c_vr11 hv hcapc_vr11 hmaxc_vr11 => ?_) (fun _ _ _ => ⟨nofun, nofun, nofun⟩)
                subst hv
                refine Run.formOwn (.tail _ (List.Mem.head _)) (fun A_vr21 c_vr21 hv hcapc_vr21 hmaxc_vr21 => ?_) (fun _ _ _ => ⟨nofun, nofun, nofun⟩)
                subst hv
                refine Run.step rfl (OpStep.storeAll (us := [.slice A_vr11 (S3.length) c_vr11, .slice A_vr21 (T3_.length) c_vr21]) Tsize_48 rfl rfl rfl (.there _ (.there _ (.there _ (.there _ (.there _ (.there _ (.there _ (.here _)))))))) rfl ?_)
                refine Run.q (v := .bool true) rfl (OpQ.y (OpY.pure rfl)) ?_
                refine Run.done ?_
                refine Run.ret ?_
                refine ⟨.tuple #[.agg #[.slice A_vr11 (S3.length) c_vr11, .slice A_vr21 (T3_.length) c_vr21], .bool true], [.own (.slice A_vr11 (S3.length) c_vr11) 3 1 (S3.length) (ints S3), .own (.slice A_vr21 (T3_.length) c_vr21) 101 3 (T3_.length) (ints (fl3 T3_))], Out.cell2 (cs := [.slice A_vr11 (S3.length) c_vr11, .slice A_vr21 (T3_.length) c_vr21]) rfl Tagg_48 rfl (Cells.blk (.tail _ (.tail _ (.tail _ (.tail _ (.tail _ (.tail _ (.tail _ (List.Mem.head _)))))))) ⟨rfl, rfl, trivial⟩) rfl, (Some'.weak (.take (.take (.nil _)))), ?_⟩
                exact ⟨_, _, by rw [hyes.1], by rw [hyes.2.1, hyes.2.2, ← hfin.2, hfin.1]⟩
          · have p79 := h79; try simp only [bs] at p79
            have hnall : allD gd n = false := by
              cases h : allD gd n with
              | false => rfl
              | true => exact absurd (mkD_all.2 h) (by rw [← hq0, ← hgq]; omega)
            refine Run.skip ?_
            refine Run.seq ?_
            refine Run.region ?_
            refine Run.q (v := .pointer (some ⟨b1, 1, none⟩)) rfl (OpQ.y (OpY.fieldAddr Tfo_35_1 rfl rfl)) ?_
            refine Run.q (v := .slice Ag m cg) rfl (OpQ.y (OpY.load1 Tone_33 rfl (Cells.blk (.tail _ (.tail _ (.tail _ (.tail _ (.tail _ (.tail _ (.tail _ (.tail _ (List.Mem.head _))))))))) ⟨rfl, trivial⟩))) ?_
            refine Run.q (v := .int .i64 (((m : Nat) : Int))) rfl (OpQ.y (OpY.len Tsl_33 rfl)) ?_
            refine Run.q (v := .int .i64 0) rfl (OpQ.y (OpY.pure rfl)) ?_
            refine Run.done ?_
            refine Run.block ?_
            refine Run.loop (ι := Nat × Value × List (Value × List Int) × List NZ) ([9, 18, 19, 20, 21, 110, 111, 112, 113, 114, 115, 116, 117, 118, 119, 120, 121, 122, 123, 124, 125, 126, 127, 128, 129, 130, 131, 132, 133, 134, 135, 136, 137, 138, 139, 140, 141, 142, 143, 144, 145, 146, 147, 148, 149, 150, 151, 152, 153, 154] ++ [155, 156, 157, 158, 159, 160, 161, 162, 163, 164, 165, 166, 167]) (fun ⟨ki, vl2, T2, zs2⟩ => [(9, vl2), (110, .int .i64 (((ki : Nat) : Int)))]) (fun ⟨ki, vl2, T2, zs2⟩ => [.own vl2 110 4 (zs2.length) (ncells zs2), .grp 3 1 (pgN pn zs2), .grp 4 1 (dgN n zs2), .grp 101 3 (sgN zs2), .own (.slice (some ⟨b4, 0, none⟩) N3 N3) 28 1 N3 (oc T2), .grp 3 1 (gl T2), .blk b3 48 [.slice none 0 0, .slice none 0 0], .blk b2 39 [.int .i64 Q, .slice Ac n cc], .blk b1 35 [.int .i64 N, .slice Ag m cg]]) (fun ⟨ki, vl2, T2, zs2⟩ => ki ≤ m ∧ nk zs2 = brow (kstep es m xs n) (fun _ => true) ((gk, gd), gp) (bfsL (kstep es m xs n) m (st0 (mKeys es m xs n sts) 0) ai) ki ∧ LkN es m xs n sts zs2 ∧ TbOk N3 pn n T2 (nk zs2) ∧ ∃ t, zs2 = zs ++ t) (fun ⟨ki, vl2, T2, zs2⟩ => m - ki) (0, .slice (some ⟨gz, 0, none⟩) (zs.length) c_vl1, T, zs) ?_ ?_ ?_ ?_
            · exact ⟨Nat.zero_le _, hzq, hlk, htb, [], by simp⟩
            · exact ⟨rfl, rfl, trivial⟩
            · exact ((Weak.refl _).trans (Some'.weak (.takeEq (by first | rfl | simp) (.takeEq (by first | rfl | simp) (.takeEq (by first | rfl | simp) (.takeEq (by first | rfl | simp) (.takeEq (by first | rfl | simp) (.takeEq (by first | rfl | simp) (.take (.take (.take (.nil _))))))))))))
            · rintro ⟨ki, vl2, T2, zs2⟩ fr hinv
              show Run _ _ (over _ _ [(9, vl2), (110, .int .i64 (((ki : Nat) : Int)))] fr) [.own vl2 110 4 (zs2.length) (ncells zs2), .grp 3 1 (pgN pn zs2), .grp 4 1 (dgN n zs2), .grp 101 3 (sgN zs2), .own (.slice (some ⟨b4, 0, none⟩) N3 N3) 28 1 N3 (oc T2), .grp 3 1 (gl T2), .blk b3 48 [.slice none 0 0, .slice none 0 0], .blk b2 39 [.int .i64 Q, .slice Ac n cc], .blk b1 35 [.int .i64 N, .slice Ag m cg]]
              try dsimp only at hinv
              refine Run.seq ?_
              refine Run.region ?_
              refine Run.q (v := .bool (decide ((((ki : Nat) : Int)) < (((m : Nat) : Int))))) rfl (OpQ.y (OpY.pure rfl)) ?_
              refine Run.done ?_
              refine Run.seq ?_
              refine Run.cond (b := decide ((((ki : Nat) : Int)) < (((m : Nat) : Int)))) rfl (fun h111 => ?_) (fun h111 => ?_)
              · have p111 := h111; try simp only [bs] at p111
                have hki : ki < m := by omega
                obtain ⟨_, hzq2, hlk2, htb2, ⟨tz, htz⟩⟩ := hinv
                obtain ⟨tq, htq⟩ := bfsL_in hzx (show ki ≤ m by omega)
                have hkall : ∀ y ∈ nk zs2, KOk N Q pn n xs y.1 := fun y hy => hbk (ai + 1) y (by rw [htq]; rw [hzq2] at hy; exact List.mem_append.2 (.inl hy))
                have hzM2 : zs2.length ≤ 12800000 := by
                  have h := hbl (ai + 1)
                  have h2 : (nk zs2).length ≤ (bfsL (kstep es m xs n) m (st0 (mKeys es m xs n sts) 0) (ai + 1)).length := by rw [hzq2, htq, List.length_append]; exact Nat.le_add_right _ _
                  rw [nk, List.length_map] at h2; omega
                have hz2 : zs2[ai]? = some ((.slice gA1 pn gc1 : Value), (.slice gA2 n gc2 : Value), (.slice gA3 (gw.length) gc3 : Value), gf, gw, ((gk, gd) : RK), gp) := by rw [htz, List.getElem?_append_left hai]; exact hz
                have hzm2 := List.mem_of_getElem? hz2
                have hai2 : ai < zs2.length := (List.getElem?_eq_some_iff.1 hz2).1
                have hTl2 := htb2.len
                have hedge := (of_decide_eq_true hes) ki hki
                have hknk0 := kstep_ok hes hki hkz
                obtain ⟨⟨ky, kd⟩, hkk⟩ : ∃ k, kstep es m xs n (gk, gd) ki = k := ⟨_, rfl⟩
                have hknk : KOk N Q pn n xs (ky, kd) := by rw [hkk] at hknk0; exact hknk0
                have hky : swL (ix es (ki * 2)) (ix es (ki * 2 + 1)) gk = ky := congrArg Prod.fst hkk
                have hkd : (advS (goB es m xs ky) n gd [((-1, ix es (ki * 2), ix es (ki * 2 + 1)) : T3)]).1 = kd := by rw [← hky, adv_same _ _ []]; exact congrArg Prod.snd hkk
                have hko : (advS (goB es m xs ky) n gd [((-1, ix es (ki * 2), ix es (ki * 2 + 1)) : T3)]).2 = (owS es m xs n (gk, gd) ki) := by rw [← hky]; rfl
                have hink : HIN n pn xs ky := hin_of hci hknk.po
                obtain ⟨kc_, hkcl, hkc⟩ := cd_at hN5 hpn.2 hknk
                have hfew2 := htb2.few kc_ (by omega)
                have hnkl2 : (nk zs2).length = zs2.length := List.length_map _
                have hmkk := mkD_lt kd n
                rw [← hq0] at hmkk
                have hrow : brow (kstep es m xs n) (fun _ => true) ((gk, gd), gp) (bfsL (kstep es m xs n) m (st0 (mKeys es m xs n sts) 0) ai) (ki + 1) = bvis (kstep es m xs n) (fun _ => true) ((gk, gd), gp) (brow (kstep es m xs n) (fun _ => true) ((gk, gd), gp) (bfsL (kstep es m xs n) m (st0 (mKeys es m xs n sts) 0) ai) ki) ki := rfl
                obtain ⟨bg, og, rfl⟩ := hg.opn (by omega)
                refine Run.openOwn (.head _) (by omega) (fun gz2 cz2 hvgz2 hcapgz2 _ => ?_) (fun _ _ _ => ⟨nofun, nofun, nofun⟩)
                subst hvgz2
                refine Run.skip ?_
                refine Run.seq ?_
                refine Run.block ?_
                refine Run.seq ?_
                refine Run.region ?_
                refine Run.q (v := .pointer (some ⟨bg, og + ki * 2, none⟩)) rfl (OpQ.y (OpY.index (kk := ki) Tsl_33 rfl rfl (by omega) (by omega) (by first | rfl | omega))) ?_
                refine Run.q (v := .agg #[.int .i64 (ix es (ki * 2)), .int .i64 (ix es (ki * 2 + 1))]) rfl (OpQ.y (OpY.loadN (cs := [.int .i64 (ix es (ki * 2)), .int .i64 (ix es (ki * 2 + 1))]) Tagg_77 rfl (Cells.arg (k := ki * 2) hg rfl (by omega) (pre2 (by omega))))) ?_
                refine Run.step rfl (OpStep.alloc (zs := [.int .i64 0, .int .i64 0]) Tzero_77 fun b21 => ?_)
                refine Run.step rfl (OpStep.storeAll (us := [.int .i64 (ix es (ki * 2)), .int .i64 (ix es (ki * 2 + 1))]) Tsize_77 rfl rfl rfl (.here _) rfl ?_)
                refine Run.done ?_
                refine Run.seq ?_
                refine Run.cut (ι := Nat × Value × Value × Value) [19, 114, 115, 116, 117, 118, 119, 120, 121, 122, 123, 124, 125, 126, 127, 128, 129, 130, 131, 132, 133, 134, 135, 136, 137, 138, 139] (fun ⟨b19, y1, y2, y3⟩ => [(19, .pointer (some ⟨b19, 0, none⟩))]) (fun ⟨b19, y1, y2, y3⟩ => [.blk b19 110 [y1, y2, .int .i64 (((ai : Nat) : Int)), y3], .own y1 3 1 pn (ints ky), .own y2 4 1 n (bls kd), .own y3 101 3 ((owS es m xs n (gk, gd) ki).length) (ints (fl3 (owS es m xs n (gk, gd) ki))), .own (.slice (some ⟨gz2, 0, none⟩) (zs2.length) cz2) 110 4 (zs2.length) (ncells zs2), .grp 3 1 (pgN pn zs2), .grp 4 1 (dgN n zs2), .grp 101 3 (sgN zs2), .own (.slice (some ⟨b4, 0, none⟩) N3 N3) 28 1 N3 (oc T2), .grp 3 1 (gl T2), .blk b21 77 [.int .i64 (ix es (ki * 2)), .int .i64 (ix es (ki * 2 + 1))], .blk b3 48 [.slice none 0 0, .slice none 0 0], .blk b2 39 [.int .i64 Q, .slice Ac n cc], .blk b1 35 [.int .i64 N, .slice (some ⟨bg, og, none⟩) m cg]]) (fun ⟨b19, y1, y2, y3⟩ => True) ?_ ?_
                · refine Run.heldB (base := [.blk b21 77 [.int .i64 (ix es (ki * 2)), .int .i64 (ix es (ki * 2 + 1))], .blk b3 48 [.slice none 0 0, .slice none 0 0], .blk b2 39 [.int .i64 Q, .slice Ac n cc], .blk b1 35 [.int .i64 N, .slice (some ⟨bg, og, none⟩) m cg], .own (.slice (some ⟨gz2, 0, none⟩) (zs2.length) cz2) 110 4 (zs2.length) (ncells zs2)]) (by kernel_rfl) ?_
                  refine DW.take (i := 0) (v := .agg #[.int .i64 N, .slice (some ⟨bg, og, none⟩) m cg]) rfl (by kernel_rfl) (by kernel_rfl) (by kernel_rfl) (fun _ _ _ h => h) ((Weak.selF [0, 6, 6, 6, 0]).trans (Some'.weak (.take (.take (.take (.take (.take (.nil _)))))))) rfl (OpY.loadN (cs := [.int .i64 N, .slice (some ⟨bg, og, none⟩) m cg]) Tagg_35 rfl (Cells.blk (.tail _ (.tail _ (.tail _ (List.Mem.head _)))) ⟨rfl, rfl, trivial⟩)) ?_
                  refine DW.take (i := 1) (v := .agg #[.int .i64 Q, .slice Ac n cc]) rfl (by kernel_rfl) (by kernel_rfl) (by kernel_rfl) (fun _ _ _ h => h) ((Weak.selF [0, 6, 6, 6, 0]).trans (Some'.weak (.take (.take (.take (.take (.take (.nil _)))))))) rfl (OpY.loadN (cs := [.int .i64 Q, .slice Ac n cc]) Tagg_39 rfl (Cells.blk (.tail _ (.tail _ (List.Mem.head _))) ⟨rfl, rfl, trivial⟩)) ?_
                  refine DW.take (i := 2) (v := .slice (some ⟨gz2, 0, none⟩) (zs2.length) cz2) rfl (by kernel_rfl) (by kernel_rfl) (by kernel_rfl) (fun _ _ _ h => h) ((Weak.selF [0, 6, 6, 6, 0]).trans (Some'.weak (.take (.take (.take (.take (.take (.nil _)))))))) rfl (OpY.pure rfl) ?_
                  refine DW.take (i := 3) (v := .int .i64 (((ai : Nat) : Int))) rfl (by kernel_rfl) (by kernel_rfl) (by kernel_rfl) (fun _ _ _ h => h) ((Weak.selF [0, 6, 6, 6, 0]).trans (Some'.weak (.take (.take (.take (.take (.take (.nil _)))))))) rfl (OpY.pure rfl) ?_
                  refine DW.take (i := 4) (v := .pointer (some ⟨gz2, ai * 4, none⟩)) rfl (by kernel_rfl) (by kernel_rfl) (by kernel_rfl) (fun _ _ _ h => h) ((Weak.selF [0, 6, 6, 6, 0]).trans (Some'.weak (.take (.take (.take (.take (.take (.nil _)))))))) rfl (OpY.index (kk := ai) Tsl_108 rfl rfl (by omega) (by omega) (by first | rfl | omega)) ?_
                  refine DW.take (i := 5) (v := .pointer (some ⟨gz2, ai * 4, none⟩)) rfl (by kernel_rfl) (by kernel_rfl) (by kernel_rfl) (fun _ _ _ h => h) ((Weak.selF [0, 6, 6, 6, 0]).trans (Some'.weak (.take (.take (.take (.take (.take (.nil _)))))))) rfl (OpY.fieldAddr Tfo_110_0 rfl rfl) ?_
                  refine DW.take (i := 6) (v := .slice gA1 pn gc1) rfl (by kernel_rfl) (by kernel_rfl) (by kernel_rfl) (fun _ _ _ h => h) ((Weak.selF [0, 6, 6, 6, 0]).trans (Some'.weak (.take (.take (.take (.take (.take (.nil _)))))))) rfl (OpY.load1 Tone_28 rfl (Cells.own0 (.tail _ (.tail _ (.tail _ (.tail _ (List.Mem.head _))))) (preN_sub (o := 0) (preN hz2) rfl))) ?_
                  refine DW.take (i := 7) (v := .pointer (some ⟨b21, 0, none⟩)) rfl (by kernel_rfl) (by kernel_rfl) (by kernel_rfl) (fun _ _ _ h => h) ((Weak.selF [0, 6, 6, 6, 0]).trans (Some'.weak (.take (.take (.take (.take (.take (.nil _)))))))) rfl (OpY.fieldAddr Tfo_77_0 rfl rfl) ?_
                  refine DW.take (i := 8) (v := .int .i64 (ix es (ki * 2))) rfl (by kernel_rfl) (by kernel_rfl) (by kernel_rfl) (fun _ _ _ h => h) ((Weak.selF [0, 6, 6, 6, 0]).trans (Some'.weak (.take (.take (.take (.take (.take (.nil _)))))))) rfl (OpY.load1 Tone_3 rfl (Cells.blk (.head _) ⟨rfl, trivial⟩)) ?_
                  refine DW.take (i := 9) (v := .pointer (some ⟨b21, 1, none⟩)) rfl (by kernel_rfl) (by kernel_rfl) (by kernel_rfl) (fun _ _ _ h => h) ((Weak.selF [0, 6, 6, 6, 0]).trans (Some'.weak (.take (.take (.take (.take (.take (.nil _)))))))) rfl (OpY.fieldAddr Tfo_77_1 rfl rfl) ?_
                  refine DW.take (i := 10) (v := .int .i64 (ix es (ki * 2 + 1))) rfl (by kernel_rfl) (by kernel_rfl) (by kernel_rfl) (fun _ _ _ h => h) ((Weak.selF [0, 6, 6, 6, 0]).trans (Some'.weak (.take (.take (.take (.take (.take (.nil _)))))))) rfl (OpY.load1 Tone_3 rfl (Cells.blk (.head _) ⟨rfl, trivial⟩)) ?_
                  refine DW.take (i := 12) (v := .slice (some ⟨gz2, 0, none⟩) (zs2.length) cz2) rfl (by kernel_rfl) (by kernel_rfl) (by kernel_rfl) (fun _ _ _ h => h) ((Weak.selF [0, 6, 6, 6, 0]).trans (Some'.weak (.take (.take (.take (.take (.take (.nil _)))))))) rfl (OpY.pure rfl) ?_
                  refine DW.take (i := 13) (v := .int .i64 (((ai : Nat) : Int))) rfl (by kernel_rfl) (by kernel_rfl) (by kernel_rfl) (fun _ _ _ h => h) ((Weak.selF [0, 6, 6, 6, 0]).trans (Some'.weak (.take (.take (.take (.take (.take (.nil _)))))))) rfl (OpY.pure rfl) ?_
                  refine DW.take (i := 14) (v := .pointer (some ⟨gz2, ai * 4, none⟩)) rfl (by kernel_rfl) (by kernel_rfl) (by kernel_rfl) (fun _ _ _ h => h) ((Weak.selF [0, 6, 6, 6, 0]).trans (Some'.weak (.take (.take (.take (.take (.take (.nil _)))))))) rfl (OpY.index (kk := ai) Tsl_108 rfl rfl (by omega) (by omega) (by first | rfl | omega)) ?_
                  refine DW.take (i := 15) (v := .pointer (some ⟨gz2, ai * 4 + 1, none⟩)) rfl (by kernel_rfl) (by kernel_rfl) (by kernel_rfl) (fun _ _ _ h => h) ((Weak.selF [0, 6, 6, 6, 0]).trans (Some'.weak (.take (.take (.take (.take (.take (.nil _)))))))) rfl (OpY.fieldAddr Tfo_110_1 rfl rfl) ?_
                  refine DW.take (i := 16) (v := .slice gA2 n gc2) rfl (by kernel_rfl) (by kernel_rfl) (by kernel_rfl) (fun _ _ _ h => h) ((Weak.selF [0, 6, 6, 6, 0]).trans (Some'.weak (.take (.take (.take (.take (.take (.nil _)))))))) rfl (OpY.load1 Tone_85 rfl (Cells.own0 (.tail _ (.tail _ (.tail _ (.tail _ (List.Mem.head _))))) (preN_sub (o := 1) (preN hz2) rfl))) ?_
                  refine DW.take (i := 17) (v := .int .i64 (((ai : Nat) : Int))) rfl (by kernel_rfl) (by kernel_rfl) (by kernel_rfl) (fun _ _ _ h => h) ((Weak.selF [0, 6, 6, 6, 0]).trans (Some'.weak (.take (.take (.take (.take (.take (.nil _)))))))) rfl (OpY.pure rfl) ?_
                  refine DW.take (i := 18) (v := .pointer (some ⟨b21, 0, none⟩)) rfl (by kernel_rfl) (by kernel_rfl) (by kernel_rfl) (fun _ _ _ h => h) ((Weak.selF [0, 6, 6, 6, 0]).trans (Some'.weak (.take (.take (.take (.take (.take (.nil _)))))))) rfl (OpY.fieldAddr Tfo_77_0 rfl rfl) ?_
                  refine DW.take (i := 19) (v := .int .i64 (ix es (ki * 2))) rfl (by kernel_rfl) (by kernel_rfl) (by kernel_rfl) (fun _ _ _ h => h) ((Weak.selF [0, 6, 6, 6, 0]).trans (Some'.weak (.take (.take (.take (.take (.take (.nil _)))))))) rfl (OpY.load1 Tone_3 rfl (Cells.blk (.head _) ⟨rfl, trivial⟩)) ?_
                  refine DW.take (i := 20) (v := .pointer (some ⟨b21, 1, none⟩)) rfl (by kernel_rfl) (by kernel_rfl) (by kernel_rfl) (fun _ _ _ h => h) ((Weak.selF [0, 6, 6, 6, 0]).trans (Some'.weak (.take (.take (.take (.take (.take (.nil _)))))))) rfl (OpY.fieldAddr Tfo_77_1 rfl rfl) ?_
                  refine DW.take (i := 21) (v := .int .i64 (ix es (ki * 2 + 1))) rfl (by kernel_rfl) (by kernel_rfl) (by kernel_rfl) (fun _ _ _ h => h) ((Weak.selF [0, 6, 6, 6, 0]).trans (Some'.weak (.take (.take (.take (.take (.take (.nil _)))))))) rfl (OpY.load1 Tone_3 rfl (Cells.blk (.head _) ⟨rfl, trivial⟩)) ?_
                  refine DW.take (i := 22) (v := .agg #[.int .i64 (-1), .int .i64 (ix es (ki * 2)), .int .i64 (ix es (ki * 2 + 1))]) rfl (by kernel_rfl) (by kernel_rfl) (by kernel_rfl) (fun _ _ _ h => h) ((Weak.selF [0, 6, 6, 6, 0]).trans (Some'.weak (.take (.take (.take (.take (.take (.nil _)))))))) rfl (OpY.build (cs := [.int .i64 (-1), .int .i64 (ix es (ki * 2)), .int .i64 (ix es (ki * 2 + 1))]) (by kernel_rfl)) ?_
                  refine DW.three (i := 11) (j := 23) (l := 26) (by kernel_rfl) rfl rfl rfl rfl rfl rfl ?_ ?_ ?_
                  · refine OpStep.call (vs := [.slice gA1 pn gc1, .int .i64 (ix es (ki * 2)), .int .i64 (ix es (ki * 2 + 1))]) (caps := []) Tcall_67 rfl rfl (fun w hs => (by have h := l23Swap_spec (a := ix es (ki * 2)) (b := ix es (ki * 2 + 1)) (by omega) hpn.1 (hs.slGrpR (p := pmN pn ((.slice gA1 pn gc1 : Value), (.slice gA2 n gc2 : Value), (.slice gA3 (gw.length) gc3 : Value), gf, gw, ((gk, gd) : RK), gp)) (.tail _ (.tail _ (List.Mem.head _))) (pgN_mem hzm2)); rw [show swL (ix es (ki * 2)) (ix es (ki * 2 + 1)) _ = ky from hky] at h; exact h)) ?_
                    rintro uk _ rfl
                    refine ⟨((Weak.selF [1, 7, 7, 7, 1]).trans (Some'.weak (.take (.take (.take (.take (.take (.nil _)))))))), ?_⟩
                    refine DW.two (i := 23) (j := 26) (by kernel_rfl) rfl rfl rfl rfl ?_ ?_
                    · refine OpStep.buildSlice (us := [.int .i64 (-1), .int .i64 (ix es (ki * 2)), .int .i64 (ix es (ki * 2 + 1))]) Tsl_46 (by decide) (by decide) ⟨rfl, [.int .i64 (-1), .int .i64 (ix es (ki * 2)), .int .i64 (ix es (ki * 2 + 1))], _, rfl, rfl, rfl, rfl⟩ rfl fun b22 => ?_
                      refine ⟨((Weak.selF [2, 8, 8, 8, 2]).trans (Some'.weak (.take (.take (.take (.take (.take (.nil _)))))))), ?_⟩
                      refine DW.formOwn (.tail _ (List.Mem.head _)) (fun A_uk1 c_uk1 hv hcapc_uk1 hmaxc_uk1 => ?_)
                      subst hv
                      refine DW.take (i := 24) (v := .agg #[.slice A_uk1 pn c_uk1, .slice gA2 n gc2, .int .i64 (((ai : Nat) : Int)), .slice (some ⟨b22, 0, none⟩) 1 1]) rfl (by kernel_rfl) (by kernel_rfl) (by kernel_rfl) (fun _ _ _ h => h) ((Weak.selF [2, 8, 8, 8, 2]).trans (Some'.weak (.take (.take (.take (.take (.take (.nil _)))))))) rfl (OpY.build (cs := [.slice A_uk1 pn c_uk1, .slice gA2 n gc2, .int .i64 (((ai : Nat) : Int)), .slice (some ⟨b22, 0, none⟩) 1 1]) (by kernel_rfl)) ?_
                      refine DW.two (i := 25) (j := 26) (by kernel_rfl) rfl rfl rfl rfl ?_ ?_
                      · refine OpStep.callM (H1 := [.own (.slice (some ⟨b22, 0, none⟩) 1 1) 101 3 1 ([.int .i64 (-1), .int .i64 (ix es (ki * 2)), .int .i64 (ix es (ki * 2 + 1))])]) (H2 := [.own (.slice A_uk1 pn c_uk1) 3 1 pn (ints ky), .blk b21 77 [.int .i64 (ix es (ki * 2)), .int .i64 (ix es (ki * 2 + 1))], .own (.slice (some ⟨gz2, 0, none⟩) (zs2.length) cz2) 110 4 (zs2.length) (ncells zs2), .grp 3 1 (pgN pn zs2), .grp 4 1 (dgN n zs2), .grp 101 3 (sgN zs2), .own (.slice (some ⟨b4, 0, none⟩) N3 N3) 28 1 N3 (oc T2), .grp 3 1 (gl T2), .blk b3 48 [.slice none 0 0, .slice none 0 0], .blk b2 39 [.int .i64 Q, .slice Ac n cc], .blk b1 35 [.int .i64 N, .slice (some ⟨bg, og, none⟩) m cg]]) (vs := [.agg #[.int .i64 N, .slice (some ⟨bg, og, none⟩) m cg], .agg #[.int .i64 Q, .slice Ac n cc], .agg #[.slice A_uk1 pn c_uk1, .slice gA2 n gc2, .int .i64 (((ai : Nat) : Int)), .slice (some ⟨b22, 0, none⟩) 1 1]]) (caps := []) Tcall_63 rfl rfl (Weak.refl _) (fun w hs => (by have h := l23Run_spec (N := N) (Q := Q) (pv := ((ai : Nat) : Int)) (L0 := [((-1, ix es (ki * 2), ix es (ki * 2 + 1)) : T3)]) (ds0 := gd) (ps := ky) (by omega) hink (by show 1 ≤ _; omega) (Ap.arg hg hs) (Ap.arg hc hs) (Ap.own (.head _) hs) (Ap.grp (p := dmN n ((.slice gA1 pn gc1 : Value), (.slice gA2 n gc2 : Value), (.slice gA3 (gw.length) gc3 : Value), gf, gw, ((gk, gd) : RK), gp)) (.tail _ (.tail _ (.tail _ (.tail _ (.head _))))) (dgN_mem hzm2) hs) (hs.holds _ (.head _)); rw [hkd, hko] at h; exact h)) ?_
                        rintro _ _ ⟨vd2, vs2, rfl, rfl⟩
                        refine ⟨((Weak.selF [3, 9, 9, 9, 3]).trans (Some'.weak (.take (.take (.take (.take (.take (.nil _)))))))), ?_⟩
                        refine DW.step (i := 26) (by kernel_rfl) rfl rfl (OpStep.alloc (zs := [.slice none 0 0, .slice none 0 0, .int .i64 0, .slice none 0 0]) Tzero_110 fun b23 => ?_)
                        refine ⟨((Weak.selF [4, 10, 10, 10, 4]).trans (Some'.weak (.take (.take (.take (.take (.take (.nil _)))))))), ?_⟩
                        refine DW.formOwn (.tail _ (List.Mem.head _)) (fun A_vd29 c_vd29 hv hcapc_vd29 hmaxc_vd29 => ?_)
                        subst hv
                        refine DW.formOwn (.tail _ (.tail _ (List.Mem.head _))) (fun A_vs29 c_vs29 hv hcapc_vs29 hmaxc_vs29 => ?_)
                        subst hv
                        refine DW.step (i := 27) (by kernel_rfl) rfl rfl (OpStep.storeAll (us := [.slice A_uk1 pn c_uk1, .slice A_vd29 n c_vd29, .int .i64 (((ai : Nat) : Int)), .slice A_vs29 ((owS es m xs n (gk, gd) ki).length) c_vs29]) Tsize_110 rfl rfl rfl (.here _) rfl ?_)
                        refine ⟨((Weak.selF [4, 10, 10, 10, 4]).trans (Some'.weak (.take (.take (.take (.take (.take (.nil _)))))))), ?_⟩
                        refine DW.done (by kernel_rfl) ?_
                        refine Run.goal ⟨(by repeat (first | exact Same.refl _ _ | refine Same.put rfl ?_ | refine Same.over rfl rfl ?_)), (b23, .slice A_uk1 pn c_uk1, .slice A_vd29 n c_vd29, .slice A_vs29 ((owS es m xs n (gk, gd) ki).length) c_vs29), ?_, ?_, ?_⟩
                        · trivial
                        · exact ⟨(by first | rfl | (congr 1; omega) | simp [*]), trivial⟩
                        · exact ((Weak.selF [0, 2, 0, 0, 1, 1, 1, 1, 1, 1, 0, 0, 0, 0]).trans (Some'.weak (.takeEq (by first | rfl | simp) (.takeEq (by first | rfl | simp) (.takeEq (by first | rfl | simp) (.takeEq (by first | rfl | simp) (.takeEq (by first | rfl | simp) (.takeEq (by first | rfl | simp) (.takeEq (by first | rfl | simp) (.takeEq (by first | rfl | simp) (.takeEq (by first | rfl | simp) (.takeEq (by first | rfl | simp) (.take (.take (.take (.take (.nil _)))))))))))))))))
                      · refine OpStep.alloc (zs := [.slice none 0 0, .slice none 0 0, .int .i64 0, .slice none 0 0]) Tzero_110 fun b24 => ?_
                        refine ⟨((Weak.selF [3, 9, 9, 9, 3]).trans (Some'.weak (.take (.take (.take (.take (.take (.nil _)))))))), ?_⟩
                        refine DW.step (i := 25) (by kernel_rfl) rfl rfl (OpStep.callM (H1 := [.own (.slice (some ⟨b22, 0, none⟩) 1 1) 101 3 1 ([.int .i64 (-1), .int .i64 (ix es (ki * 2)), .int .i64 (ix es (ki * 2 + 1))])]) (H2 := [.blk b24 110 [.slice none 0 0, .slice none 0 0, .int .i64 0, .slice none 0 0], .own (.slice A_uk1 pn c_uk1) 3 1 pn (ints ky), .blk b21 77 [.int .i64 (ix es (ki * 2)), .int .i64 (ix es (ki * 2 + 1))], .own (.slice (some ⟨gz2, 0, none⟩) (zs2.length) cz2) 110 4 (zs2.length) (ncells zs2), .grp 3 1 (pgN pn zs2), .grp 4 1 (dgN n zs2), .grp 101 3 (sgN zs2), .own (.slice (some ⟨b4, 0, none⟩) N3 N3) 28 1 N3 (oc T2), .grp 3 1 (gl T2), .blk b3 48 [.slice none 0 0, .slice none 0 0], .blk b2 39 [.int .i64 Q, .slice Ac n cc], .blk b1 35 [.int .i64 N, .slice (some ⟨bg, og, none⟩) m cg]]) (vs := [.agg #[.int .i64 N, .slice (some ⟨bg, og, none⟩) m cg], .agg #[.int .i64 Q, .slice Ac n cc], .agg #[.slice A_uk1 pn c_uk1, .slice gA2 n gc2, .int .i64 (((ai : Nat) : Int)), .slice (some ⟨b22, 0, none⟩) 1 1]]) (caps := []) Tcall_63 rfl rfl (Weak.selF [1]) (fun w hs => (by have h := l23Run_spec (N := N) (Q := Q) (pv := ((ai : Nat) : Int)) (L0 := [((-1, ix es (ki * 2), ix es (ki * 2 + 1)) : T3)]) (ds0 := gd) (ps := ky) (by omega) hink (by show 1 ≤ _; omega) (Ap.arg hg hs) (Ap.arg hc hs) (Ap.own (.tail _ (.head _)) hs) (Ap.grp (p := dmN n ((.slice gA1 pn gc1 : Value), (.slice gA2 n gc2 : Value), (.slice gA3 (gw.length) gc3 : Value), gf, gw, ((gk, gd) : RK), gp)) (.tail _ (.tail _ (.tail _ (.tail _ (.tail _ (.head _)))))) (dgN_mem hzm2) hs) (hs.holds _ (.head _)); rw [hkd, hko] at h; exact h)) ?_)
                        rintro _ _ ⟨vd2, vs2, rfl, rfl⟩
                        refine ⟨((Weak.selF [4, 10, 10, 10, 4]).trans (Some'.weak (.take (.take (.take (.take (.take (.nil _)))))))), ?_⟩
                        refine DW.formOwn (.head _) (fun A_vd210 c_vd210 hv hcapc_vd210 hmaxc_vd210 => ?_)
                        subst hv
                        refine DW.formOwn (.tail _ (List.Mem.head _)) (fun A_vs210 c_vs210 hv hcapc_vs210 hmaxc_vs210 => ?_)
                        subst hv
                        refine DW.step (i := 27) (by kernel_rfl) rfl rfl (OpStep.storeAll (us := [.slice A_uk1 pn c_uk1, .slice A_vd210 n c_vd210, .int .i64 (((ai : Nat) : Int)), .slice A_vs210 ((owS es m xs n (gk, gd) ki).length) c_vs210]) Tsize_110 rfl rfl rfl (.there _ (.there _ (.here _))) rfl ?_)
                        refine ⟨((Weak.selF [4, 10, 10, 10, 4]).trans (Some'.weak (.take (.take (.take (.take (.take (.nil _)))))))), ?_⟩
                        refine DW.done (by kernel_rfl) ?_
                        refine Run.goal ⟨(by repeat (first | exact Same.refl _ _ | refine Same.put rfl ?_ | refine Same.over rfl rfl ?_)), (b24, .slice A_uk1 pn c_uk1, .slice A_vd210 n c_vd210, .slice A_vs210 ((owS es m xs n (gk, gd) ki).length) c_vs210), ?_, ?_, ?_⟩
                        · trivial
                        · exact ⟨(by first | rfl | (congr 1; omega) | simp [*]), trivial⟩
                        · exact ((Weak.selF [2, 2, 0, 0, 1, 1, 1, 1, 1, 1, 0, 0, 0, 0]).trans (Some'.weak (.takeEq (by first | rfl | simp) (.takeEq (by first | rfl | simp) (.takeEq (by first | rfl | simp) (.takeEq (by first | rfl | simp) (.takeEq (by first | rfl | simp) (.takeEq (by first | rfl | simp) (.takeEq (by first | rfl | simp) (.takeEq (by first | rfl | simp) (.takeEq (by first | rfl | simp) (.takeEq (by first | rfl | simp) (.take (.take (.take (.take (.nil _)))))))))))))))))
                    · refine OpStep.alloc (zs := [.slice none 0 0, .slice none 0 0, .int .i64 0, .slice none 0 0]) Tzero_110 fun b25 => ?_
                      refine ⟨((Weak.selF [2, 8, 8, 8, 2]).trans (Some'.weak (.take (.take (.take (.take (.take (.nil _)))))))), ?_⟩
                      refine DW.step (i := 23) (by kernel_rfl) rfl rfl (OpStep.buildSlice (us := [.int .i64 (-1), .int .i64 (ix es (ki * 2)), .int .i64 (ix es (ki * 2 + 1))]) Tsl_46 (by decide) (by decide) ⟨rfl, [.int .i64 (-1), .int .i64 (ix es (ki * 2)), .int .i64 (ix es (ki * 2 + 1))], _, rfl, rfl, rfl, rfl⟩ rfl fun b26 => ?_)
                      refine ⟨((Weak.selF [3, 9, 9, 9, 3]).trans (Some'.weak (.take (.take (.take (.take (.take (.nil _)))))))), ?_⟩
                      refine DW.formOwn (.tail _ (.tail _ (List.Mem.head _))) (fun A_uk2 c_uk2 hv hcapc_uk2 hmaxc_uk2 => ?_)
                      subst hv
                      refine DW.take (i := 24) (v := .agg #[.slice A_uk2 pn c_uk2, .slice gA2 n gc2, .int .i64 (((ai : Nat) : Int)), .slice (some ⟨b26, 0, none⟩) 1 1]) rfl (by kernel_rfl) (by kernel_rfl) (by kernel_rfl) (fun _ _ _ h => h) ((Weak.selF [3, 9, 9, 9, 3]).trans (Some'.weak (.take (.take (.take (.take (.take (.nil _)))))))) rfl (OpY.build (cs := [.slice A_uk2 pn c_uk2, .slice gA2 n gc2, .int .i64 (((ai : Nat) : Int)), .slice (some ⟨b26, 0, none⟩) 1 1]) (by kernel_rfl)) ?_
                      refine DW.step (i := 25) (by kernel_rfl) rfl rfl (OpStep.callM (H1 := [.own (.slice (some ⟨b26, 0, none⟩) 1 1) 101 3 1 ([.int .i64 (-1), .int .i64 (ix es (ki * 2)), .int .i64 (ix es (ki * 2 + 1))])]) (H2 := [.blk b25 110 [.slice none 0 0, .slice none 0 0, .int .i64 0, .slice none 0 0], .own (.slice A_uk2 pn c_uk2) 3 1 pn (ints ky), .blk b21 77 [.int .i64 (ix es (ki * 2)), .int .i64 (ix es (ki * 2 + 1))], .own (.slice (some ⟨gz2, 0, none⟩) (zs2.length) cz2) 110 4 (zs2.length) (ncells zs2), .grp 3 1 (pgN pn zs2), .grp 4 1 (dgN n zs2), .grp 101 3 (sgN zs2), .own (.slice (some ⟨b4, 0, none⟩) N3 N3) 28 1 N3 (oc T2), .grp 3 1 (gl T2), .blk b3 48 [.slice none 0 0, .slice none 0 0], .blk b2 39 [.int .i64 Q, .slice Ac n cc], .blk b1 35 [.int .i64 N, .slice (some ⟨bg, og, none⟩) m cg]]) (vs := [.agg #[.int .i64 N, .slice (some ⟨bg, og, none⟩) m cg], .agg #[.int .i64 Q, .slice Ac n cc], .agg #[.slice A_uk2 pn c_uk2, .slice gA2 n gc2, .int .i64 (((ai : Nat) : Int)), .slice (some ⟨b26, 0, none⟩) 1 1]]) (caps := []) Tcall_63 rfl rfl (Weak.refl _) (fun w hs => (by have h := l23Run_spec (N := N) (Q := Q) (pv := ((ai : Nat) : Int)) (L0 := [((-1, ix es (ki * 2), ix es (ki * 2 + 1)) : T3)]) (ds0 := gd) (ps := ky) (by omega) hink (by show 1 ≤ _; omega) (Ap.arg hg hs) (Ap.arg hc hs) (Ap.own (.tail _ (.head _)) hs) (Ap.grp (p := dmN n ((.slice gA1 pn gc1 : Value), (.slice gA2 n gc2 : Value), (.slice gA3 (gw.length) gc3 : Value), gf, gw, ((gk, gd) : RK), gp)) (.tail _ (.tail _ (.tail _ (.tail _ (.tail _ (.head _)))))) (dgN_mem hzm2) hs) (hs.holds _ (.head _)); rw [hkd, hko] at h; exact h)) ?_)
                      rintro _ _ ⟨vd2, vs2, rfl, rfl⟩
                      refine ⟨((Weak.selF [4, 10, 10, 10, 4]).trans (Some'.weak (.take (.take (.take (.take (.take (.nil _)))))))), ?_⟩
                      refine DW.formOwn (.head _) (fun A_vd211 c_vd211 hv hcapc_vd211 hmaxc_vd211 => ?_)
                      subst hv
                      refine DW.formOwn (.tail _ (List.Mem.head _)) (fun A_vs211 c_vs211 hv hcapc_vs211 hmaxc_vs211 => ?_)
                      subst hv
                      refine DW.step (i := 27) (by kernel_rfl) rfl rfl (OpStep.storeAll (us := [.slice A_uk2 pn c_uk2, .slice A_vd211 n c_vd211, .int .i64 (((ai : Nat) : Int)), .slice A_vs211 ((owS es m xs n (gk, gd) ki).length) c_vs211]) Tsize_110 rfl rfl rfl (.there _ (.there _ (.here _))) rfl ?_)
                      refine ⟨((Weak.selF [4, 10, 10, 10, 4]).trans (Some'.weak (.take (.take (.take (.take (.take (.nil _)))))))), ?_⟩
                      refine DW.done (by kernel_rfl) ?_
                      refine Run.goal ⟨(by repeat (first | exact Same.refl _ _ | refine Same.put rfl ?_ | refine Same.over rfl rfl ?_)), (b25, .slice A_uk2 pn c_uk2, .slice A_vd211 n c_vd211, .slice A_vs211 ((owS es m xs n (gk, gd) ki).length) c_vs211), ?_, ?_, ?_⟩
                      · trivial
                      · exact ⟨(by first | rfl | (congr 1; omega) | simp [*]), trivial⟩
                      · exact ((Weak.selF [2, 2, 0, 0, 1, 1, 1, 1, 1, 1, 0, 0, 0, 0]).trans (Some'.weak (.takeEq (by first | rfl | simp) (.takeEq (by first | rfl | simp) (.takeEq (by first | rfl | simp) (.takeEq (by first | rfl | simp) (.takeEq (by first | rfl | simp) (.takeEq (by first | rfl | simp) (.takeEq (by first | rfl | simp) (.takeEq (by first | rfl | simp) (.takeEq (by first | rfl | simp) (.takeEq (by first | rfl | simp) (.take (.take (.take (.take (.nil _)))))))))))))))))
                  · refine OpStep.buildSlice (us := [.int .i64 (-1), .int .i64 (ix es (ki * 2)), .int .i64 (ix es (ki * 2 + 1))]) Tsl_46 (by decide) (by decide) ⟨rfl, [.int .i64 (-1), .int .i64 (ix es (ki * 2)), .int .i64 (ix es (ki * 2 + 1))], _, rfl, rfl, rfl, rfl⟩ rfl fun b27 => ?_
                    refine ⟨((Weak.selF [1, 7, 7, 7, 1]).trans (Some'.weak (.take (.take (.take (.take (.take (.nil _)))))))), ?_⟩
                    refine DW.two (i := 11) (j := 26) (by kernel_rfl) rfl rfl rfl rfl ?_ ?_
                    · refine OpStep.call (vs := [.slice gA1 pn gc1, .int .i64 (ix es (ki * 2)), .int .i64 (ix es (ki * 2 + 1))]) (caps := []) Tcall_67 rfl rfl (fun w hs => (by have h := l23Swap_spec (a := ix es (ki * 2)) (b := ix es (ki * 2 + 1)) (by omega) hpn.1 (hs.slGrpR (p := pmN pn ((.slice gA1 pn gc1 : Value), (.slice gA2 n gc2 : Value), (.slice gA3 (gw.length) gc3 : Value), gf, gw, ((gk, gd) : RK), gp)) (.tail _ (.tail _ (.tail _ (List.Mem.head _)))) (pgN_mem hzm2)); rw [show swL (ix es (ki * 2)) (ix es (ki * 2 + 1)) _ = ky from hky] at h; exact h)) ?_
                      rintro uk _ rfl
                      refine ⟨((Weak.selF [2, 8, 8, 8, 2]).trans (Some'.weak (.take (.take (.take (.take (.take (.nil _)))))))), ?_⟩
                      refine DW.formOwn (.head _) (fun A_uk3 c_uk3 hv hcapc_uk3 hmaxc_uk3 => ?_)
                      subst hv
                      refine DW.take (i := 24) (v := .agg #[.slice A_uk3 pn c_uk3, .slice gA2 n gc2, .int .i64 (((ai : Nat) : Int)), .slice (some ⟨b27, 0, none⟩) 1 1]) rfl (by kernel_rfl) (by kernel_rfl) (by kernel_rfl) (fun _ _ _ h => h) ((Weak.selF [2, 8, 8, 8, 2]).trans (Some'.weak (.take (.take (.take (.take (.take (.nil _)))))))) rfl (OpY.build (cs := [.slice A_uk3 pn c_uk3, .slice gA2 n gc2, .int .i64 (((ai : Nat) : Int)), .slice (some ⟨b27, 0, none⟩) 1 1]) (by kernel_rfl)) ?_
                      refine DW.two (i := 25) (j := 26) (by kernel_rfl) rfl rfl rfl rfl ?_ ?_
                      · refine OpStep.callM (H1 := [.own (.slice (some ⟨b27, 0, none⟩) 1 1) 101 3 1 ([.int .i64 (-1), .int .i64 (ix es (ki * 2)), .int .i64 (ix es (ki * 2 + 1))])]) (H2 := [.own (.slice A_uk3 pn c_uk3) 3 1 pn (ints ky), .blk b21 77 [.int .i64 (ix es (ki * 2)), .int .i64 (ix es (ki * 2 + 1))], .own (.slice (some ⟨gz2, 0, none⟩) (zs2.length) cz2) 110 4 (zs2.length) (ncells zs2), .grp 3 1 (pgN pn zs2), .grp 4 1 (dgN n zs2), .grp 101 3 (sgN zs2), .own (.slice (some ⟨b4, 0, none⟩) N3 N3) 28 1 N3 (oc T2), .grp 3 1 (gl T2), .blk b3 48 [.slice none 0 0, .slice none 0 0], .blk b2 39 [.int .i64 Q, .slice Ac n cc], .blk b1 35 [.int .i64 N, .slice (some ⟨bg, og, none⟩) m cg]]) (vs := [.agg #[.int .i64 N, .slice (some ⟨bg, og, none⟩) m cg], .agg #[.int .i64 Q, .slice Ac n cc], .agg #[.slice A_uk3 pn c_uk3, .slice gA2 n gc2, .int .i64 (((ai : Nat) : Int)), .slice (some ⟨b27, 0, none⟩) 1 1]]) (caps := []) Tcall_63 rfl rfl (Weak.selF [1]) (fun w hs => (by have h := l23Run_spec (N := N) (Q := Q) (pv := ((ai : Nat) : Int)) (L0 := [((-1, ix es (ki * 2), ix es (ki * 2 + 1)) : T3)]) (ds0 := gd) (ps := ky) (by omega) hink (by show 1 ≤ _; omega) (Ap.arg hg hs) (Ap.arg hc hs) (Ap.own (.head _) hs) (Ap.grp (p := dmN n ((.slice gA1 pn gc1 : Value), (.slice gA2 n gc2 : Value), (.slice gA3 (gw.length) gc3 : Value), gf, gw, ((gk, gd) : RK), gp)) (.tail _ (.tail _ (.tail _ (.tail _ (.head _))))) (dgN_mem hzm2) hs) (hs.holds _ (.head _)); rw [hkd, hko] at h; exact h)) ?_
                        rintro _ _ ⟨vd2, vs2, rfl, rfl⟩
                        refine ⟨((Weak.selF [3, 9, 9, 9, 3]).trans (Some'.weak (.take (.take (.take (.take (.take (.nil _)))))))), ?_⟩
                        refine DW.step (i := 26) (by kernel_rfl) rfl rfl (OpStep.alloc (zs := [.slice none 0 0, .slice none 0 0, .int .i64 0, .slice none 0 0]) Tzero_110 fun b28 => ?_)
                        refine ⟨((Weak.selF [4, 10, 10, 10, 4]).trans (Some'.weak (.take (.take (.take (.take (.take (.nil _)))))))), ?_⟩
                        refine DW.formOwn (.tail _ (List.Mem.head _)) (fun A_vd212 c_vd212 hv hcapc_vd212 hmaxc_vd212 => ?_)
                        subst hv
                        refine DW.formOwn (.tail _ (.tail _ (List.Mem.head _))) (fun A_vs212 c_vs212 hv hcapc_vs212 hmaxc_vs212 => ?_)
                        subst hv
                        refine DW.step (i := 27) (by kernel_rfl) rfl rfl (OpStep.storeAll (us := [.slice A_uk3 pn c_uk3, .slice A_vd212 n c_vd212, .int .i64 (((ai : Nat) : Int)), .slice A_vs212 ((owS es m xs n (gk, gd) ki).length) c_vs212]) Tsize_110 rfl rfl rfl (.here _) rfl ?_)
                        refine ⟨((Weak.selF [4, 10, 10, 10, 4]).trans (Some'.weak (.take (.take (.take (.take (.take (.nil _)))))))), ?_⟩
                        refine DW.done (by kernel_rfl) ?_
                        refine Run.goal ⟨(by repeat (first | exact Same.refl _ _ | refine Same.put rfl ?_ | refine Same.over rfl rfl ?_)), (b28, .slice A_uk3 pn c_uk3, .slice A_vd212 n c_vd212, .slice A_vs212 ((owS es m xs n (gk, gd) ki).length) c_vs212), ?_, ?_, ?_⟩
                        · trivial
                        · exact ⟨(by first | rfl | (congr 1; omega) | simp [*]), trivial⟩
                        · exact ((Weak.selF [0, 2, 0, 0, 1, 1, 1, 1, 1, 1, 0, 0, 0, 0]).trans (Some'.weak (.takeEq (by first | rfl | simp) (.takeEq (by first | rfl | simp) (.takeEq (by first | rfl | simp) (.takeEq (by first | rfl | simp) (.takeEq (by first | rfl | simp) (.takeEq (by first | rfl | simp) (.takeEq (by first | rfl | simp) (.takeEq (by first | rfl | simp) (.takeEq (by first | rfl | simp) (.takeEq (by first | rfl | simp) (.take (.take (.take (.take (.nil _)))))))))))))))))
                      · refine OpStep.alloc (zs := [.slice none 0 0, .slice none 0 0, .int .i64 0, .slice none 0 0]) Tzero_110 fun b29 => ?_
                        refine ⟨((Weak.selF [3, 9, 9, 9, 3]).trans (Some'.weak (.take (.take (.take (.take (.take (.nil _)))))))), ?_⟩
                        refine DW.step (i := 25) (by kernel_rfl) rfl rfl (OpStep.callM (H1 := [.own (.slice (some ⟨b27, 0, none⟩) 1 1) 101 3 1 ([.int .i64 (-1), .int .i64 (ix es (ki * 2)), .int .i64 (ix es (ki * 2 + 1))])]) (H2 := [.blk b29 110 [.slice none 0 0, .slice none 0 0, .int .i64 0, .slice none 0 0], .own (.slice A_uk3 pn c_uk3) 3 1 pn (ints ky), .blk b21 77 [.int .i64 (ix es (ki * 2)), .int .i64 (ix es (ki * 2 + 1))], .own (.slice (some ⟨gz2, 0, none⟩) (zs2.length) cz2) 110 4 (zs2.length) (ncells zs2), .grp 3 1 (pgN pn zs2), .grp 4 1 (dgN n zs2), .grp 101 3 (sgN zs2), .own (.slice (some ⟨b4, 0, none⟩) N3 N3) 28 1 N3 (oc T2), .grp 3 1 (gl T2), .blk b3 48 [.slice none 0 0, .slice none 0 0], .blk b2 39 [.int .i64 Q, .slice Ac n cc], .blk b1 35 [.int .i64 N, .slice (some ⟨bg, og, none⟩) m cg]]) (vs := [.agg #[.int .i64 N, .slice (some ⟨bg, og, none⟩) m cg], .agg #[.int .i64 Q, .slice Ac n cc], .agg #[.slice A_uk3 pn c_uk3, .slice gA2 n gc2, .int .i64 (((ai : Nat) : Int)), .slice (some ⟨b27, 0, none⟩) 1 1]]) (caps := []) Tcall_63 rfl rfl (Weak.selF [2]) (fun w hs => (by have h := l23Run_spec (N := N) (Q := Q) (pv := ((ai : Nat) : Int)) (L0 := [((-1, ix es (ki * 2), ix es (ki * 2 + 1)) : T3)]) (ds0 := gd) (ps := ky) (by omega) hink (by show 1 ≤ _; omega) (Ap.arg hg hs) (Ap.arg hc hs) (Ap.own (.tail _ (.head _)) hs) (Ap.grp (p := dmN n ((.slice gA1 pn gc1 : Value), (.slice gA2 n gc2 : Value), (.slice gA3 (gw.length) gc3 : Value), gf, gw, ((gk, gd) : RK), gp)) (.tail _ (.tail _ (.tail _ (.tail _ (.tail _ (.head _)))))) (dgN_mem hzm2) hs) (hs.holds _ (.head _)); rw [hkd, hko] at h; exact h)) ?_)
                        rintro _ _ ⟨vd2, vs2, rfl, rfl⟩
                        refine ⟨((Weak.selF [4, 10, 10, 10, 4]).trans (Some'.weak (.take (.take (.take (.take (.take (.nil _)))))))), ?_⟩
                        refine DW.formOwn (.head _) (fun A_vd213 c_vd213 hv hcapc_vd213 hmaxc_vd213 => ?_)
                        subst hv
                        refine DW.formOwn (.tail _ (List.Mem.head _)) (fun A_vs213 c_vs213 hv hcapc_vs213 hmaxc_vs213 => ?_)
                        subst hv
                        refine DW.step (i := 27) (by kernel_rfl) rfl rfl (OpStep.storeAll (us := [.slice A_uk3 pn c_uk3, .slice A_vd213 n c_vd213, .int .i64 (((ai : Nat) : Int)), .slice A_vs213 ((owS es m xs n (gk, gd) ki).length) c_vs213]) Tsize_110 rfl rfl rfl (.there _ (.there _ (.here _))) rfl ?_)
                        refine ⟨((Weak.selF [4, 10, 10, 10, 4]).trans (Some'.weak (.take (.take (.take (.take (.take (.nil _)))))))), ?_⟩
                        refine DW.done (by kernel_rfl) ?_
                        refine Run.goal ⟨(by repeat (first | exact Same.refl _ _ | refine Same.put rfl ?_ | refine Same.over rfl rfl ?_)), (b29, .slice A_uk3 pn c_uk3, .slice A_vd213 n c_vd213, .slice A_vs213 ((owS es m xs n (gk, gd) ki).length) c_vs213), ?_, ?_, ?_⟩
                        · trivial
                        · exact ⟨(by first | rfl | (congr 1; omega) | simp [*]), trivial⟩
                        · exact ((Weak.selF [2, 2, 0, 0, 1, 1, 1, 1, 1, 1, 0, 0, 0, 0]).trans (Some'.weak (.takeEq (by first | rfl | simp) (.takeEq (by first | rfl | simp) (.takeEq (by first | rfl | simp) (.takeEq (by first | rfl | simp) (.takeEq (by first | rfl | simp) (.takeEq (by first | rfl | simp) (.takeEq (by first | rfl | simp) (.takeEq (by first | rfl | simp) (.takeEq (by first | rfl | simp) (.takeEq (by first | rfl | simp) (.take (.take (.take (.take (.nil _)))))))))))))))))
                    · refine OpStep.alloc (zs := [.slice none 0 0, .slice none 0 0, .int .i64 0, .slice none 0 0]) Tzero_110 fun b30 => ?_
                      refine ⟨((Weak.selF [2, 8, 8, 8, 2]).trans (Some'.weak (.take (.take (.take (.take (.take (.nil _)))))))), ?_⟩
                      refine DW.step (i := 11) (by kernel_rfl) rfl rfl (OpStep.call (vs := [.slice gA1 pn gc1, .int .i64 (ix es (ki * 2)), .int .i64 (ix es (ki * 2 + 1))]) (caps := []) Tcall_67 rfl rfl (fun w hs => (by have h := l23Swap_spec (a := ix es (ki * 2)) (b := ix es (ki * 2 + 1)) (by omega) hpn.1 (hs.slGrpR (p := pmN pn ((.slice gA1 pn gc1 : Value), (.slice gA2 n gc2 : Value), (.slice gA3 (gw.length) gc3 : Value), gf, gw, ((gk, gd) : RK), gp)) (.tail _ (.tail _ (.tail _ (.tail _ (List.Mem.head _))))) (pgN_mem hzm2)); rw [show swL (ix es (ki * 2)) (ix es (ki * 2 + 1)) _ = ky from hky] at h; exact h)) ?_)
                      rintro uk _ rfl
                      refine ⟨((Weak.selF [3, 9, 9, 9, 3]).trans (Some'.weak (.take (.take (.take (.take (.take (.nil _)))))))), ?_⟩
                      refine DW.formOwn (.head _) (fun A_uk4 c_uk4 hv hcapc_uk4 hmaxc_uk4 => ?_)
                      subst hv
                      refine DW.take (i := 24) (v := .agg #[.slice A_uk4 pn c_uk4, .slice gA2 n gc2, .int .i64 (((ai : Nat) : Int)), .slice (some ⟨b27, 0, none⟩) 1 1]) rfl (by kernel_rfl) (by kernel_rfl) (by kernel_rfl) (fun _ _ _ h => h) ((Weak.selF [3, 9, 9, 9, 3]).trans (Some'.weak (.take (.take (.take (.take (.take (.nil _)))))))) rfl (OpY.build (cs := [.slice A_uk4 pn c_uk4, .slice gA2 n gc2, .int .i64 (((ai : Nat) : Int)), .slice (some ⟨b27, 0, none⟩) 1 1]) (by kernel_rfl)) ?_
                      refine DW.step (i := 25) (by kernel_rfl) rfl rfl (OpStep.callM (H1 := [.own (.slice (some ⟨b27, 0, none⟩) 1 1) 101 3 1 ([.int .i64 (-1), .int .i64 (ix es (ki * 2)), .int .i64 (ix es (ki * 2 + 1))])]) (H2 := [.own (.slice A_uk4 pn c_uk4) 3 1 pn (ints ky), .blk b30 110 [.slice none 0 0, .slice none 0 0, .int .i64 0, .slice none 0 0], .blk b21 77 [.int .i64 (ix es (ki * 2)), .int .i64 (ix es (ki * 2 + 1))], .own (.slice (some ⟨gz2, 0, none⟩) (zs2.length) cz2) 110 4 (zs2.length) (ncells zs2), .grp 3 1 (pgN pn zs2), .grp 4 1 (dgN n zs2), .grp 101 3 (sgN zs2), .own (.slice (some ⟨b4, 0, none⟩) N3 N3) 28 1 N3 (oc T2), .grp 3 1 (gl T2), .blk b3 48 [.slice none 0 0, .slice none 0 0], .blk b2 39 [.int .i64 Q, .slice Ac n cc], .blk b1 35 [.int .i64 N, .slice (some ⟨bg, og, none⟩) m cg]]) (vs := [.agg #[.int .i64 N, .slice (some ⟨bg, og, none⟩) m cg], .agg #[.int .i64 Q, .slice Ac n cc], .agg #[.slice A_uk4 pn c_uk4, .slice gA2 n gc2, .int .i64 (((ai : Nat) : Int)), .slice (some ⟨b27, 0, none⟩) 1 1]]) (caps := []) Tcall_63 rfl rfl (Weak.selF [2]) (fun w hs => (by have h := l23Run_spec (N := N) (Q := Q) (pv := ((ai : Nat) : Int)) (L0 := [((-1, ix es (ki * 2), ix es (ki * 2 + 1)) : T3)]) (ds0 := gd) (ps := ky) (by omega) hink (by show 1 ≤ _; omega) (Ap.arg hg hs) (Ap.arg hc hs) (Ap.own (.head _) hs) (Ap.grp (p := dmN n ((.slice gA1 pn gc1 : Value), (.slice gA2 n gc2 : Value), (.slice gA3 (gw.length) gc3 : Value), gf, gw, ((gk, gd) : RK), gp)) (.tail _ (.tail _ (.tail _ (.tail _ (.tail _ (.head _)))))) (dgN_mem hzm2) hs) (hs.holds _ (.head _)); rw [hkd, hko] at h; exact h)) ?_)
                      rintro _ _ ⟨vd2, vs2, rfl, rfl⟩
                      refine ⟨((Weak.selF [4, 10, 10, 10, 4]).trans (Some'.weak (.take (.take (.take (.take (.take (.nil _)))))))), ?_⟩
                      refine DW.formOwn (.head _) (fun A_vd214 c_vd214 hv hcapc_vd214 hmaxc_vd214 => ?_)
                      subst hv
                      refine DW.formOwn (.tail _ (List.Mem.head _)) (fun A_vs214 c_vs214 hv hcapc_vs214 hmaxc_vs214 => ?_)
                      subst hv
                      refine DW.step (i := 27) (by kernel_rfl) rfl rfl (OpStep.storeAll (us := [.slice A_uk4 pn c_uk4, .slice A_vd214 n c_vd214, .int .i64 (((ai : Nat) : Int)), .slice A_vs214 ((owS es m xs n (gk, gd) ki).length) c_vs214]) Tsize_110 rfl rfl rfl (.there _ (.there _ (.there _ (.here _)))) rfl ?_)
                      refine ⟨((Weak.selF [4, 10, 10, 10, 4]).trans (Some'.weak (.take (.take (.take (.take (.take (.nil _)))))))), ?_⟩
                      refine DW.done (by kernel_rfl) ?_
                      refine Run.goal ⟨(by repeat (first | exact Same.refl _ _ | refine Same.put rfl ?_ | refine Same.over rfl rfl ?_)), (b30, .slice A_uk4 pn c_uk4, .slice A_vd214 n c_vd214, .slice A_vs214 ((owS es m xs n (gk, gd) ki).length) c_vs214), ?_, ?_, ?_⟩
                      · trivial
                      · exact ⟨(by first | rfl | (congr 1; omega) | simp [*]), trivial⟩
                      · exact ((Weak.selF [3, 2, 0, 0, 1, 1, 1, 1, 1, 1, 0, 0, 0, 0]).trans (Some'.weak (.takeEq (by first | rfl | simp) (.takeEq (by first | rfl | simp) (.takeEq (by first | rfl | simp) (.takeEq (by first | rfl | simp) (.takeEq (by first | rfl | simp) (.takeEq (by first | rfl | simp) (.takeEq (by first | rfl | simp) (.takeEq (by first | rfl | simp) (.takeEq (by first | rfl | simp) (.takeEq (by first | rfl | simp) (.take (.take (.take (.take (.nil _)))))))))))))))))
                  · refine OpStep.alloc (zs := [.slice none 0 0, .slice none 0 0, .int .i64 0, .slice none 0 0]) Tzero_110 fun b31 => ?_
                    refine ⟨((Weak.selF [1, 7, 7, 7, 1]).trans (Some'.weak (.take (.take (.take (.take (.take (.nil _)))))))), ?_⟩
                    refine DW.two (i := 11) (j := 23) (by kernel_rfl) rfl rfl rfl rfl ?_ ?_
                    · refine OpStep.call (vs := [.slice gA1 pn gc1, .int .i64 (ix es (ki * 2)), .int .i64 (ix es (ki * 2 + 1))]) (caps := []) Tcall_67 rfl rfl (fun w hs => (by have h := l23Swap_spec (a := ix es (ki * 2)) (b := ix es (ki * 2 + 1)) (by omega) hpn.1 (hs.slGrpR (p := pmN pn ((.slice gA1 pn gc1 : Value), (.slice gA2 n gc2 : Value), (.slice gA3 (gw.length) gc3 : Value), gf, gw, ((gk, gd) : RK), gp)) (.tail _ (.tail _ (.tail _ (List.Mem.head _)))) (pgN_mem hzm2)); rw [show swL (ix es (ki * 2)) (ix es (ki * 2 + 1)) _ = ky from hky] at h; exact h)) ?_
                      rintro uk _ rfl
                      refine ⟨((Weak.selF [2, 8, 8, 8, 2]).trans (Some'.weak (.take (.take (.take (.take (.take (.nil _)))))))), ?_⟩
                      refine DW.step (i := 23) (by kernel_rfl) rfl rfl (OpStep.buildSlice (us := [.int .i64 (-1), .int .i64 (ix es (ki * 2)), .int .i64 (ix es (ki * 2 + 1))]) Tsl_46 (by decide) (by decide) ⟨rfl, [.int .i64 (-1), .int .i64 (ix es (ki * 2)), .int .i64 (ix es (ki * 2 + 1))], _, rfl, rfl, rfl, rfl⟩ rfl fun b32 => ?_)
                      refine ⟨((Weak.selF [3, 9, 9, 9, 3]).trans (Some'.weak (.take (.take (.take (.take (.take (.nil _)))))))), ?_⟩
                      refine DW.formOwn (.tail _ (List.Mem.head _)) (fun A_uk5 c_uk5 hv hcapc_uk5 hmaxc_uk5 => ?_)
                      subst hv
                      refine DW.take (i := 24) (v := .agg #[.slice A_uk5 pn c_uk5, .slice gA2 n gc2, .int .i64 (((ai : Nat) : Int)), .slice (some ⟨b32, 0, none⟩) 1 1]) rfl (by kernel_rfl) (by kernel_rfl) (by kernel_rfl) (fun _ _ _ h => h) ((Weak.selF [3, 9, 9, 9, 3]).trans (Some'.weak (.take (.take (.take (.take (.take (.nil _)))))))) rfl (OpY.build (cs := [.slice A_uk5 pn c_uk5, .slice gA2 n gc2, .int .i64 (((ai : Nat) : Int)), .slice (some ⟨b32, 0, none⟩) 1 1]) (by kernel_rfl)) ?_
                      refine DW.step (i := 25) (by kernel_rfl) rfl rfl (OpStep.callM (H1 := [.own (.slice (some ⟨b32, 0, none⟩) 1 1) 101 3 1 ([.int .i64 (-1), .int .i64 (ix es (ki * 2)), .int .i64 (ix es (ki * 2 + 1))])]) (H2 := [.own (.slice A_uk5 pn c_uk5) 3 1 pn (ints ky), .blk b31 110 [.slice none 0 0, .slice none 0 0, .int .i64 0, .slice none 0 0], .blk b21 77 [.int .i64 (ix es (ki * 2)), .int .i64 (ix es (ki * 2 + 1))], .own (.slice (some ⟨gz2, 0, none⟩) (zs2.length) cz2) 110 4 (zs2.length) (ncells zs2), .grp 3 1 (pgN pn zs2), .grp 4 1 (dgN n zs2), .grp 101 3 (sgN zs2), .own (.slice (some ⟨b4, 0, none⟩) N3 N3) 28 1 N3 (oc T2), .grp 3 1 (gl T2), .blk b3 48 [.slice none 0 0, .slice none 0 0], .blk b2 39 [.int .i64 Q, .slice Ac n cc], .blk b1 35 [.int .i64 N, .slice (some ⟨bg, og, none⟩) m cg]]) (vs := [.agg #[.int .i64 N, .slice (some ⟨bg, og, none⟩) m cg], .agg #[.int .i64 Q, .slice Ac n cc], .agg #[.slice A_uk5 pn c_uk5, .slice gA2 n gc2, .int .i64 (((ai : Nat) : Int)), .slice (some ⟨b32, 0, none⟩) 1 1]]) (caps := []) Tcall_63 rfl rfl (Weak.refl _) (fun w hs => (by have h := l23Run_spec (N := N) (Q := Q) (pv := ((ai : Nat) : Int)) (L0 := [((-1, ix es (ki * 2), ix es (ki * 2 + 1)) : T3)]) (ds0 := gd) (ps := ky) (by omega) hink (by show 1 ≤ _; omega) (Ap.arg hg hs) (Ap.arg hc hs) (Ap.own (.head _) hs) (Ap.grp (p := dmN n ((.slice gA1 pn gc1 : Value), (.slice gA2 n gc2 : Value), (.slice gA3 (gw.length) gc3 : Value), gf, gw, ((gk, gd) : RK), gp)) (.tail _ (.tail _ (.tail _ (.tail _ (.tail _ (.head _)))))) (dgN_mem hzm2) hs) (hs.holds _ (.head _)); rw [hkd, hko] at h; exact h)) ?_)
                      rintro _ _ ⟨vd2, vs2, rfl, rfl⟩
                      refine ⟨((Weak.selF [4, 10, 10, 10, 4]).trans (Some'.weak (.take (.take (.take (.take (.take (.nil _)))))))), ?_⟩
                      refine DW.formOwn (.head _) (fun A_vd215 c_vd215 hv hcapc_vd215 hmaxc_vd215 => ?_)
                      subst hv
                      refine DW.formOwn (.tail _ (List.Mem.head _)) (fun A_vs215 c_vs215 hv hcapc_vs215 hmaxc_vs215 => ?_)
                      subst hv
                      refine DW.step (i := 27) (by kernel_rfl) rfl rfl (OpStep.storeAll (us := [.slice A_uk5 pn c_uk5, .slice A_vd215 n c_vd215, .int .i64 (((ai : Nat) : Int)), .slice A_vs215 ((owS es m xs n (gk, gd) ki).length) c_vs215]) Tsize_110 rfl rfl rfl (.there _ (.there _ (.there _ (.here _)))) rfl ?_)
                      refine ⟨((Weak.selF [4, 10, 10, 10, 4]).trans (Some'.weak (.take (.take (.take (.take (.take (.nil _)))))))), ?_⟩
                      refine DW.done (by kernel_rfl) ?_
                      refine Run.goal ⟨(by repeat (first | exact Same.refl _ _ | refine Same.put rfl ?_ | refine Same.over rfl rfl ?_)), (b31, .slice A_uk5 pn c_uk5, .slice A_vd215 n c_vd215, .slice A_vs215 ((owS es m xs n (gk, gd) ki).length) c_vs215), ?_, ?_, ?_⟩
                      · trivial
                      · exact ⟨(by first | rfl | (congr 1; omega) | simp [*]), trivial⟩
                      · exact ((Weak.selF [3, 2, 0, 0, 1, 1, 1, 1, 1, 1, 0, 0, 0, 0]).trans (Some'.weak (.takeEq (by first | rfl | simp) (.takeEq (by first | rfl | simp) (.takeEq (by first | rfl | simp) (.takeEq (by first | rfl | simp) (.takeEq (by first | rfl | simp) (.takeEq (by first | rfl | simp) (.takeEq (by first | rfl | simp) (.takeEq (by first | rfl | simp) (.takeEq (by first | rfl | simp) (.takeEq (by first | rfl | simp) (.take (.take (.take (.take (.nil _)))))))))))))))))
                    · refine OpStep.buildSlice (us := [.int .i64 (-1), .int .i64 (ix es (ki * 2)), .int .i64 (ix es (ki * 2 + 1))]) Tsl_46 (by decide) (by decide) ⟨rfl, [.int .i64 (-1), .int .i64 (ix es (ki * 2)), .int .i64 (ix es (ki * 2 + 1))], _, rfl, rfl, rfl, rfl⟩ rfl fun b33 => ?_
                      refine ⟨((Weak.selF [2, 8, 8, 8, 2]).trans (Some'.weak (.take (.take (.take (.take (.take (.nil _)))))))), ?_⟩
                      refine DW.step (i := 11) (by kernel_rfl) rfl rfl (OpStep.call (vs := [.slice gA1 pn gc1, .int .i64 (ix es (ki * 2)), .int .i64 (ix es (ki * 2 + 1))]) (caps := []) Tcall_67 rfl rfl (fun w hs => (by have h := l23Swap_spec (a := ix es (ki * 2)) (b := ix es (ki * 2 + 1)) (by omega) hpn.1 (hs.slGrpR (p := pmN pn ((.slice gA1 pn gc1 : Value), (.slice gA2 n gc2 : Value), (.slice gA3 (gw.length) gc3 : Value), gf, gw, ((gk, gd) : RK), gp)) (.tail _ (.tail _ (.tail _ (.tail _ (List.Mem.head _))))) (pgN_mem hzm2)); rw [show swL (ix es (ki * 2)) (ix es (ki * 2 + 1)) _ = ky from hky] at h; exact h)) ?_)
                      rintro uk _ rfl
                      refine ⟨((Weak.selF [3, 9, 9, 9, 3]).trans (Some'.weak (.take (.take (.take (.take (.take (.nil _)))))))), ?_⟩
                      refine DW.formOwn (.head _) (fun A_uk6 c_uk6 hv hcapc_uk6 hmaxc_uk6 => ?_)
                      subst hv
                      refine DW.take (i := 24) (v := .agg #[.slice A_uk6 pn c_uk6, .slice gA2 n gc2, .int .i64 (((ai : Nat) : Int)), .slice (some ⟨b33, 0, none⟩) 1 1]) rfl (by kernel_rfl) (by kernel_rfl) (by kernel_rfl) (fun _ _ _ h => h) ((Weak.selF [3, 9, 9, 9, 3]).trans (Some'.weak (.take (.take (.take (.take (.take (.nil _)))))))) rfl (OpY.build (cs := [.slice A_uk6 pn c_uk6, .slice gA2 n gc2, .int .i64 (((ai : Nat) : Int)), .slice (some ⟨b33, 0, none⟩) 1 1]) (by kernel_rfl)) ?_
                      refine DW.step (i := 25) (by kernel_rfl) rfl rfl (OpStep.callM (H1 := [.own (.slice (some ⟨b33, 0, none⟩) 1 1) 101 3 1 ([.int .i64 (-1), .int .i64 (ix es (ki * 2)), .int .i64 (ix es (ki * 2 + 1))])]) (H2 := [.own (.slice A_uk6 pn c_uk6) 3 1 pn (ints ky), .blk b31 110 [.slice none 0 0, .slice none 0 0, .int .i64 0, .slice none 0 0], .blk b21 77 [.int .i64 (ix es (ki * 2)), .int .i64 (ix es (ki * 2 + 1))], .own (.slice (some ⟨gz2, 0, none⟩) (zs2.length) cz2) 110 4 (zs2.length) (ncells zs2), .grp 3 1 (pgN pn zs2), .grp 4 1 (dgN n zs2), .grp 101 3 (sgN zs2), .own (.slice (some ⟨b4, 0, none⟩) N3 N3) 28 1 N3 (oc T2), .grp 3 1 (gl T2), .blk b3 48 [.slice none 0 0, .slice none 0 0], .blk b2 39 [.int .i64 Q, .slice Ac n cc], .blk b1 35 [.int .i64 N, .slice (some ⟨bg, og, none⟩) m cg]]) (vs := [.agg #[.int .i64 N, .slice (some ⟨bg, og, none⟩) m cg], .agg #[.int .i64 Q, .slice Ac n cc], .agg #[.slice A_uk6 pn c_uk6, .slice gA2 n gc2, .int .i64 (((ai : Nat) : Int)), .slice (some ⟨b33, 0, none⟩) 1 1]]) (caps := []) Tcall_63 rfl rfl (Weak.selF [1]) (fun w hs => (by have h := l23Run_spec (N := N) (Q := Q) (pv := ((ai : Nat) : Int)) (L0 := [((-1, ix es (ki * 2), ix es (ki * 2 + 1)) : T3)]) (ds0 := gd) (ps := ky) (by omega) hink (by show 1 ≤ _; omega) (Ap.arg hg hs) (Ap.arg hc hs) (Ap.own (.head _) hs) (Ap.grp (p := dmN n ((.slice gA1 pn gc1 : Value), (.slice gA2 n gc2 : Value), (.slice gA3 (gw.length) gc3 : Value), gf, gw, ((gk, gd) : RK), gp)) (.tail _ (.tail _ (.tail _ (.tail _ (.tail _ (.head _)))))) (dgN_mem hzm2) hs) (hs.holds _ (.head _)); rw [hkd, hko] at h; exact h)) ?_)
                      rintro _ _ ⟨vd2, vs2, rfl, rfl⟩
                      refine ⟨((Weak.selF [4, 10, 10, 10, 4]).trans (Some'.weak (.take (.take (.take (.take (.take (.nil _)))))))), ?_⟩
                      refine DW.formOwn (.head _) (fun A_vd216 c_vd216 hv hcapc_vd216 hmaxc_vd216 => ?_)
                      subst hv
                      refine DW.formOwn (.tail _ (List.Mem.head _)) (fun A_vs216 c_vs216 hv hcapc_vs216 hmaxc_vs216 => ?_)
                      subst hv
                      refine DW.step (i := 27) (by kernel_rfl) rfl rfl (OpStep.storeAll (us := [.slice A_uk6 pn c_uk6, .slice A_vd216 n c_vd216, .int .i64 (((ai : Nat) : Int)), .slice A_vs216 ((owS es m xs n (gk, gd) ki).length) c_vs216]) Tsize_110 rfl rfl rfl (.there _ (.there _ (.there _ (.here _)))) rfl ?_)
                      refine ⟨((Weak.selF [4, 10, 10, 10, 4]).trans (Some'.weak (.take (.take (.take (.take (.take (.nil _)))))))), ?_⟩
                      refine DW.done (by kernel_rfl) ?_
                      refine Run.goal ⟨(by repeat (first | exact Same.refl _ _ | refine Same.put rfl ?_ | refine Same.over rfl rfl ?_)), (b31, .slice A_uk6 pn c_uk6, .slice A_vd216 n c_vd216, .slice A_vs216 ((owS es m xs n (gk, gd) ki).length) c_vs216), ?_, ?_, ?_⟩
                      · trivial
                      · exact ⟨(by first | rfl | (congr 1; omega) | simp [*]), trivial⟩
                      · exact ((Weak.selF [3, 2, 0, 0, 1, 1, 1, 1, 1, 1, 0, 0, 0, 0]).trans (Some'.weak (.takeEq (by first | rfl | simp) (.takeEq (by first | rfl | simp) (.takeEq (by first | rfl | simp) (.takeEq (by first | rfl | simp) (.takeEq (by first | rfl | simp) (.takeEq (by first | rfl | simp) (.takeEq (by first | rfl | simp) (.takeEq (by first | rfl | simp) (.takeEq (by first | rfl | simp) (.takeEq (by first | rfl | simp) (.take (.take (.take (.take (.nil _)))))))))))))))))
                · rintro ⟨b19, y1, y2, y3⟩ fr hcut
                  show Run _ _ (over _ _ [(19, .pointer (some ⟨b19, 0, none⟩))] fr) [.blk b19 110 [y1, y2, .int .i64 (((ai : Nat) : Int)), y3], .own y1 3 1 pn (ints ky), .own y2 4 1 n (bls kd), .own y3 101 3 ((owS es m xs n (gk, gd) ki).length) (ints (fl3 (owS es m xs n (gk, gd) ki))), .own (.slice (some ⟨gz2, 0, none⟩) (zs2.length) cz2) 110 4 (zs2.length) (ncells zs2), .grp 3 1 (pgN pn zs2), .grp 4 1 (dgN n zs2), .grp 101 3 (sgN zs2), .own (.slice (some ⟨b4, 0, none⟩) N3 N3) 28 1 N3 (oc T2), .grp 3 1 (gl T2), .blk b21 77 [.int .i64 (ix es (ki * 2)), .int .i64 (ix es (ki * 2 + 1))], .blk b3 48 [.slice none 0 0, .slice none 0 0], .blk b2 39 [.int .i64 Q, .slice Ac n cc], .blk b1 35 [.int .i64 N, .slice (some ⟨bg, og, none⟩) m cg]]
                  refine Run.seq ?_
                  refine Run.formOwn (.tail _ (List.Mem.head _)) (fun A_y11 c_y11 hv hcapc_y11 hmaxc_y11 => ?_) (fun _ _ _ => ⟨nofun, nofun, nofun⟩)
                  subst hv
                  refine Run.formOwn (.tail _ (.tail _ (List.Mem.head _))) (fun A_y21 c_y21 hv hcapc_y21 hmaxc_y21 => ?_) (fun _ _ _ => ⟨nofun, nofun, nofun⟩)
                  subst hv
                  refine Run.formOwn (.tail _ (.tail _ (.tail _ (List.Mem.head _)))) (fun A_y31 c_y31 hv hcapc_y31 hmaxc_y31 => ?_) (fun _ _ _ => ⟨nofun, nofun, nofun⟩)
                  subst hv
                  refine Run.cut (ι := Unit) [20, 21, 140, 141, 142, 143, 144, 145] (fun u0 => [(20, .int .i64 (((kc_ : Nat) : Int))), (21, .int .i64 (((mkD kd n : Nat) : Int)))]) (fun u0 => [.blk b19 110 [.slice A_y11 pn c_y11, .slice A_y21 n c_y21, .int .i64 (((ai : Nat) : Int)), .slice A_y31 ((owS es m xs n (gk, gd) ki).length) c_y31], .own (.slice A_y11 pn c_y11) 3 1 pn (ints ky), .own (.slice A_y21 n c_y21) 4 1 n (bls kd), .own (.slice A_y31 ((owS es m xs n (gk, gd) ki).length) c_y31) 101 3 ((owS es m xs n (gk, gd) ki).length) (ints (fl3 (owS es m xs n (gk, gd) ki))), .own (.slice (some ⟨gz2, 0, none⟩) (zs2.length) cz2) 110 4 (zs2.length) (ncells zs2), .grp 3 1 (pgN pn zs2), .grp 4 1 (dgN n zs2), .grp 101 3 (sgN zs2), .own (.slice (some ⟨b4, 0, none⟩) N3 N3) 28 1 N3 (oc T2), .grp 3 1 (gl T2), .blk b21 77 [.int .i64 (ix es (ki * 2)), .int .i64 (ix es (ki * 2 + 1))], .blk b3 48 [.slice none 0 0, .slice none 0 0], .blk b2 39 [.int .i64 Q, .slice Ac n cc], .blk b1 35 [.int .i64 N, .slice (some ⟨bg, og, none⟩) m cg]]) (fun u0 => True) ?_ ?_
                  · refine Run.draws (by kernel_rfl) (by kernel_rfl) ?_
                    refine Lex.q (v := .pointer (some ⟨b19, 0, none⟩)) rfl (OpQ.y (OpY.fieldAddr Tfo_110_0 rfl rfl)) ?_
                    refine Lex.q (v := .slice A_y11 pn c_y11) rfl (OpQ.y (OpY.load1 Tone_28 rfl (Cells.blk (.head _) ⟨rfl, trivial⟩))) ?_
                    refine Lex.q (v := .int .i64 (((kc_ : Nat) : Int))) rfl (OpQ.call (vs := [.slice A_y11 pn c_y11]) (caps := []) Tcall_65 rfl rfl (fun w hs => (by have h := l23Code_spec (ps := ky) hpn.2 (pl_range hN5 hknk.po) (hs.slOwn (.tail _ (List.Mem.head _))); rw [hkc] at h; exact h))) ?_
                    refine Lex.q (v := .pointer (some ⟨b19, 1, none⟩)) rfl (OpQ.y (OpY.fieldAddr Tfo_110_1 rfl rfl)) ?_
                    refine Lex.q (v := .slice A_y21 n c_y21) rfl (OpQ.y (OpY.load1 Tone_85 rfl (Cells.blk (.head _) ⟨rfl, trivial⟩))) ?_
                    refine Lex.q (v := .int .i64 (((mkD kd n : Nat) : Int))) rfl (OpQ.call (vs := [.slice A_y21 n c_y21]) (caps := []) Tcall_66 rfl rfl (fun w hs => l23Mask_spec hn40 (hs.slOwn (.tail _ (.tail _ (List.Mem.head _)))))) ?_
                    refine Lex.q (v := .int .i64 (((kc_ : Nat) : Int))) rfl (OpQ.y (OpY.pure rfl)) ?_
                    refine Lex.q (v := .int .i64 (((mkD kd n : Nat) : Int))) rfl (OpQ.y (OpY.pure rfl)) ?_
                    refine Lex.done ?_
                    refine Run.goal ⟨(by repeat (first | exact Same.refl _ _ | refine Same.put rfl ?_ | refine Same.over rfl rfl ?_)), (), ?_, ?_, ?_⟩
                    · trivial
                    · exact ⟨(by first | rfl | (congr 1; omega) | simp [*]), (by first | rfl | (congr 1; omega) | simp [*]), trivial⟩
                    · exact (Some'.weak (.take (.takeEq (by first | rfl | simp) (.takeEq (by first | rfl | simp) (.takeEq (by first | rfl | simp) (.takeEq (by first | rfl | simp) (.takeEq (by first | rfl | simp) (.takeEq (by first | rfl | simp) (.takeEq (by first | rfl | simp) (.takeEq (by first | rfl | simp) (.takeEq (by first | rfl | simp) (.take (.take (.take (.take (.nil _))))))))))))))))
                  · rintro u0 fr hcut
                    show Run _ _ (over _ _ [(20, .int .i64 (((kc_ : Nat) : Int))), (21, .int .i64 (((mkD kd n : Nat) : Int)))] fr) [.blk b19 110 [.slice A_y11 pn c_y11, .slice A_y21 n c_y21, .int .i64 (((ai : Nat) : Int)), .slice A_y31 ((owS es m xs n (gk, gd) ki).length) c_y31], .own (.slice A_y11 pn c_y11) 3 1 pn (ints ky), .own (.slice A_y21 n c_y21) 4 1 n (bls kd), .own (.slice A_y31 ((owS es m xs n (gk, gd) ki).length) c_y31) 101 3 ((owS es m xs n (gk, gd) ki).length) (ints (fl3 (owS es m xs n (gk, gd) ki))), .own (.slice (some ⟨gz2, 0, none⟩) (zs2.length) cz2) 110 4 (zs2.length) (ncells zs2), .grp 3 1 (pgN pn zs2), .grp 4 1 (dgN n zs2), .grp 101 3 (sgN zs2), .own (.slice (some ⟨b4, 0, none⟩) N3 N3) 28 1 N3 (oc T2), .grp 3 1 (gl T2), .blk b21 77 [.int .i64 (ix es (ki * 2)), .int .i64 (ix es (ki * 2 + 1))], .blk b3 48 [.slice none 0 0, .slice none 0 0], .blk b2 39 [.int .i64 Q, .slice Ac n cc], .blk b1 35 [.int .i64 N, .slice (some ⟨bg, og, none⟩) m cg]]
                    refine Run.seq ?_
                    refine Run.region ?_
                    refine Run.q (v := .slice (some ⟨b4, 0, none⟩) N3 N3) rfl (OpQ.y (OpY.pure rfl)) ?_
                    refine Run.q (v := .int .i64 (((kc_ : Nat) : Int))) rfl (OpQ.y (OpY.pure rfl)) ?_
                    refine Run.q (v := .pointer (some ⟨b4, kc_, none⟩)) rfl (OpQ.y (OpY.index (kk := kc_) Tsl_68 rfl rfl (by omega) (by omega) (by first | rfl | omega))) ?_
                    refine Run.q (v := (vx T2 (kc_))) rfl (OpQ.y (OpY.load1 Tone_28 rfl (Cells.own0 (.tail _ (.tail _ (.tail _ (.tail _ (.tail _ (.tail _ (.tail _ (.tail _ (List.Mem.head _))))))))) (preO (by first | omega | (rw [hTl]; omega)))))) ?_
                    refine Run.q (v := .int .i64 (((mkD kd n : Nat) : Int))) rfl (OpQ.y (OpY.pure rfl)) ?_
                    refine Run.q (v := .bool (decide ((ky, kd) ∈ (nk zs2).map (·.1)))) rfl (OpQ.call (vs := [(vx T2 (kc_)), .int .i64 (((mkD kd n : Nat) : Int))]) (caps := []) Tcall_62 rfl rfl (fun w hs => (by have h := l1Has_spec (x := ((mkD kd n : Nat) : Int)) (hs.grpSl (.tail _ (.tail _ (.tail _ (.tail _ (.tail _ (.tail _ (.tail _ (.tail _ (.tail _ (List.Mem.head _)))))))))) kc_ (by omega)); rw [htb2.met hN5 hkall hknk hkc (by omega)] at h; exact h))) ?_
                    refine Run.q (v := .bool (!(decide ((ky, kd) ∈ (nk zs2).map (·.1))))) rfl (OpQ.y (OpY.pure rfl)) ?_
                    refine Run.done ?_
                    refine Run.cond (b := !(decide ((ky, kd) ∈ (nk zs2).map (·.1)))) rfl (fun h152 => ?_) (fun h152 => ?_)
                    · have p152 := h152; try simp only [bs] at p152
                      have hnin : (ky, kd) ∉ (nk zs2).map (·.1) := by simpa using p152
                      have hbv : brow (kstep es m xs n) (fun _ => true) ((gk, gd), gp) (bfsL (kstep es m xs n) m (st0 (mKeys es m xs n sts) 0) ai) (ki + 1) = nk zs2 ++ [((ky, kd), (gp ++ [ki]))] := by
                        rw [hrow, ← hzq2, bvis, if_pos ⟨rfl, by rw [hkk]; exact hnin⟩, hkk]
                      refine Run.weak (H' := [.grp 3 1 (pgN pn (zs2 ++ [((.slice A_y11 pn c_y11 : Value), (.slice A_y21 n c_y21 : Value), (.slice A_y31 ((owS es m xs n (gk, gd) ki).length) c_y31 : Value), ((ai : Nat) : Int), (owS es m xs n (gk, gd) ki), ((ky, kd) : RK), (gp ++ [ki]))])), .blk b19 110 [.slice A_y11 pn c_y11, .slice A_y21 n c_y21, .int .i64 (((ai : Nat) : Int)), .slice A_y31 ((owS es m xs n (gk, gd) ki).length) c_y31], .own (.slice A_y21 n c_y21) 4 1 n (bls kd), .own (.slice A_y31 ((owS es m xs n (gk, gd) ki).length) c_y31) 101 3 ((owS es m xs n (gk, gd) ki).length) (ints (fl3 (owS es m xs n (gk, gd) ki))), .own (.slice (some ⟨gz2, 0, none⟩) (zs2.length) cz2) 110 4 (zs2.length) (ncells zs2), .grp 4 1 (dgN n zs2), .grp 101 3 (sgN zs2), .own (.slice (some ⟨b4, 0, none⟩) N3 N3) 28 1 N3 (oc T2), .grp 3 1 (gl T2), .blk b21 77 [.int .i64 (ix es (ki * 2)), .int .i64 (ix es (ki * 2 + 1))], .blk b3 48 [.slice none 0 0, .slice none 0 0], .blk b2 39 [.int .i64 Q, .slice Ac n cc], .blk b1 35 [.int .i64 N, .slice (some ⟨bg, og, none⟩) m cg]]) ((Weak.selF [1, 4]).trans (Weak.pgNSnoc (zs := zs2) (z := ((.slice A_y11 pn c_y11 : Value), (.slice A_y21 n c_y21 : Value), (.slice A_y31 ((owS es m xs n (gk, gd) ki).length) c_y31 : Value), ((ai : Nat) : Int), (owS es m xs n (gk, gd) ki), ((ky, kd) : RK), (gp ++ [ki]))))) ?_ ⟨_, _, rfl, fun _ => nofun, fun _ => nofun⟩
                      refine Run.weak (H' := [.grp 4 1 (dgN n (zs2 ++ [((.slice A_y11 pn c_y11 : Value), (.slice A_y21 n c_y21 : Value), (.slice A_y31 ((owS es m xs n (gk, gd) ki).length) c_y31 : Value), ((ai : Nat) : Int), (owS es m xs n (gk, gd) ki), ((ky, kd) : RK), (gp ++ [ki]))])), .grp 3 1 (pgN pn (zs2 ++ [((.slice A_y11 pn c_y11 : Value), (.slice A_y21 n c_y21 : Value), (.slice A_y31 ((owS es m xs n (gk, gd) ki).length) c_y31 : Value), ((ai : Nat) : Int), (owS es m xs n (gk, gd) ki), ((ky, kd) : RK), (gp ++ [ki]))])), .blk b19 110 [.slice A_y11 pn c_y11, .slice A_y21 n c_y21, .int .i64 (((ai : Nat) : Int)), .slice A_y31 ((owS es m xs n (gk, gd) ki).length) c_y31], .own (.slice A_y31 ((owS es m xs n (gk, gd) ki).length) c_y31) 101 3 ((owS es m xs n (gk, gd) ki).length) (ints (fl3 (owS es m xs n (gk, gd) ki))), .own (.slice (some ⟨gz2, 0, none⟩) (zs2.length) cz2) 110 4 (zs2.length) (ncells zs2), .grp 101 3 (sgN zs2), .own (.slice (some ⟨b4, 0, none⟩) N3 N3) 28 1 N3 (oc T2), .grp 3 1 (gl T2), .blk b21 77 [.int .i64 (ix es (ki * 2)), .int .i64 (ix es (ki * 2 + 1))], .blk b3 48 [.slice none 0 0, .slice none 0 0], .blk b2 39 [.int .i64 Q, .slice Ac n cc], .blk b1 35 [.int .i64 N, .slice (some ⟨bg, og, none⟩) m cg]]) ((Weak.selF [2, 4]).trans (Weak.dgNSnoc (zs := zs2) (z := ((.slice A_y11 pn c_y11 : Value), (.slice A_y21 n c_y21 : Value), (.slice A_y31 ((owS es m xs n (gk, gd) ki).length) c_y31 : Value), ((ai : Nat) : Int), (owS es m xs n (gk, gd) ki), ((ky, kd) : RK), (gp ++ [ki]))))) ?_ ⟨_, _, rfl, fun _ => nofun, fun _ => nofun⟩
                      refine Run.weak (H' := [.grp 101 3 (sgN (zs2 ++ [((.slice A_y11 pn c_y11 : Value), (.slice A_y21 n c_y21 : Value), (.slice A_y31 ((owS es m xs n (gk, gd) ki).length) c_y31 : Value), ((ai : Nat) : Int), (owS es m xs n (gk, gd) ki), ((ky, kd) : RK), (gp ++ [ki]))])), .grp 4 1 (dgN n (zs2 ++ [((.slice A_y11 pn c_y11 : Value), (.slice A_y21 n c_y21 : Value), (.slice A_y31 ((owS es m xs n (gk, gd) ki).length) c_y31 : Value), ((ai : Nat) : Int), (owS es m xs n (gk, gd) ki), ((ky, kd) : RK), (gp ++ [ki]))])), .grp 3 1 (pgN pn (zs2 ++ [((.slice A_y11 pn c_y11 : Value), (.slice A_y21 n c_y21 : Value), (.slice A_y31 ((owS es m xs n (gk, gd) ki).length) c_y31 : Value), ((ai : Nat) : Int), (owS es m xs n (gk, gd) ki), ((ky, kd) : RK), (gp ++ [ki]))])), .blk b19 110 [.slice A_y11 pn c_y11, .slice A_y21 n c_y21, .int .i64 (((ai : Nat) : Int)), .slice A_y31 ((owS es m xs n (gk, gd) ki).length) c_y31], .own (.slice (some ⟨gz2, 0, none⟩) (zs2.length) cz2) 110 4 (zs2.length) (ncells zs2), .own (.slice (some ⟨b4, 0, none⟩) N3 N3) 28 1 N3 (oc T2), .grp 3 1 (gl T2), .blk b21 77 [.int .i64 (ix es (ki * 2)), .int .i64 (ix es (ki * 2 + 1))], .blk b3 48 [.slice none 0 0, .slice none 0 0], .blk b2 39 [.int .i64 Q, .slice Ac n cc], .blk b1 35 [.int .i64 N, .slice (some ⟨bg, og, none⟩) m cg]]) ((Weak.selF [3, 4]).trans (Weak.sgNSnoc (zs := zs2) (z := ((.slice A_y11 pn c_y11 : Value), (.slice A_y21 n c_y21 : Value), (.slice A_y31 ((owS es m xs n (gk, gd) ki).length) c_y31 : Value), ((ai : Nat) : Int), (owS es m xs n (gk, gd) ki), ((ky, kd) : RK), (gp ++ [ki]))))) ?_ ⟨_, _, rfl, fun _ => nofun, fun _ => nofun⟩
                      refine Run.seq ?_
                      obtain ⟨A1, B1, hAB, hset⟩ := tb_split (T := T2) (c := kc_) (by omega)
                      refine Run.weak (H' := [.own ((vx T2 (kc_))) 3 1 ((lx T2 kc_).length) (ints (lx T2 kc_)), .grp 3 1 (gl (A1 ++ B1)), .grp 101 3 (sgN (zs2 ++ [((.slice A_y11 pn c_y11 : Value), (.slice A_y21 n c_y21 : Value), (.slice A_y31 ((owS es m xs n (gk, gd) ki).length) c_y31 : Value), ((ai : Nat) : Int), (owS es m xs n (gk, gd) ki), ((ky, kd) : RK), (gp ++ [ki]))])), .grp 4 1 (dgN n (zs2 ++ [((.slice A_y11 pn c_y11 : Value), (.slice A_y21 n c_y21 : Value), (.slice A_y31 ((owS es m xs n (gk, gd) ki).length) c_y31 : Value), ((ai : Nat) : Int), (owS es m xs n (gk, gd) ki), ((ky, kd) : RK), (gp ++ [ki]))])), .grp 3 1 (pgN pn (zs2 ++ [((.slice A_y11 pn c_y11 : Value), (.slice A_y21 n c_y21 : Value), (.slice A_y31 ((owS es m xs n (gk, gd) ki).length) c_y31 : Value), ((ai : Nat) : Int), (owS es m xs n (gk, gd) ki), ((ky, kd) : RK), (gp ++ [ki]))])), .blk b19 110 [.slice A_y11 pn c_y11, .slice A_y21 n c_y21, .int .i64 (((ai : Nat) : Int)), .slice A_y31 ((owS es m xs n (gk, gd) ki).length) c_y31], .own (.slice (some ⟨gz2, 0, none⟩) (zs2.length) cz2) 110 4 (zs2.length) (ncells zs2), .own (.slice (some ⟨b4, 0, none⟩) N3 N3) 28 1 N3 (oc T2), .blk b21 77 [.int .i64 (ix es (ki * 2)), .int .i64 (ix es (ki * 2 + 1))], .blk b3 48 [.slice none 0 0, .slice none 0 0], .blk b2 39 [.int .i64 Q, .slice Ac n cc], .blk b1 35 [.int .i64 N, .slice (some ⟨bg, og, none⟩) m cg]]) ((Weak.selF [6]).trans (Weak.tbOut hAB)) ?_ ⟨_, _, rfl, fun _ => nofun, fun _ => nofun⟩
                      refine Run.region ?_
                      refine Run.q (v := .slice (some ⟨b4, 0, none⟩) N3 N3) rfl (OpQ.y (OpY.pure rfl)) ?_
                      refine Run.q (v := .int .i64 (((kc_ : Nat) : Int))) rfl (OpQ.y (OpY.pure rfl)) ?_
                      refine Run.q (v := .slice (some ⟨b4, 0, none⟩) N3 N3) rfl (OpQ.y (OpY.pure rfl)) ?_
                      refine Run.q (v := .int .i64 (((kc_ : Nat) : Int))) rfl (OpQ.y (OpY.pure rfl)) ?_
                      refine Run.q (v := .pointer (some ⟨b4, kc_, none⟩)) rfl (OpQ.y (OpY.index (kk := kc_) Tsl_68 rfl rfl (by omega) (by omega) (by first | rfl | omega))) ?_
                      refine Run.q (v := (vx T2 (kc_))) rfl (OpQ.y (OpY.load1 Tone_28 rfl (Cells.own0 (.tail _ (.tail _ (.tail _ (.tail _ (.tail _ (.tail _ (.tail _ (List.Mem.head _)))))))) (preO (by first | omega | (rw [hTl]; omega)))))) ?_
                      refine Run.q (v := .int .i64 (((mkD kd n : Nat) : Int))) rfl (OpQ.y (OpY.pure rfl)) ?_
                      refine Run.step rfl (OpStep.buildSlice (us := [.int .i64 (((mkD kd n : Nat) : Int))]) Tsl_28 (by decide) (by decide) ⟨rfl, [.int .i64 (((mkD kd n : Nat) : Int))], _, rfl, rfl, rfl, rfl⟩ rfl fun b34 => ?_)
                      refine Run.step rfl (OpStep.append (H1 := [.own (.slice (some ⟨b34, 0, none⟩) 1 1) 3 1 1 ([.int .i64 (((mkD kd n : Nat) : Int))])]) (H2 := [.grp 3 1 (gl (A1 ++ B1)), .grp 101 3 (sgN (zs2 ++ [((.slice A_y11 pn c_y11 : Value), (.slice A_y21 n c_y21 : Value), (.slice A_y31 ((owS es m xs n (gk, gd) ki).length) c_y31 : Value), ((ai : Nat) : Int), (owS es m xs n (gk, gd) ki), ((ky, kd) : RK), (gp ++ [ki]))])), .grp 4 1 (dgN n (zs2 ++ [((.slice A_y11 pn c_y11 : Value), (.slice A_y21 n c_y21 : Value), (.slice A_y31 ((owS es m xs n (gk, gd) ki).length) c_y31 : Value), ((ai : Nat) : Int), (owS es m xs n (gk, gd) ki), ((ky, kd) : RK), (gp ++ [ki]))])), .grp 3 1 (pgN pn (zs2 ++ [((.slice A_y11 pn c_y11 : Value), (.slice A_y21 n c_y21 : Value), (.slice A_y31 ((owS es m xs n (gk, gd) ki).length) c_y31 : Value), ((ai : Nat) : Int), (owS es m xs n (gk, gd) ki), ((ky, kd) : RK), (gp ++ [ki]))])), .blk b19 110 [.slice A_y11 pn c_y11, .slice A_y21 n c_y21, .int .i64 (((ai : Nat) : Int)), .slice A_y31 ((owS es m xs n (gk, gd) ki).length) c_y31], .own (.slice (some ⟨gz2, 0, none⟩) (zs2.length) cz2) 110 4 (zs2.length) (ncells zs2), .own (.slice (some ⟨b4, 0, none⟩) N3 N3) 28 1 N3 (oc T2), .blk b21 77 [.int .i64 (ix es (ki * 2)), .int .i64 (ix es (ki * 2 + 1))], .blk b3 48 [.slice none 0 0, .slice none 0 0], .blk b2 39 [.int .i64 Q, .slice Ac n cc], .blk b1 35 [.int .i64 N, .slice (some ⟨bg, og, none⟩) m cg]]) (v := (vx T2 (kc_))) (u := .slice (some ⟨b34, 0, none⟩) 1 1) (n := (lx T2 kc_).length) (m := 1) (xs := ints (lx T2 kc_)) (ys := [.int .i64 (((mkD kd n : Nat) : Int))]) Tsl_28 (by decide) rfl rfl rfl rfl (fun w hs => hs.slOwn (.head _)) (by first | exact ints_all _ | simp [Value.oneCell']) (by omega) (by simp only [maxLen]; omega) fun av5 hnav5 => ?_)
                      refine Run.weak (H' := [.own (.slice (some ⟨b34, 0, none⟩) 1 1) 3 1 1 ([.int .i64 (((mkD kd n : Nat) : Int))]), .own av5 3 1 ((lx T2 kc_ ++ [((mkD kd n : Nat) : Int)]).length) (ints (lx T2 kc_ ++ [((mkD kd n : Nat) : Int)])), .grp 3 1 (gl (A1 ++ B1)), .grp 101 3 (sgN (zs2 ++ [((.slice A_y11 pn c_y11 : Value), (.slice A_y21 n c_y21 : Value), (.slice A_y31 ((owS es m xs n (gk, gd) ki).length) c_y31 : Value), ((ai : Nat) : Int), (owS es m xs n (gk, gd) ki), ((ky, kd) : RK), (gp ++ [ki]))])), .grp 4 1 (dgN n (zs2 ++ [((.slice A_y11 pn c_y11 : Value), (.slice A_y21 n c_y21 : Value), (.slice A_y31 ((owS es m xs n (gk, gd) ki).length) c_y31 : Value), ((ai : Nat) : Int), (owS es m xs n (gk, gd) ki), ((ky, kd) : RK), (gp ++ [ki]))])), .grp 3 1 (pgN pn (zs2 ++ [((.slice A_y11 pn c_y11 : Value), (.slice A_y21 n c_y21 : Value), (.slice A_y31 ((owS es m xs n (gk, gd) ki).length) c_y31 : Value), ((ai : Nat) : Int), (owS es m xs n (gk, gd) ki), ((ky, kd) : RK), (gp ++ [ki]))])), .blk b19 110 [.slice A_y11 pn c_y11, .slice A_y21 n c_y21, .int .i64 (((ai : Nat) : Int)), .slice A_y31 ((owS es m xs n (gk, gd) ki).length) c_y31], .own (.slice (some ⟨gz2, 0, none⟩) (zs2.length) cz2) 110 4 (zs2.length) (ncells zs2), .own (.slice (some ⟨b4, 0, none⟩) N3 N3) 28 1 N3 (oc T2), .blk b21 77 [.int .i64 (ix es (ki * 2)), .int .i64 (ix es (ki * 2 + 1))], .blk b3 48 [.slice none 0 0, .slice none 0 0], .blk b2 39 [.int .i64 Q, .slice Ac n cc], .blk b1 35 [.int .i64 N, .slice (some ⟨bg, og, none⟩) m cg]]) (Some'.weak (.take (.takeEq (by rw [ints_append]; exact congrArg (fun k => Res.own _ _ _ k _) (by simp)) (.take (.take (.take (.take (.take (.take (.take (.take (.take (.take (.take (.nil _))))))))))))))) ?_ ⟨_, _, rfl, fun _ => nofun, fun _ => nofun⟩
                      refine Run.q (v := .pointer (some ⟨b4, kc_, none⟩)) rfl (OpQ.y (OpY.index (kk := kc_) Tsl_68 rfl rfl (by omega) (by omega) (by first | rfl | omega))) ?_
                      refine Run.formOwn (.tail _ (List.Mem.head _)) (fun A_av51 c_av51 hv hcapc_av51 hmaxc_av51 => ?_) (fun _ _ _ => ⟨nofun, nofun, nofun⟩)
                      subst hv
                      refine Run.step rfl (OpStep.storeOwn (us := [.slice A_av51 ((lx T2 kc_ ++ [((mkD kd n : Nat) : Int)]).length) c_av51]) Tsize_28 rfl rfl rfl rfl (by rw [oc_set (T := T2) (c := kc_) (v := .slice A_av51 ((lx T2 kc_ ++ [((mkD kd n : Nat) : Int)]).length) c_av51) (l := lx T2 kc_ ++ [((mkD kd n : Nat) : Int)]) (by omega)]; exact (.there _ (.there _ (.there _ (.there _ (.there _ (.there _ (.there _ (.there _ (.here _)))))))))) (by simp only [List.length_cons, List.length_nil]; omega) ?_)
                      refine Run.done ?_
                      refine Run.weak (H' := [.grp 3 1 (gl (T2.set kc_ ((.slice A_av51 ((lx T2 kc_ ++ [((mkD kd n : Nat) : Int)]).length) c_av51 : Value), lx T2 kc_ ++ [((mkD kd n : Nat) : Int)]))), .own (.slice (some ⟨b34, 0, none⟩) 1 1) 3 1 1 ([.int .i64 (((mkD kd n : Nat) : Int))]), .grp 101 3 (sgN (zs2 ++ [((.slice A_y11 pn c_y11 : Value), (.slice A_y21 n c_y21 : Value), (.slice A_y31 ((owS es m xs n (gk, gd) ki).length) c_y31 : Value), ((ai : Nat) : Int), (owS es m xs n (gk, gd) ki), ((ky, kd) : RK), (gp ++ [ki]))])), .grp 4 1 (dgN n (zs2 ++ [((.slice A_y11 pn c_y11 : Value), (.slice A_y21 n c_y21 : Value), (.slice A_y31 ((owS es m xs n (gk, gd) ki).length) c_y31 : Value), ((ai : Nat) : Int), (owS es m xs n (gk, gd) ki), ((ky, kd) : RK), (gp ++ [ki]))])), .grp 3 1 (pgN pn (zs2 ++ [((.slice A_y11 pn c_y11 : Value), (.slice A_y21 n c_y21 : Value), (.slice A_y31 ((owS es m xs n (gk, gd) ki).length) c_y31 : Value), ((ai : Nat) : Int), (owS es m xs n (gk, gd) ki), ((ky, kd) : RK), (gp ++ [ki]))])), .blk b19 110 [.slice A_y11 pn c_y11, .slice A_y21 n c_y21, .int .i64 (((ai : Nat) : Int)), .slice A_y31 ((owS es m xs n (gk, gd) ki).length) c_y31], .own (.slice (some ⟨gz2, 0, none⟩) (zs2.length) cz2) 110 4 (zs2.length) (ncells zs2), .own (.slice (some ⟨b4, 0, none⟩) N3 N3) 28 1 N3 (oc (T2.set kc_ ((.slice A_av51 ((lx T2 kc_ ++ [((mkD kd n : Nat) : Int)]).length) c_av51 : Value), lx T2 kc_ ++ [((mkD kd n : Nat) : Int)]))), .blk b21 77 [.int .i64 (ix es (ki * 2)), .int .i64 (ix es (ki * 2 + 1))], .blk b3 48 [.slice none 0 0, .slice none 0 0], .blk b2 39 [.int .i64 Q, .slice Ac n cc], .blk b1 35 [.int .i64 N, .slice (some ⟨bg, og, none⟩) m cg]]) ((Weak.selF [1, 1]).trans (Weak.tbIn hset)) ?_ ⟨_, _, rfl, fun _ => nofun, fun _ => nofun⟩
                      refine Run.region ?_
                      refine Run.q (v := .slice (some ⟨gz2, 0, none⟩) (zs2.length) cz2) rfl (OpQ.y (OpY.pure rfl)) ?_
                      refine Run.q (v := .agg #[.slice A_y11 pn c_y11, .slice A_y21 n c_y21, .int .i64 (((ai : Nat) : Int)), .slice A_y31 ((owS es m xs n (gk, gd) ki).length) c_y31]) rfl (OpQ.y (OpY.loadN (cs := [.slice A_y11 pn c_y11, .slice A_y21 n c_y21, .int .i64 (((ai : Nat) : Int)), .slice A_y31 ((owS es m xs n (gk, gd) ki).length) c_y31]) Tagg_110 rfl (Cells.blk (.tail _ (.tail _ (.tail _ (.tail _ (.tail _ (List.Mem.head _)))))) ⟨rfl, rfl, rfl, rfl, trivial⟩))) ?_
                      refine Run.step rfl (OpStep.buildSlice (us := [.slice A_y11 pn c_y11, .slice A_y21 n c_y21, .int .i64 (((ai : Nat) : Int)), .slice A_y31 ((owS es m xs n (gk, gd) ki).length) c_y31]) Tsl_108 (by decide) (by decide) ⟨rfl, [.slice A_y11 pn c_y11, .slice A_y21 n c_y21, .int .i64 (((ai : Nat) : Int)), .slice A_y31 ((owS es m xs n (gk, gd) ki).length) c_y31], _, rfl, rfl, rfl, rfl⟩ rfl fun b35 => ?_)
                      refine Run.step rfl (OpStep.append (H1 := [.own (.slice (some ⟨b35, 0, none⟩) 1 1) 110 4 1 ([.slice A_y11 pn c_y11, .slice A_y21 n c_y21, .int .i64 (((ai : Nat) : Int)), .slice A_y31 ((owS es m xs n (gk, gd) ki).length) c_y31]), .grp 3 1 (gl (T2.set kc_ ((.slice A_av51 ((lx T2 kc_ ++ [((mkD kd n : Nat) : Int)]).length) c_av51 : Value), lx T2 kc_ ++ [((mkD kd n : Nat) : Int)]))), .own (.slice (some ⟨b34, 0, none⟩) 1 1) 3 1 1 ([.int .i64 (((mkD kd n : Nat) : Int))]), .grp 101 3 (sgN (zs2 ++ [((.slice A_y11 pn c_y11 : Value), (.slice A_y21 n c_y21 : Value), (.slice A_y31 ((owS es m xs n (gk, gd) ki).length) c_y31 : Value), ((ai : Nat) : Int), (owS es m xs n (gk, gd) ki), ((ky, kd) : RK), (gp ++ [ki]))])), .grp 4 1 (dgN n (zs2 ++ [((.slice A_y11 pn c_y11 : Value), (.slice A_y21 n c_y21 : Value), (.slice A_y31 ((owS es m xs n (gk, gd) ki).length) c_y31 : Value), ((ai : Nat) : Int), (owS es m xs n (gk, gd) ki), ((ky, kd) : RK), (gp ++ [ki]))])), .grp 3 1 (pgN pn (zs2 ++ [((.slice A_y11 pn c_y11 : Value), (.slice A_y21 n c_y21 : Value), (.slice A_y31 ((owS es m xs n (gk, gd) ki).length) c_y31 : Value), ((ai : Nat) : Int), (owS es m xs n (gk, gd) ki), ((ky, kd) : RK), (gp ++ [ki]))])), .blk b19 110 [.slice A_y11 pn c_y11, .slice A_y21 n c_y21, .int .i64 (((ai : Nat) : Int)), .slice A_y31 ((owS es m xs n (gk, gd) ki).length) c_y31]]) (H2 := [.own (.slice (some ⟨b4, 0, none⟩) N3 N3) 28 1 N3 (oc (T2.set kc_ ((.slice A_av51 ((lx T2 kc_ ++ [((mkD kd n : Nat) : Int)]).length) c_av51 : Value), lx T2 kc_ ++ [((mkD kd n : Nat) : Int)]))), .blk b21 77 [.int .i64 (ix es (ki * 2)), .int .i64 (ix es (ki * 2 + 1))], .blk b3 48 [.slice none 0 0, .slice none 0 0], .blk b2 39 [.int .i64 Q, .slice Ac n cc], .blk b1 35 [.int .i64 N, .slice (some ⟨bg, og, none⟩) m cg]]) (v := .slice (some ⟨gz2, 0, none⟩) (zs2.length) cz2) (u := .slice (some ⟨b35, 0, none⟩) 1 1) (n := zs2.length) (m := 1) (xs := ncells zs2) (ys := [.slice A_y11 pn c_y11, .slice A_y21 n c_y21, .int .i64 (((ai : Nat) : Int)), .slice A_y31 ((owS es m xs n (gk, gd) ki).length) c_y31]) Tsl_108 (by decide) rfl rfl rfl rfl (fun w hs => hs.slOwn (.head _)) (by simp [Value.oneCell', ncell]) (by omega) (by simp only [maxLen]; omega) fun av6 hnav6 => ?_)
                      refine Run.weak (H' := [.own (.slice (some ⟨b35, 0, none⟩) 1 1) 110 4 1 ([.slice A_y11 pn c_y11, .slice A_y21 n c_y21, .int .i64 (((ai : Nat) : Int)), .slice A_y31 ((owS es m xs n (gk, gd) ki).length) c_y31]), .grp 3 1 (gl (T2.set kc_ ((.slice A_av51 ((lx T2 kc_ ++ [((mkD kd n : Nat) : Int)]).length) c_av51 : Value), lx T2 kc_ ++ [((mkD kd n : Nat) : Int)]))), .own (.slice (some ⟨b34, 0, none⟩) 1 1) 3 1 1 ([.int .i64 (((mkD kd n : Nat) : Int))]), .grp 101 3 (sgN (zs2 ++ [((.slice A_y11 pn c_y11 : Value), (.slice A_y21 n c_y21 : Value), (.slice A_y31 ((owS es m xs n (gk, gd) ki).length) c_y31 : Value), ((ai : Nat) : Int), (owS es m xs n (gk, gd) ki), ((ky, kd) : RK), (gp ++ [ki]))])), .grp 4 1 (dgN n (zs2 ++ [((.slice A_y11 pn c_y11 : Value), (.slice A_y21 n c_y21 : Value), (.slice A_y31 ((owS es m xs n (gk, gd) ki).length) c_y31 : Value), ((ai : Nat) : Int), (owS es m xs n (gk, gd) ki), ((ky, kd) : RK), (gp ++ [ki]))])), .grp 3 1 (pgN pn (zs2 ++ [((.slice A_y11 pn c_y11 : Value), (.slice A_y21 n c_y21 : Value), (.slice A_y31 ((owS es m xs n (gk, gd) ki).length) c_y31 : Value), ((ai : Nat) : Int), (owS es m xs n (gk, gd) ki), ((ky, kd) : RK), (gp ++ [ki]))])), .blk b19 110 [.slice A_y11 pn c_y11, .slice A_y21 n c_y21, .int .i64 (((ai : Nat) : Int)), .slice A_y31 ((owS es m xs n (gk, gd) ki).length) c_y31], .own av6 110 4 ((zs2 ++ [((.slice A_y11 pn c_y11 : Value), (.slice A_y21 n c_y21 : Value), (.slice A_y31 ((owS es m xs n (gk, gd) ki).length) c_y31 : Value), ((ai : Nat) : Int), (owS es m xs n (gk, gd) ki), ((ky, kd) : RK), (gp ++ [ki]))]).length) (ncells (zs2 ++ [((.slice A_y11 pn c_y11 : Value), (.slice A_y21 n c_y21 : Value), (.slice A_y31 ((owS es m xs n (gk, gd) ki).length) c_y31 : Value), ((ai : Nat) : Int), (owS es m xs n (gk, gd) ki), ((ky, kd) : RK), (gp ++ [ki]))])), .own (.slice (some ⟨b4, 0, none⟩) N3 N3) 28 1 N3 (oc (T2.set kc_ ((.slice A_av51 ((lx T2 kc_ ++ [((mkD kd n : Nat) : Int)]).length) c_av51 : Value), lx T2 kc_ ++ [((mkD kd n : Nat) : Int)]))), .blk b21 77 [.int .i64 (ix es (ki * 2)), .int .i64 (ix es (ki * 2 + 1))], .blk b3 48 [.slice none 0 0, .slice none 0 0], .blk b2 39 [.int .i64 Q, .slice Ac n cc], .blk b1 35 [.int .i64 N, .slice (some ⟨bg, og, none⟩) m cg]]) (Some'.weak (.take (.take (.take (.take (.take (.take (.take (.takeEq (by rw [ncells_snoc]; exact congrArg (fun k => Res.own _ _ _ k _) (by simp)) (.take (.take (.take (.take (.take (.nil _))))))))))))))) ?_ ⟨_, _, rfl, fun _ => nofun, fun _ => nofun⟩
                      refine Run.q (v := av6) rfl (OpQ.y (OpY.pure rfl)) ?_
                      refine Run.done ?_
                      refine Run.blockEnd ?_
                      refine Run.region ?_
                      refine Run.q (v := .int .i64 ((((ki : Nat) : Int)) + 1)) rfl (OpQ.y (OpY.add rfl rfl rfl (by omega) (by omega))) ?_
                      refine Run.q (v := .int .i64 ((((ki : Nat) : Int)) + 1)) rfl (OpQ.y (OpY.pure rfl)) ?_
                      refine Run.done ?_
                      refine Run.goal ⟨(by repeat (first | exact Same.refl _ _ | refine Same.put rfl ?_ | refine Same.over rfl rfl ?_)), (ki + 1, av6, T2.set kc_ ((.slice A_av51 ((lx T2 kc_ ++ [((mkD kd n : Nat) : Int)]).length) c_av51 : Value), lx T2 kc_ ++ [((mkD kd n : Nat) : Int)]), (zs2 ++ [((.slice A_y11 pn c_y11 : Value), (.slice A_y21 n c_y21 : Value), (.slice A_y31 ((owS es m xs n (gk, gd) ki).length) c_y31 : Value), ((ai : Nat) : Int), (owS es m xs n (gk, gd) ki), ((ky, kd) : RK), (gp ++ [ki]))])), ?_, ?_, ?_, ?_⟩
                      · first | exact ⟨hki, hbv.symm, hlk2, htb2, tz, htz⟩ | exact ⟨hki, by rw [nk_snoc, hbv], hlk2.snoc (.inr ⟨ai, ki, ((.slice gA1 pn gc1 : Value), (.slice gA2 n gc2 : Value), (.slice gA3 (gw.length) gc3 : Value), gf, gw, ((gk, gd) : RK), gp), rfl, hz2, rfl, rfl⟩), by rw [nk_snoc]; exact htb2.snoc hkc (by omega), tz ++ [_], by rw [htz, List.append_assoc]⟩
                      · show m - (ki + 1) < m - ki; omega
                      · exact ⟨(by first | rfl | (congr 1; omega) | simp), (by first | rfl | (congr 1; omega) | simp), trivial⟩
                      · exact ((Weak.selF [7, 5, 4, 3, 4, 1, 4, 4, 4]).trans (Some'.weak (.takeEq (by first | rfl | simp) (.takeEq (by first | rfl | simp) (.takeEq (by first | rfl | simp) (.takeEq (by first | rfl | simp) (.takeEq (by first | rfl | simp) (.takeEq (by first | rfl | simp) (.take (.take (.takeEq (by first | rfl | simp) (.nil _))))))))))))
                    · have p152 := h152; try simp only [bs] at p152
                      have hyin : (ky, kd) ∈ (nk zs2).map (·.1) := by simpa using p152
                      have hbv : brow (kstep es m xs n) (fun _ => true) ((gk, gd), gp) (bfsL (kstep es m xs n) m (st0 (mKeys es m xs n sts) 0) ai) (ki + 1) = nk zs2 := by
                        rw [hrow, ← hzq2, bvis, if_neg (fun h => h.2 (by rw [hkk]; exact hyin))]
                      refine Run.skip ?_
                      refine Run.blockEnd ?_
                      refine Run.region ?_
                      refine Run.q (v := .int .i64 ((((ki : Nat) : Int)) + 1)) rfl (OpQ.y (OpY.add rfl rfl rfl (by omega) (by omega))) ?_
                      refine Run.q (v := .int .i64 ((((ki : Nat) : Int)) + 1)) rfl (OpQ.y (OpY.pure rfl)) ?_
                      refine Run.done ?_
                      refine Run.goal ⟨(by repeat (first | exact Same.refl _ _ | refine Same.put rfl ?_ | refine Same.over rfl rfl ?_)), (ki + 1, .slice (some ⟨gz2, 0, none⟩) (zs2.length) cz2, T2, zs2), ?_, ?_, ?_, ?_⟩
                      · first | exact ⟨hki, hbv.symm, hlk2, htb2, tz, htz⟩ | exact ⟨hki, by rw [nk_snoc, hbv], hlk2.snoc (.inr ⟨ai, ki, ((.slice gA1 pn gc1 : Value), (.slice gA2 n gc2 : Value), (.slice gA3 (gw.length) gc3 : Value), gf, gw, ((gk, gd) : RK), gp), rfl, hz2, rfl, rfl⟩), by rw [nk_snoc]; exact htb2.snoc hkc (by omega), tz ++ [_], by rw [htz, List.append_assoc]⟩
                      · show m - (ki + 1) < m - ki; omega
                      · exact ⟨(by first | rfl | (congr 1; omega) | simp), (by first | rfl | (congr 1; omega) | simp), trivial⟩
                      · exact ((Weak.selF [4, 4, 4, 4, 4, 4, 5, 5, 5]).trans (Some'.weak (.takeEq (by first | rfl | simp) (.takeEq (by first | rfl | simp) (.takeEq (by first | rfl | simp) (.takeEq (by first | rfl | simp) (.takeEq (by first | rfl | simp) (.takeEq (by first | rfl | simp) (.take (.take (.takeEq (by first | rfl | simp) (.nil _))))))))))))
              · have p111 := h111; try simp only [bs] at p111
                have hkn2 : ki = m := by omega
                obtain ⟨_, hzq2, hlk2, htb2, ⟨tz, htz⟩⟩ := hinv
                have hQ1 : nk zs2 = bfsL (kstep es m xs n) m (st0 (mKeys es m xs n sts) 0) (ai + 1) := by rw [hzq2, hkn2]; exact (bfsL_succ hzx).symm
                refine Run.exit rfl ?_
                refine Run.blockEnd ?_
                refine Run.region ?_
                refine Run.q (v := .int .i64 (((ai : Nat) : Int))) rfl (OpQ.y (OpY.pure rfl)) ?_
                refine Run.q (v := .int .i64 ((((ai : Nat) : Int)) + 1)) rfl (OpQ.y (OpY.add rfl rfl rfl (by omega) (by omega))) ?_
                refine Run.q (v := .int .i64 ((((ai : Nat) : Int)) + 1)) rfl (OpQ.y (OpY.pure rfl)) ?_
                refine Run.done ?_
                refine Run.goal ⟨(by repeat (first | exact Same.refl _ _ | refine Same.put rfl ?_ | refine Same.over rfl rfl ?_)), (ai + 1, vl2, T2, zs2), ?_, ?_, ?_, ?_⟩
                · refine ⟨by omega, hQ1, hlk2, htb2, fun j hj z hzj => ?_⟩
                  by_cases hja : j = ai
                  · subst hja
                    rw [htz, List.getElem?_append_left hai, hz] at hzj
                    cases hzj; exact hnall
                  · rw [htz, List.getElem?_append_left (by omega)] at hzj
                    exact hzn j (by omega) z hzj
                · show 12800001 - (ai + 1) < 12800001 - ai; omega
                · exact ⟨(by first | rfl | (congr 1; omega) | simp), (by first | rfl | (congr 1; omega) | simp), trivial⟩
                · exact ((Weak.refl _).trans (Some'.weak (.takeEq (by first | rfl | simp) (.takeEq (by first | rfl | simp) (.takeEq (by first | rfl | simp) (.takeEq (by first | rfl | simp) (.takeEq (by first | rfl | simp) (.takeEq (by first | rfl | simp) (.take (.take (.take (.nil _))))))))))))
        · have p69 := h69; try simp only [bs] at p69
          obtain ⟨hai0, hzq, hlk, htb, hzn⟩ := hinv
          have hno := mR_no (M := M) (es := es) (m := m) (xs := xs) (n := n) (sts := sts) (mP_none (i := ai) (by omega) (by rw [← hzq, nk, List.length_map]; omega) fun j hj y hy => by
            rw [← hzq, nk, List.getElem?_map] at hy
            cases hzj : zs[j]? with
            | none => rw [hzj] at hy; cases hy
            | some z => rw [hzj] at hy; cases hy; exact hzn j hj z hzj)
          refine Run.exit rfl ?_
          refine Run.seq ?_
          refine Run.region ?_
          refine Run.q (v := .agg #[.slice none 0 0, .slice none 0 0]) rfl (OpQ.y (OpY.build (cs := [.slice none 0 0, .slice none 0 0]) (by kernel_rfl))) ?_
          refine Run.step rfl (OpStep.storeAll (us := [.slice none 0 0, .slice none 0 0]) Tsize_48 rfl rfl rfl (.there _ (.there _ (.there _ (.there _ (.there _ (.there _ (.here _))))))) rfl ?_)
          refine Run.q (v := .bool false) rfl (OpQ.y (OpY.pure rfl)) ?_
          refine Run.done ?_
          refine Run.ret ?_
          refine ⟨.tuple #[.agg #[.slice none 0 0, .slice none 0 0], .bool false], [.own (.slice none 0 0) 3 1 0 ([]), .own (.slice none 0 0) 101 3 0 ([])], Out.cell2 (cs := [.slice none 0 0, .slice none 0 0]) rfl Tagg_48 rfl (Cells.blk (.tail _ (.tail _ (.tail _ (.tail _ (.tail _ (.tail _ (List.Mem.head _))))))) ⟨rfl, rfl, trivial⟩) rfl, ((Weak.nilOwn 101 3).trans ((Weak.nilOwn 3 1).trans (Some'.weak (.take (.take (.nil _)))))), ?_⟩
          exact ⟨_, _, by rw [hno.1], by rw [hno.2.1, hno.2.2]; rfl⟩

end Go.Proofs.Ytekikmdjldincaa
