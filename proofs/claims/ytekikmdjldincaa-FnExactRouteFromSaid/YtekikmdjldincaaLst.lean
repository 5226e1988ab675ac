/- Walks: RouteFrom and LeastSwaps of both sides. -/
import Derived.Test.YtekikmdjldincaaLss
import Derived.Test.YtekikmdjldincaaProg
set_option linter.unusedSimpArgs false
set_option linter.unusedVariables false
namespace Go.Proofs.Ytekikmdjldincaa
open Go Go.RowKit
namespace LstT
theorem Tagg_35 : aggOf Try.prog 35 = some 2 := by kernel_rfl
theorem Tagg_39 : aggOf Try.prog 39 = some 2 := by kernel_rfl
theorem Tagg_48 : aggOf Try.prog 48 = some 2 := by kernel_rfl
theorem Tcall_16 : callable Try.prog 16 = true := by kernel_rfl
theorem Tcall_30 : callable Try.prog 30 = true := by kernel_rfl
theorem Tcall_31 : callable Try.prog 31 = true := by kernel_rfl
theorem Tcall_34 : callable Try.prog 34 = true := by kernel_rfl
theorem Tcall_35 : callable Try.prog 35 = true := by kernel_rfl
theorem Tcall_36 : callable Try.prog 36 = true := by kernel_rfl
theorem Tfo_39_0 : fieldOff Try.prog 39 0 = some 0 := by kernel_rfl
theorem Tfo_39_1 : fieldOff Try.prog 39 1 = some 1 := by kernel_rfl
theorem Tfo_48_1 : fieldOff Try.prog 48 1 = some 1 := by kernel_rfl
theorem Tone_3 : oneOf Try.prog 3 = true := by kernel_rfl
theorem Tone_37 : oneOf Try.prog 37 = true := by kernel_rfl
theorem Tone_46 : oneOf Try.prog 46 = true := by kernel_rfl
theorem Tsize_48 : (Try.prog.info? 48).map (·.size) = some 2 := by kernel_rfl
theorem Tsl_37 : sliceOf Try.prog 37 = some (81, 3, 24, [.int .i64 0, .int .i64 0, .int .i64 0]) := by kernel_rfl
theorem Tsl_46 : sliceOf Try.prog 46 = some (101, 3, 24, [.int .i64 0, .int .i64 0, .int .i64 0]) := by kernel_rfl
theorem Tsl_68 : sliceOf Try.prog 68 = some (28, 1, 24, [.slice none 0 0]) := by kernel_rfl
theorem Tzero_48 : zeroOf Try.prog 48 = some [.slice none 0 0, .slice none 0 0] := by kernel_rfl
end LstT
open LstT

theorem rt_one {M : Nat} {N Q : Int} {es xs ps : List Int} {m n pn : Nat} (ho : rtO N es m Q xs n ps pn = true) : (mR M es m xs n [ps]).isSome = rtB M N es m Q xs n ps pn ∧ mS M es m xs n [ps] = rtS M N es m Q xs n ps pn ∧ mL M es m xs n [ps] = rtL M N es m Q xs n ps pn := by
  have e : mR M es m xs n [ps] = (rtP M es m xs n (rS es m xs n ps)).map fun p => 0 :: p := rtP_mP M es m xs n (rS es m xs n ps)
  cases h : rtP M es m xs n (rS es m xs n ps) with
  | none =>
    rw [h] at e
    obtain ⟨h1, h2, h3⟩ := rt_no (M := M) (N := N) (es := es) (m := m) (Q := Q) (xs := xs) (n := n) (ps := ps) (pn := pn) (.inr h)
    obtain ⟨h4, h5, h6⟩ := mR_no (sts := [ps]) e
    exact ⟨h4.trans h1.symm, h5.trans h2.symm, h6.trans h3.symm⟩
  | some p =>
    rw [h] at e
    obtain ⟨h1, h2, h3⟩ := rt_yes (M := M) (pn := pn) ho h
    obtain ⟨h4, h5, h6⟩ := mR_yes (sts := [ps]) e
    exact ⟨h4.trans h1.symm, h5.trans h2.symm, h6.trans h3.symm⟩
theorem rt_count {M : Nat} {N Q : Int} {es xs ps : List Int} {m n pn : Nat} {p : List Nat} (hl : ps.length = pn) (ho : rtO N es m Q xs n ps pn = true) (h : rtP M es m xs n (rS es m xs n ps) = some p) : (rtL M N es m Q xs n ps pn).length = n + p.length ∧ swC (rtL M N es m Q xs n ps pn) = p.length := by
  obtain ⟨_, _, h3⟩ := rt_yes (M := M) (pn := pn) ho h
  have hF := rtF_of ho
  rw [h3]
  rw [rtP, Option.map_eq_some_iff] at h
  obtain ⟨y, hy, rfl⟩ := h
  have hym := List.mem_of_find?_eq_some hy
  have hyd : allD y.1.2 n = true := List.find?_some (p := fun y : RK × List Nat => allD y.1.2 n) hy
  have hev := (bfs_inv (step := kstep es m xs n) (ok := fun _ => true) (E := m) (s := rS es m xs n ps) M).ev y hym
  have hbw : ∀ e ∈ y.2, e < m := fun e he => ((bfs_inv (step := kstep es m xs n) (ok := fun _ => true) (E := m) (s := rS es m xs n ps) M).okw y hym e he).1
  have h4 := stp_len hF.he y.2 (rS es m xs n ps) (rL es m xs n ps) (rS_ok hF hl) hbw
  have h5 := advS_len (es := es) (m := m) (xs := xs) (ps := ps) (n := n) _ (List.replicate n false) [] rfl (by simp)
  have h6 : (rL es m xs n ps).length + und (rS es m xs n ps).2 = n := by
    have e : (rL es m xs n ps).length + und (rS es m xs n ps).2 = (advS (goB es m xs ps) n (List.replicate n false) []).2.length + und (advS (goB es m xs ps) n (List.replicate n false) []).1 := rfl
    rw [e, h5]; simp [und]
  have h7 : und y.1.2 = 0 := by
    have hk : KOk N Q pn n xs y.1 := rQ_key hF.he (rS_ok hF hl) M y hym
    unfold und
    rw [List.count_eq_zero]
    intro hm
    obtain ⟨j, hj, hje⟩ := List.getElem_of_mem hm
    have hb : bx y.1.2 j = false := by simp [bx, List.getD, hj, hje]
    have h8 : allD y.1.2 n = false := by
      unfold allD
      rw [anyI_true (by rw [← hk.dl]; exact hj) (by rw [hb]; rfl)]; rfl
    rw [h8] at hyd; exact absurd hyd (by decide)
  rw [hev, h7, h6] at h4
  refine ⟨by omega, ?_⟩
  rw [stp_sw]
  have h9 : swC (rL es m xs n ps) = 0 := by
    unfold rL advS
    rw [adv_sw]; rfl
  rw [h9]; omega
/-- The number of swaps. -/
def lsw (M : Nat) (N : Int) (es : List Int) (m : Nat) (Q : Int) (xs : List Int) (n : Nat) (ps : List Int) (pn : Nat) : Nat := swC (rtL M N es m Q xs n ps pn)
theorem lsw_no {M : Nat} {N Q : Int} {es xs ps : List Int} {m n pn : Nat} (h : rtB M N es m Q xs n ps pn = false) : lsw M N es m Q xs n ps pn = 0 := by
  have h2 : rtL M N es m Q xs n ps pn = [] := by
    unfold rtB at h
    rw [Bool.and_eq_false_iff] at h
    rcases h with h | h
    · exact (rt_no (.inl h)).2.2
    · exact (rt_no (.inr (by simpa using h))).2.2
  rw [lsw, h2]; rfl
theorem lsw_yes {M : Nat} {N Q : Int} {es xs ps : List Int} {m n pn : Nat} (hl : ps.length = pn) (h : rtB M N es m Q xs n ps pn = true) : (rtL M N es m Q xs n ps pn).length = n + lsw M N es m Q xs n ps pn := by
  unfold rtB at h
  rw [Bool.and_eq_true, Option.isSome_iff_exists] at h
  obtain ⟨ho, p, hp⟩ := h
  obtain ⟨h1, h2⟩ := rt_count hl ho hp
  rw [lsw, h2, h1]


theorem rt_bnd {M : Nat} {N Q : Int} {es xs ps : List Int} {m n pn : Nat} (hl : ps.length = pn) : (rtS M N es m Q xs n ps pn).length ≤ 5 ∧ (rtL M N es m Q xs n ps pn).length ≤ 12800040 := by
  cases ho : rtO N es m Q xs n ps pn with
  | false =>
    obtain ⟨_, h2, h3⟩ := rt_no (M := M) (N := N) (es := es) (m := m) (Q := Q) (xs := xs) (n := n) (ps := ps) (pn := pn) (.inl ho)
    rw [h2, h3]; simp
  | true =>
    have hF := rtF_of ho
    cases h : rtP M es m xs n (rS es m xs n ps) with
    | none =>
      obtain ⟨_, h2, h3⟩ := rt_no (M := M) (N := N) (es := es) (m := m) (Q := Q) (xs := xs) (n := n) (ps := ps) (pn := pn) (.inr h)
      rw [h2, h3]; simp
    | some p =>
      obtain ⟨_, h2, _⟩ := rt_yes (M := M) (pn := pn) ho h
      have h3 := (rt_count (M := M) hl ho h).1
      have hp : p.length ≤ 12800000 := by
        rw [rtP, Option.map_eq_some_iff] at h
        obtain ⟨y, hy, rfl⟩ := h
        obtain ⟨j, hj, hje⟩ := List.getElem_of_mem (List.mem_of_find?_eq_some hy)
        have h4 := bfs_plen (step := kstep es m xs n) (ok := fun _ => true) (E := m) (s := rS es m xs n ps) M j y (show (rQ es m xs n (rS es m xs n ps) M)[j]? = some y by rw [List.getElem?_eq_getElem hj, hje])
        have h5 := rQ_small hF.hN.2 hF.hpn.2 hF.hc hF.he (rS_ok hF hl) M
        omega
      have := hF.hn
      have := hF.hpn
      rw [h2, h3]; omega


theorem l23SearchOne_spec {M : Nat} {N Q : Int} {vg vc vp vt : Value} {m n pn : Nat} {es xs ps : List Int} {w : World} (hM : 12800000 < M) (hO : rtO N es m Q xs n ps pn = true) (hpl : ps.length = pn) (hg : Sl w vg 2 m (ints es)) (hc : Sl w vc 3 n (ints xs)) (hv : Sl w vt 1 1 [vp]) (hp : Sl w vp 1 pn (ints ps)) : Calls Try.prog 36 #[.agg #[.int .i64 N, vg], .agg #[.int .i64 Q, vc], vt] w (Post No w fun v H => ∃ v1 v2, v = .tuple #[.agg #[v1, v2], .bool (rtB M N es m Q xs n ps pn)] ∧ H = [.own v1 3 1 (rtS M N es m Q xs n ps pn).length (ints (rtS M N es m Q xs n ps pn)), .own v2 101 3 (rtL M N es m Q xs n ps pn).length (ints (fl3 (rtL M N es m Q xs n ps pn)))]) := by
  have hF := rtF_of hO
  have hsm : smB N es m Q xs n = true := by
    unfold rtO at hO
    rw [Bool.and_eq_true] at hO; exact hO.1
  have hone := rt_one (M := M) (pn := pn) hO
  have h := l23Search_spec (M := M) (N := N) (Q := Q) (SV := [(vp, ps)]) (vt := vt) (w := w) hM hsm hF.hpn (fun i hi => by
    have hi0 : i = 0 := by simp only [List.length_cons, List.length_nil] at hi; omega
    subst hi0
    exact ⟨hF.hpl, hpl⟩) (by simp) hg hc hv (fun i hi => by
    have hi0 : i = 0 := by simp only [List.length_cons, List.length_nil] at hi; omega
    subst hi0
    exact hp)
  rw [show ([(vp, ps)].map (·.2)) = [ps] from rfl, hone.1, hone.2.1, hone.2.2] at h
  exact h

set_option maxHeartbeats 1000000 in
set_option maxRecDepth 20000 in
theorem RouteFrom_spec {M : Nat} {N Q : Int} {vg vc vp : Value} {m n pn : Nat} {es xs ps : List Int} {w : World} (hM : 12800000 < M) (hg : Sl w vg 2 m (ints es)) (hc : Sl w vc 3 n (ints xs)) (hp : Sl w vp 1 pn (ints ps)) : Calls Try.prog 17 #[.agg #[.int .i64 N, vg], .agg #[.int .i64 Q, vc], vp] w (Post No w fun v H => ∃ v1 v2, v = .tuple #[.agg #[v1, v2], .bool (rtB M N es m Q xs n ps pn)] ∧ H = [.own v1 3 1 (rtS M N es m Q xs n ps pn).length (ints (rtS M N es m Q xs n ps pn)), .own v2 101 3 (rtL M N es m Q xs n ps pn).length (ints (fl3 (rtL M N es m Q xs n ps pn)))]) := by
  refine enter (n := 14) (args := [.agg #[.int .i64 N, vg], .agg #[.int .i64 Q, vc], vp]) Try.func17 rfl rfl (St.empty _ _) ?_
  refine Run.seq ?_
  refine Run.region ?_
  refine Run.step rfl (OpStep.box (us := [.int .i64 N, vg]) rfl fun b1 => ?_)
  refine Run.step rfl (OpStep.box (us := [.int .i64 Q, vc]) rfl fun b2 => ?_)
  refine Run.step rfl (OpStep.alloc (zs := [.slice none 0 0, .slice none 0 0]) Tzero_48 fun b3 => ?_)
  refine Run.q (v := .bool false) rfl (OpQ.y (OpY.pure rfl)) ?_
  refine Run.done ?_
  refine Run.seq ?_
  refine Run.region ?_
  refine Run.q (v := .agg #[.int .i64 N, vg]) rfl (OpQ.y (OpY.loadN (cs := [.int .i64 N, vg]) Tagg_35 rfl (Cells.blk (.tail _ (.tail _ (List.Mem.head _))) ⟨rfl, rfl, trivial⟩))) ?_
  refine Run.q (v := .agg #[.int .i64 Q, vc]) rfl (OpQ.y (OpY.loadN (cs := [.int .i64 Q, vc]) Tagg_39 rfl (Cells.blk (.tail _ (List.Mem.head _)) ⟨rfl, rfl, trivial⟩))) ?_
  refine Run.q (v := vp) rfl (OpQ.y (OpY.pure rfl)) ?_
  refine Run.step rfl (OpStep.call (vs := [.agg #[.int .i64 N, vg], .agg #[.int .i64 Q, vc], vp]) (caps := []) Tcall_30 rfl rfl (fun w hs => leastRoute_spec hM (hs.sl hg) (hs.sl hc) (hs.sl hp)) ?_)
  rintro _ _ ⟨u1, u2, rfl, rfl⟩
  show Run _ _ (putF _ _ _ (.tuple #[.agg #[u1, u2], .bool (rtB M N es m Q xs n ps pn)])) [.own u1 3 1 ((rtS M N es m Q xs n ps pn).length) (ints (rtS M N es m Q xs n ps pn)), .own u2 101 3 ((rtL M N es m Q xs n ps pn).length) (ints (fl3 (rtL M N es m Q xs n ps pn))), .blk b3 48 [.slice none 0 0, .slice none 0 0], .blk b2 39 [.int .i64 Q, vc], .blk b1 35 [.int .i64 N, vg]]
  refine Run.q (v := .agg #[u1, u2]) rfl (OpQ.y (OpY.pure rfl)) ?_
  refine Run.q (v := .bool (rtB M N es m Q xs n ps pn)) rfl (OpQ.y (OpY.pure rfl)) ?_
  refine Run.formOwn (.head _) (fun A_u11 c_u11 hv hcapc_u11 hmaxc_u11 => ?_) (fun _ _ _ => ⟨nofun, nofun, nofun⟩)
  subst hv
  refine Run.formOwn (.tail _ (List.Mem.head _)) (fun A_u21 c_u21 hv hcapc_u21 hmaxc_u21 => ?_) (fun _ _ _ => ⟨nofun, nofun, nofun⟩)
  subst hv
  refine Run.step rfl (OpStep.storeAll (us := [.slice A_u11 ((rtS M N es m Q xs n ps pn).length) c_u11, .slice A_u21 ((rtL M N es m Q xs n ps pn).length) c_u21]) Tsize_48 rfl rfl rfl (.there _ (.there _ (.here _))) rfl ?_)
  refine Run.q (v := .bool (rtB M N es m Q xs n ps pn)) rfl (OpQ.y (OpY.pure rfl)) ?_
  refine Run.done ?_
  refine Run.ret ?_
  refine ⟨.tuple #[.agg #[.slice A_u11 ((rtS M N es m Q xs n ps pn).length) c_u11, .slice A_u21 ((rtL M N es m Q xs n ps pn).length) c_u21], .bool (rtB M N es m Q xs n ps pn)], [.own (.slice A_u11 ((rtS M N es m Q xs n ps pn).length) c_u11) 3 1 ((rtS M N es m Q xs n ps pn).length) (ints (rtS M N es m Q xs n ps pn)), .own (.slice A_u21 ((rtL M N es m Q xs n ps pn).length) c_u21) 101 3 ((rtL M N es m Q xs n ps pn).length) (ints (fl3 (rtL M N es m Q xs n ps pn)))], Out.cell2 (cs := [.slice A_u11 ((rtS M N es m Q xs n ps pn).length) c_u11, .slice A_u21 ((rtL M N es m Q xs n ps pn).length) c_u21]) rfl Tagg_48 rfl (Cells.blk (.tail _ (.tail _ (List.Mem.head _))) ⟨rfl, rfl, trivial⟩) rfl, (Some'.weak (.take (.take (.nil _)))), ?_⟩
  exact ⟨_, _, rfl, rfl⟩

set_option maxHeartbeats 1000000 in
set_option maxRecDepth 20000 in
theorem sRouteFrom_spec {M : Nat} {N Q : Int} {vg vc vp : Value} {m n pn : Nat} {es xs ps : List Int} {w : World} (hM : 12800000 < M) (hN : In64 N) (hw : ∀ x ∈ es, In64 x) (hg : Sl w vg 2 m (ints es)) (hc : Sl w vc 3 n (ints xs)) (hp : Sl w vp 1 pn (ints ps)) : Calls Try.prog 16 #[.agg #[.int .i64 N, vg], .agg #[.int .i64 Q, vc], vp] w (Post No w fun v H => ∃ v1 v2, v = .tuple #[.agg #[v1, v2], .bool (rtB M N es m Q xs n ps pn)] ∧ H = [.own v1 3 1 (rtS M N es m Q xs n ps pn).length (ints (rtS M N es m Q xs n ps pn)), .own v2 101 3 (rtL M N es m Q xs n ps pn).length (ints (fl3 (rtL M N es m Q xs n ps pn)))]) := by
  have hpl : ps.length = pn := by have := hp.len; omega
  obtain ⟨Av, cv, rfl, _, _⟩ := hp.form0
  refine enter (n := 28) (args := [.agg #[.int .i64 N, vg], .agg #[.int .i64 Q, vc], .slice Av pn cv]) Try.func16 rfl rfl (St.empty _ _) ?_
  refine Run.seq ?_
  refine Run.region ?_
  refine Run.step rfl (OpStep.box (us := [.int .i64 N, vg]) rfl fun b1 => ?_)
  refine Run.step rfl (OpStep.box (us := [.int .i64 Q, vc]) rfl fun b2 => ?_)
  refine Run.step rfl (OpStep.alloc (zs := [.slice none 0 0, .slice none 0 0]) Tzero_48 fun b3 => ?_)
  refine Run.q (v := .bool false) rfl (OpQ.y (OpY.pure rfl)) ?_
  refine Run.done ?_
  refine Run.seq ?_
  refine Run.seq ?_
  refine Run.region ?_
  refine Run.q (v := .agg #[.int .i64 N, vg]) rfl (OpQ.y (OpY.loadN (cs := [.int .i64 N, vg]) Tagg_35 rfl (Cells.blk (.tail _ (.tail _ (List.Mem.head _))) ⟨rfl, rfl, trivial⟩))) ?_
  refine Run.q (v := .agg #[.int .i64 Q, vc]) rfl (OpQ.y (OpY.loadN (cs := [.int .i64 Q, vc]) Tagg_39 rfl (Cells.blk (.tail _ (List.Mem.head _)) ⟨rfl, rfl, trivial⟩))) ?_
  refine Run.q (v := .bool (smB N es m Q xs n)) rfl (OpQ.call (vs := [.agg #[.int .i64 N, vg], .agg #[.int .i64 Q, vc]]) (caps := []) Tcall_34 rfl rfl (fun w hs => l23Small_spec hN hw (hs.sl hg) (hs.sl hc))) ?_
  refine Run.q (v := .bool (!(smB N es m Q xs n))) rfl (OpQ.y (OpY.pure rfl)) ?_
  rcases Bool.eq_false_or_eq_true (!(smB N es m Q xs n)) with h12 | h12
  · refine Run.q (v := .bool true) rfl (OpQ.y (OpY.moveB rfl h12)) ?_
    have p12 := h12; try simp only [bs] at p12
    have hno := rt_no (M := M) (N := N) (es := es) (m := m) (Q := Q) (xs := xs) (n := n) (ps := ps) (pn := pn) (.inl (by rw [rtO, show smB N es m Q xs n = false by simpa using p12]; rfl))
    refine Run.pass rfl ?_
    refine Run.pass rfl ?_
    refine Run.pass rfl ?_
    refine Run.pass rfl ?_
    refine Run.pass rfl ?_
    refine Run.pass rfl ?_
    refine Run.q (v := .bool true) rfl (OpQ.y (OpY.pure rfl)) ?_
    refine Run.done ?_
    refine Run.cond (b := true) rfl (fun _ => ?_) (fun h => nomatch h)
    refine Run.seq ?_
    refine Run.region ?_
    refine Run.q (v := .agg #[.slice none 0 0, .slice none 0 0]) rfl (OpQ.y (OpY.build (cs := [.slice none 0 0, .slice none 0 0]) (by kernel_rfl))) ?_
    refine Run.step rfl (OpStep.storeAll (us := [.slice none 0 0, .slice none 0 0]) Tsize_48 rfl rfl rfl (.here _) rfl ?_)
    refine Run.q (v := .bool false) rfl (OpQ.y (OpY.pure rfl)) ?_
    refine Run.done ?_
    refine Run.ret ?_
    refine ⟨.tuple #[.agg #[.slice none 0 0, .slice none 0 0], .bool false], [.own (.slice none 0 0) 3 1 0 ([]), .own (.slice none 0 0) 101 3 0 ([])], Out.cell2 (cs := [.slice none 0 0, .slice none 0 0]) rfl Tagg_48 rfl (Cells.blk (.head _) ⟨rfl, rfl, trivial⟩) rfl, ((Weak.nilOwn 101 3).trans ((Weak.nilOwn 3 1).trans (Some'.weak (.take (.take (.nil _)))))), ?_⟩
    exact ⟨_, _, by rw [hno.1], by rw [hno.2.1, hno.2.2]; rfl⟩
  · refine Run.q (v := .bool false) rfl (OpQ.y (OpY.moveB rfl h12)) ?_
    have p12 := h12; try simp only [bs] at p12
    have hsm : smB N es m Q xs n = true := by simpa using p12
    have hcN0 : 1 ≤ N ∧ N ≤ 8 := by
      simp only [smB, fitOk, Bool.and_eq_true] at hsm
      exact cgOk_N hsm.1.1.1.1.1
    refine Run.q (v := .agg #[.int .i64 N, vg]) rfl (OpQ.y (OpY.loadN (cs := [.int .i64 N, vg]) Tagg_35 rfl (Cells.blk (.tail _ (.tail _ (List.Mem.head _))) ⟨rfl, rfl, trivial⟩))) ?_
    refine Run.q (v := .pointer (some ⟨b2, 0, none⟩)) rfl (OpQ.y (OpY.fieldAddr Tfo_39_0 rfl rfl)) ?_
    refine Run.q (v := .int .i64 Q) rfl (OpQ.y (OpY.load1 Tone_3 rfl (Cells.blk (.tail _ (List.Mem.head _)) ⟨rfl, trivial⟩))) ?_
    refine Run.q (v := .slice Av pn cv) rfl (OpQ.y (OpY.pure rfl)) ?_
    refine Run.q (v := .bool (plOk N Q ps pn)) rfl (OpQ.call (vs := [.agg #[.int .i64 N, vg], .int .i64 Q, .slice Av pn cv]) (caps := []) Tcall_35 rfl rfl (fun w hs => l23Placement_spec hcN0 (hs.sl hp))) ?_
    refine Run.q (v := .bool (!(plOk N Q ps pn))) rfl (OpQ.y (OpY.pure rfl)) ?_
    refine Run.q (v := .bool (!(plOk N Q ps pn))) rfl (OpQ.y (OpY.pure rfl)) ?_
    refine Run.done ?_
    refine Run.cond (b := !(plOk N Q ps pn)) rfl (fun h19 => ?_) (fun h19 => ?_)
    · have p19 := h19; try simp only [bs] at p19
      have hno := rt_no (M := M) (N := N) (es := es) (m := m) (Q := Q) (xs := xs) (n := n) (ps := ps) (pn := pn) (.inl (by rw [rtO, show plOk N Q ps pn = false by simpa using p19, Bool.and_false]))
      refine Run.seq ?_
      refine Run.region ?_
      refine Run.q (v := .agg #[.slice none 0 0, .slice none 0 0]) rfl (OpQ.y (OpY.build (cs := [.slice none 0 0, .slice none 0 0]) (by kernel_rfl))) ?_
      refine Run.step rfl (OpStep.storeAll (us := [.slice none 0 0, .slice none 0 0]) Tsize_48 rfl rfl rfl (.here _) rfl ?_)
      refine Run.q (v := .bool false) rfl (OpQ.y (OpY.pure rfl)) ?_
      refine Run.done ?_
      refine Run.ret ?_
      refine ⟨.tuple #[.agg #[.slice none 0 0, .slice none 0 0], .bool false], [.own (.slice none 0 0) 3 1 0 ([]), .own (.slice none 0 0) 101 3 0 ([])], Out.cell2 (cs := [.slice none 0 0, .slice none 0 0]) rfl Tagg_48 rfl (Cells.blk (.head _) ⟨rfl, rfl, trivial⟩) rfl, ((Weak.nilOwn 101 3).trans ((Weak.nilOwn 3 1).trans (Some'.weak (.take (.take (.nil _)))))), ?_⟩
      exact ⟨_, _, by rw [hno.1], by rw [hno.2.1, hno.2.2]; rfl⟩
    · have p19 := h19; try simp only [bs] at p19
      have hO : rtO N es m Q xs n ps pn = true := by
        have h : plOk N Q ps pn = true := by simpa using p19
        rw [rtO, hsm, h]; rfl
      have hF := rtF_of hO
      have hone := rt_one (M := M) (pn := pn) hO
      refine Run.skip ?_
      refine Run.seq ?_
      refine Run.region ?_
      refine Run.q (v := .agg #[.int .i64 N, vg]) rfl (OpQ.y (OpY.loadN (cs := [.int .i64 N, vg]) Tagg_35 rfl (Cells.blk (.tail _ (.tail _ (List.Mem.head _))) ⟨rfl, rfl, trivial⟩))) ?_
      refine Run.q (v := .agg #[.int .i64 Q, vc]) rfl (OpQ.y (OpY.loadN (cs := [.int .i64 Q, vc]) Tagg_39 rfl (Cells.blk (.tail _ (List.Mem.head _)) ⟨rfl, rfl, trivial⟩))) ?_
      refine Run.q (v := .slice Av pn cv) rfl (OpQ.y (OpY.pure rfl)) ?_
      refine Run.step rfl (OpStep.buildSlice (us := [.slice Av pn cv]) Tsl_68 (by decide) (by decide) ⟨rfl, [.slice Av pn cv], _, rfl, rfl, rfl, rfl⟩ rfl fun b4 => ?_)
      refine Run.step rfl (OpStep.call (vs := [.agg #[.int .i64 N, vg], .agg #[.int .i64 Q, vc], .slice (some ⟨b4, 0, none⟩) 1 1]) (caps := []) Tcall_36 rfl rfl (fun w hs => l23SearchOne_spec hM hO hpl (hs.sl hg) (hs.sl hc) (hs.slOwn (.head _)) (hs.sl hp)) ?_)
      rintro _ _ ⟨u1, u2, rfl, rfl⟩
      show Run _ _ (putF _ _ _ (.tuple #[.agg #[u1, u2], .bool (rtB M N es m Q xs n ps pn)])) [.own u1 3 1 ((rtS M N es m Q xs n ps pn).length) (ints (rtS M N es m Q xs n ps pn)), .own u2 101 3 ((rtL M N es m Q xs n ps pn).length) (ints (fl3 (rtL M N es m Q xs n ps pn))), .own (.slice (some ⟨b4, 0, none⟩) 1 1) 28 1 1 ([.slice Av pn cv]), .blk b3 48 [.slice none 0 0, .slice none 0 0], .blk b2 39 [.int .i64 Q, vc], .blk b1 35 [.int .i64 N, vg]]
      refine Run.q (v := .agg #[u1, u2]) rfl (OpQ.y (OpY.pure rfl)) ?_
      refine Run.q (v := .bool (rtB M N es m Q xs n ps pn)) rfl (OpQ.y (OpY.pure rfl)) ?_
      refine Run.formOwn (.head _) (fun A_u11 c_u11 hv hcapc_u11 hmaxc_u11 => ?_) (fun _ _ _ => ⟨nofun, nofun, nofun⟩)
      subst hv
      refine Run.formOwn (.tail _ (List.Mem.head _)) (fun A_u21 c_u21 hv hcapc_u21 hmaxc_u21 => ?_) (fun _ _ _ => ⟨nofun, nofun, nofun⟩)
      subst hv
      refine Run.step rfl (OpStep.storeAll (us := [.slice A_u11 ((rtS M N es m Q xs n ps pn).length) c_u11, .slice A_u21 ((rtL M N es m Q xs n ps pn).length) c_u21]) Tsize_48 rfl rfl rfl (.there _ (.there _ (.there _ (.here _)))) rfl ?_)
      refine Run.q (v := .bool (rtB M N es m Q xs n ps pn)) rfl (OpQ.y (OpY.pure rfl)) ?_
      refine Run.done ?_
      refine Run.ret ?_
      refine ⟨.tuple #[.agg #[.slice A_u11 ((rtS M N es m Q xs n ps pn).length) c_u11, .slice A_u21 ((rtL M N es m Q xs n ps pn).length) c_u21], .bool (rtB M N es m Q xs n ps pn)], [.own (.slice A_u11 ((rtS M N es m Q xs n ps pn).length) c_u11) 3 1 ((rtS M N es m Q xs n ps pn).length) (ints (rtS M N es m Q xs n ps pn)), .own (.slice A_u21 ((rtL M N es m Q xs n ps pn).length) c_u21) 101 3 ((rtL M N es m Q xs n ps pn).length) (ints (fl3 (rtL M N es m Q xs n ps pn)))], Out.cell2 (cs := [.slice A_u11 ((rtS M N es m Q xs n ps pn).length) c_u11, .slice A_u21 ((rtL M N es m Q xs n ps pn).length) c_u21]) rfl Tagg_48 rfl (Cells.blk (.tail _ (.tail _ (.tail _ (List.Mem.head _)))) ⟨rfl, rfl, trivial⟩) rfl, (Some'.weak (.take (.take (.nil _)))), ?_⟩
      exact ⟨_, _, rfl, rfl⟩

set_option maxHeartbeats 1000000 in
set_option maxRecDepth 20000 in
theorem LeastSwaps_spec {M : Nat} {N Q : Int} {vg vc vp : Value} {m n pn : Nat} {es xs ps : List Int} {w : World} (hM : 12800000 < M) (hg : Sl w vg 2 m (ints es)) (hc : Sl w vc 3 n (ints xs)) (hp : Sl w vp 1 pn (ints ps)) : Calls Try.prog 12 #[.agg #[.int .i64 N, vg], .agg #[.int .i64 Q, vc], vp] w (Post No w fun v _ => v = .tuple #[.int .i64 ((lsw M N es m Q xs n ps pn : Nat) : Int), .bool (rtB M N es m Q xs n ps pn)]) := by
  refine enter (n := 20) (args := [.agg #[.int .i64 N, vg], .agg #[.int .i64 Q, vc], vp]) Try.func12 rfl rfl (St.empty _ _) ?_
  refine Run.seq ?_
  refine Run.region ?_
  refine Run.step rfl (OpStep.box (us := [.int .i64 N, vg]) rfl fun b1 => ?_)
  refine Run.step rfl (OpStep.box (us := [.int .i64 Q, vc]) rfl fun b2 => ?_)
  refine Run.q (v := .int .i64 0) rfl (OpQ.y (OpY.pure rfl)) ?_
  refine Run.q (v := .bool false) rfl (OpQ.y (OpY.pure rfl)) ?_
  refine Run.done ?_
  refine Run.seq ?_
  refine Run.region ?_
  refine Run.q (v := .agg #[.int .i64 N, vg]) rfl (OpQ.y (OpY.loadN (cs := [.int .i64 N, vg]) Tagg_35 rfl (Cells.blk (.tail _ (List.Mem.head _)) ⟨rfl, rfl, trivial⟩))) ?_
  refine Run.q (v := .agg #[.int .i64 Q, vc]) rfl (OpQ.y (OpY.loadN (cs := [.int .i64 Q, vc]) Tagg_39 rfl (Cells.blk (.head _) ⟨rfl, rfl, trivial⟩))) ?_
  refine Run.q (v := vp) rfl (OpQ.y (OpY.pure rfl)) ?_
  refine Run.step rfl (OpStep.call (vs := [.agg #[.int .i64 N, vg], .agg #[.int .i64 Q, vc], vp]) (caps := []) Tcall_30 rfl rfl (fun w hs => leastRoute_spec hM (hs.sl hg) (hs.sl hc) (hs.sl hp)) ?_)
  rintro _ _ ⟨u1, u2, rfl, rfl⟩
  show Run _ _ (putF _ _ _ (.tuple #[.agg #[u1, u2], .bool (rtB M N es m Q xs n ps pn)])) [.own u1 3 1 ((rtS M N es m Q xs n ps pn).length) (ints (rtS M N es m Q xs n ps pn)), .own u2 101 3 ((rtL M N es m Q xs n ps pn).length) (ints (fl3 (rtL M N es m Q xs n ps pn))), .blk b2 39 [.int .i64 Q, vc], .blk b1 35 [.int .i64 N, vg]]
  refine Run.q (v := .tuple #[.agg #[u1, u2], .bool (rtB M N es m Q xs n ps pn)]) rfl (OpQ.y (OpY.pure rfl)) ?_
  refine Run.q (v := .agg #[u1, u2]) rfl (OpQ.y (OpY.pure rfl)) ?_
  refine Run.q (v := .bool (rtB M N es m Q xs n ps pn)) rfl (OpQ.y (OpY.pure rfl)) ?_
  refine Run.step rfl (OpStep.alloc (zs := [.slice none 0 0, .slice none 0 0]) Tzero_48 fun b3 => ?_)
  refine Run.formOwn (.tail _ (List.Mem.head _)) (fun A_u11 c_u11 hv hcapc_u11 hmaxc_u11 => ?_) (fun _ _ _ => ⟨nofun, nofun, nofun⟩)
  subst hv
  refine Run.formOwn (.tail _ (.tail _ (List.Mem.head _))) (fun A_u21 c_u21 hv hcapc_u21 hmaxc_u21 => ?_) (fun _ _ _ => ⟨nofun, nofun, nofun⟩)
  subst hv
  refine Run.step rfl (OpStep.storeAll (us := [.slice A_u11 ((rtS M N es m Q xs n ps pn).length) c_u11, .slice A_u21 ((rtL M N es m Q xs n ps pn).length) c_u21]) Tsize_48 rfl rfl rfl (.here _) rfl ?_)
  refine Run.q (v := .bool (rtB M N es m Q xs n ps pn)) rfl (OpQ.y (OpY.pure rfl)) ?_
  refine Run.done ?_
  refine Run.seq ?_
  refine Run.region ?_
  refine Run.q (v := .agg #[.slice A_u11 ((rtS M N es m Q xs n ps pn).length) c_u11, .slice A_u21 ((rtL M N es m Q xs n ps pn).length) c_u21]) rfl (OpQ.y (OpY.loadN (cs := [.slice A_u11 ((rtS M N es m Q xs n ps pn).length) c_u11, .slice A_u21 ((rtL M N es m Q xs n ps pn).length) c_u21]) Tagg_48 rfl (Cells.blk (.head _) ⟨rfl, rfl, trivial⟩))) ?_
  refine Run.q (v := .int .i64 (((lsw M N es m Q xs n ps pn : Nat) : Int))) rfl (OpQ.call (vs := [.agg #[.slice A_u11 ((rtS M N es m Q xs n ps pn).length) c_u11, .slice A_u21 ((rtL M N es m Q xs n ps pn).length) c_u21]]) (caps := []) Tcall_31 rfl rfl (fun w hs => (by have h := swapsIn_spec (vb := .slice A_u11 ((rtS M N es m Q xs n ps pn).length) c_u11) (hs.slOwn (.tail _ (.tail _ (List.Mem.head _)))); rw [swN_all] at h; exact h))) ?_
  refine Run.q (v := .bool (rtB M N es m Q xs n ps pn)) rfl (OpQ.y (OpY.pure rfl)) ?_
  refine Run.q (v := .int .i64 (((lsw M N es m Q xs n ps pn : Nat) : Int))) rfl (OpQ.y (OpY.pure rfl)) ?_
  refine Run.q (v := .bool (rtB M N es m Q xs n ps pn)) rfl (OpQ.y (OpY.pure rfl)) ?_
  refine Run.done ?_
  refine Run.ret ?_
  refine ⟨.tuple #[.int .i64 (((lsw M N es m Q xs n ps pn : Nat) : Int)), .bool (rtB M N es m Q xs n ps pn)], [], Out.two rfl rfl rfl, (Some'.weak (.nil _)), ?_⟩
  rfl

set_option maxHeartbeats 1000000 in
set_option maxRecDepth 20000 in
theorem sLeastSwaps_spec {M : Nat} {N Q : Int} {vg vc vp : Value} {m n pn : Nat} {es xs ps : List Int} {w : World} (hM : 12800000 < M) (hN : In64 N) (hw : ∀ x ∈ es, In64 x) (hg : Sl w vg 2 m (ints es)) (hc : Sl w vc 3 n (ints xs)) (hp : Sl w vp 1 pn (ints ps)) : Calls Try.prog 8 #[.agg #[.int .i64 N, vg], .agg #[.int .i64 Q, vc], vp] w (Post No w fun v _ => v = .tuple #[.int .i64 ((lsw M N es m Q xs n ps pn : Nat) : Int), .bool (rtB M N es m Q xs n ps pn)]) := by
  have hpl : ps.length = pn := by have := hp.len; omega
  obtain ⟨Ac, cc, rfl, _, _⟩ := hc.form0
  have hcl := hc.le
  have hmx : maxLen ≤ 9223372036854775807 := by simp [maxLen]
  refine enter (n := 26) (args := [.agg #[.int .i64 N, vg], .agg #[.int .i64 Q, .slice Ac n cc], vp]) Try.func8 rfl rfl (St.empty _ _) ?_
  refine Run.seq ?_
  refine Run.region ?_
  refine Run.step rfl (OpStep.box (us := [.int .i64 N, vg]) rfl fun b1 => ?_)
  refine Run.step rfl (OpStep.box (us := [.int .i64 Q, .slice Ac n cc]) rfl fun b2 => ?_)
  refine Run.q (v := .int .i64 0) rfl (OpQ.y (OpY.pure rfl)) ?_
  refine Run.q (v := .bool false) rfl (OpQ.y (OpY.pure rfl)) ?_
  refine Run.done ?_
  refine Run.seq ?_
  refine Run.region ?_
  refine Run.q (v := .agg #[.int .i64 N, vg]) rfl (OpQ.y (OpY.loadN (cs := [.int .i64 N, vg]) Tagg_35 rfl (Cells.blk (.tail _ (List.Mem.head _)) ⟨rfl, rfl, trivial⟩))) ?_
  refine Run.q (v := .agg #[.int .i64 Q, .slice Ac n cc]) rfl (OpQ.y (OpY.loadN (cs := [.int .i64 Q, .slice Ac n cc]) Tagg_39 rfl (Cells.blk (.head _) ⟨rfl, rfl, trivial⟩))) ?_
  refine Run.q (v := vp) rfl (OpQ.y (OpY.pure rfl)) ?_
  refine Run.step rfl (OpStep.call (vs := [.agg #[.int .i64 N, vg], .agg #[.int .i64 Q, .slice Ac n cc], vp]) (caps := []) Tcall_16 rfl rfl (fun w hs => sRouteFrom_spec hM hN hw (hs.sl hg) (hs.sl hc) (hs.sl hp)) ?_)
  rintro _ _ ⟨u1, u2, rfl, rfl⟩
  show Run _ _ (putF _ _ _ (.tuple #[.agg #[u1, u2], .bool (rtB M N es m Q xs n ps pn)])) [.own u1 3 1 ((rtS M N es m Q xs n ps pn).length) (ints (rtS M N es m Q xs n ps pn)), .own u2 101 3 ((rtL M N es m Q xs n ps pn).length) (ints (fl3 (rtL M N es m Q xs n ps pn))), .blk b2 39 [.int .i64 Q, .slice Ac n cc], .blk b1 35 [.int .i64 N, vg]]
  refine Run.q (v := .tuple #[.agg #[u1, u2], .bool (rtB M N es m Q xs n ps pn)]) rfl (OpQ.y (OpY.pure rfl)) ?_
  refine Run.q (v := .agg #[u1, u2]) rfl (OpQ.y (OpY.pure rfl)) ?_
  refine Run.q (v := .bool (rtB M N es m Q xs n ps pn)) rfl (OpQ.y (OpY.pure rfl)) ?_
  refine Run.step rfl (OpStep.alloc (zs := [.slice none 0 0, .slice none 0 0]) Tzero_48 fun b3 => ?_)
  refine Run.formOwn (.tail _ (List.Mem.head _)) (fun A_u11 c_u11 hv hcapc_u11 hmaxc_u11 => ?_) (fun _ _ _ => ⟨nofun, nofun, nofun⟩)
  subst hv
  refine Run.formOwn (.tail _ (.tail _ (List.Mem.head _))) (fun A_u21 c_u21 hv hcapc_u21 hmaxc_u21 => ?_) (fun _ _ _ => ⟨nofun, nofun, nofun⟩)
  subst hv
  refine Run.step rfl (OpStep.storeAll (us := [.slice A_u11 ((rtS M N es m Q xs n ps pn).length) c_u11, .slice A_u21 ((rtL M N es m Q xs n ps pn).length) c_u21]) Tsize_48 rfl rfl rfl (.here _) rfl ?_)
  refine Run.q (v := .bool (rtB M N es m Q xs n ps pn)) rfl (OpQ.y (OpY.pure rfl)) ?_
  refine Run.done ?_
  refine Run.seq ?_
  refine Run.seq ?_
  refine Run.region ?_
  refine Run.q (v := .bool (rtB M N es m Q xs n ps pn)) rfl (OpQ.y (OpY.pure rfl)) ?_
  refine Run.q (v := .bool (!(rtB M N es m Q xs n ps pn))) rfl (OpQ.y (OpY.pure rfl)) ?_
  refine Run.done ?_
  refine Run.cond (b := !(rtB M N es m Q xs n ps pn)) rfl (fun h18 => ?_) (fun h18 => ?_)
  · have p18 := h18; try simp only [bs] at p18
    have hb : rtB M N es m Q xs n ps pn = false := by simpa using p18
    have hz := lsw_no hb
    refine Run.seq ?_
    refine Run.region ?_
    refine Run.q (v := .int .i64 0) rfl (OpQ.y (OpY.pure rfl)) ?_
    refine Run.q (v := .bool false) rfl (OpQ.y (OpY.pure rfl)) ?_
    refine Run.done ?_
    refine Run.ret ?_
    refine ⟨.tuple #[.int .i64 0, .bool false], [], Out.two rfl rfl rfl, (Some'.weak (.nil _)), ?_⟩
    show _ = _; rw [hz, hb]; rfl
  · have p18 := h18; try simp only [bs] at p18
    have hb : rtB M N es m Q xs n ps pn = true := by simpa using p18
    have hz := lsw_yes hpl hb
    refine Run.skip ?_
    refine Run.seq ?_
    refine Run.region ?_
    refine Run.q (v := .pointer (some ⟨b3, 1, none⟩)) rfl (OpQ.y (OpY.fieldAddr Tfo_48_1 rfl rfl)) ?_
    refine Run.q (v := .slice A_u21 ((rtL M N es m Q xs n ps pn).length) c_u21) rfl (OpQ.y (OpY.load1 Tone_46 rfl (Cells.blk (.head _) ⟨rfl, trivial⟩))) ?_
    refine Run.q (v := .int .i64 ((((rtL M N es m Q xs n ps pn).length : Nat) : Int))) rfl (OpQ.y (OpY.len Tsl_46 rfl)) ?_
    refine Run.q (v := .pointer (some ⟨b2, 1, none⟩)) rfl (OpQ.y (OpY.fieldAddr Tfo_39_1 rfl rfl)) ?_
    refine Run.q (v := .slice Ac n cc) rfl (OpQ.y (OpY.load1 Tone_37 rfl (Cells.blk (.tail _ (.tail _ (.tail _ (List.Mem.head _)))) ⟨rfl, trivial⟩))) ?_
    refine Run.q (v := .int .i64 (((n : Nat) : Int))) rfl (OpQ.y (OpY.len Tsl_37 rfl)) ?_
    refine Run.q (v := .int .i64 (((lsw M N es m Q xs n ps pn : Nat) : Int))) rfl (OpQ.y (OpY.sub rfl rfl (by omega) (by omega) (by omega))) ?_
    refine Run.q (v := .int .i64 (((lsw M N es m Q xs n ps pn : Nat) : Int))) rfl (OpQ.y (OpY.pure rfl)) ?_
    refine Run.q (v := .bool true) rfl (OpQ.y (OpY.pure rfl)) ?_
    refine Run.done ?_
    refine Run.ret ?_
    refine ⟨.tuple #[.int .i64 (((lsw M N es m Q xs n ps pn : Nat) : Int)), .bool true], [], Out.two rfl rfl rfl, (Some'.weak (.nil _)), ?_⟩
    show _ = _; rw [hb]

end Go.Proofs.Ytekikmdjldincaa
