/- Walks: a routing does what can be done. -/
import Derived.Test.YtekikmdjldincaaLsa
import Derived.Test.YtekikmdjldincaaProg
set_option linter.unusedSimpArgs false
set_option linter.unusedVariables false
namespace Go.Proofs.Ytekikmdjldincaa
open Go Go.RowKit
namespace LsbT
theorem Tagg_87 : aggOf Try.prog 87 = some 6 := by kernel_rfl
theorem Tcall_74 : callable Try.prog 74 = true := by kernel_rfl
theorem Tcall_75 : callable Try.prog 75 = true := by kernel_rfl
theorem Tfo_39_1 : fieldOff Try.prog 39 1 = some 1 := by kernel_rfl
theorem Tfo_87_1 : fieldOff Try.prog 87 1 = some 2 := by kernel_rfl
theorem Tfo_87_3 : fieldOff Try.prog 87 3 = some 5 := by kernel_rfl
theorem Tfo_90_0 : fieldOff Try.prog 90 0 = some 0 := by kernel_rfl
theorem Tfo_90_1 : fieldOff Try.prog 90 1 = some 6 := by kernel_rfl
theorem Tone_37 : oneOf Try.prog 37 = true := by kernel_rfl
theorem Tone_46 : oneOf Try.prog 46 = true := by kernel_rfl
theorem Tone_85 : oneOf Try.prog 85 = true := by kernel_rfl
theorem Tsize_4 : (Try.prog.info? 4).map (·.size) = some 1 := by kernel_rfl
theorem Tsize_46 : (Try.prog.info? 46).map (·.size) = some 1 := by kernel_rfl
theorem Tsl_37 : sliceOf Try.prog 37 = some (81, 3, 24, [.int .i64 0, .int .i64 0, .int .i64 0]) := by kernel_rfl
theorem Tsl_46 : sliceOf Try.prog 46 = some (101, 3, 24, [.int .i64 0, .int .i64 0, .int .i64 0]) := by kernel_rfl
theorem Tsl_85 : sliceOf Try.prog 85 = some (4, 1, 1, [.bool false]) := by kernel_rfl
end LsbT
open LsbT

/-- A slice that lies apart from the blocks that may turn. -/
structure Ap (H0 : List Res) (w : World) (v : Value) (size n : Nat) (xs : List Value) : Prop where
  sl : Sl w v size n xs
  off : 0 < n → ∀ k, v.ownBlock = some k → ¬ Of H0 k
theorem Ap.go {H0 H : List Res} {w0 w : World} {v : Value} {size n : Nat} {xs : List Value} (h : Ap H0 w0 v size n xs) (hs : St (Of H0) w0 w H) : Sl w v size n xs := hs.slOff h.sl h.off
theorem Sl.lt {w : World} {v : Value} {size n : Nat} {xs : List Value} (h : Sl w v size n xs) (h0 : 0 < n) {k : Nat} (hk : v.ownBlock = some k) : k < w.heap.size := by
  obtain ⟨_, A, c, rfl, _, _, h4⟩ := h
  obtain ⟨b, o, rfl, hb, _⟩ := h4 h0
  simp only [Value.ownBlock, Option.some.injEq] at hk; subst hk; exact hb
theorem Ap.arg {H0 R : List Res} {w0 w : World} {v : Value} {size n : Nat} {xs : List Value} (h : Sl w0 v size n xs) (hs : St No w0 w (H0 ++ R)) : Ap H0 w v size n xs :=
  ⟨hs.sl h, fun h0 k hk ⟨r, hr, hrk⟩ => hs.fresh r (List.mem_append_left _ hr) k hrk (h.lt h0 hk)⟩
theorem Ap.own {M : Nat → Prop} {H0 R : List Res} {w0 w : World} {v : Value} {e : TypeId} {size n : Nat} {xs : List Value} (hm : Res.own v e size n xs ∈ R) (hs : St M w0 w (H0 ++ R)) : Ap H0 w v size n xs :=
  ⟨hs.slOwn (List.mem_append_right _ hm), fun _ k hk ⟨r, hr, hrk⟩ => (List.pairwise_append.1 hs.disj).2.2 r hr _ hm k hrk hk⟩
theorem Cells.ap {E : Env} {H H0 : List Res} {b o n c size : Nat} {xs ys : List Value} {k : Nat} (h : Ap H0 E.w0 (.slice (some ⟨b, o, none⟩) n c) size n xs) (hM : E.M = Of H0) (hn : 0 < n) (hp : Pre xs k ys) : Cells E H b (o + k) ys := by
  intro w hs
  have hs' : St (Of H0) E.w0 w H := by rw [← hM]; exact hs
  obtain ⟨_, A, c', he, _, _, h4⟩ := h.go hs'
  injection he with e1 _ _
  obtain ⟨b', o', hA, _, hr⟩ := h4 hn
  rw [hA] at e1
  injection e1 with e1
  injection e1 with e2 e3
  subst e2; subst e3
  intro j v hv
  have := hr (k + j) v (hp.get j v hv)
  rw [← Nat.add_assoc] at this; exact this
abbrev T3 := Int × Int × Int
def fl3 : List T3 → List Int
  | [] => []
  | t :: l => t.1 :: t.2.1 :: t.2.2 :: fl3 l
theorem fl3_append : ∀ l r : List T3, fl3 (l ++ r) = fl3 l ++ fl3 r
  | [], r => rfl
  | t :: l, r => by simp [fl3, fl3_append l r]
@[simp] theorem fl3_length : ∀ l : List T3, (fl3 l).length = l.length * 3
  | [] => rfl
  | t :: l => by simp [fl3, fl3_length l]; omega
theorem ints_fl3 (l : List T3) (a b c : Int) : ints (fl3 (l ++ [(a, b, c)])) = ints (fl3 l) ++ [.int .i64 a, .int .i64 b, .int .i64 c] := by rw [fl3_append, ints_append]; rfl
abbrev st3 (i : Nat) : T3 := ((i : Int), 0, 0)
/-- What can be done is done, the first first. -/
def adv (g : List Bool → Nat → Bool) (n : Nat) : Nat → List Bool → List T3 → List Bool × List T3
  | 0, ds, L => (ds, L)
  | f + 1, ds, L => if findI (g ds) n < 0 then (ds, L) else adv g n f (ds.set (findI (g ds) n).toNat true) (L ++ [(findI (g ds) n, 0, 0)])
def und (ds : List Bool) : Nat := ds.count false
def advS (g : List Bool → Nat → Bool) (n : Nat) (ds : List Bool) (L : List T3) : List Bool × List T3 := adv g n (und ds) ds L
theorem und_set {ds : List Bool} {i : Nat} (hi : i < ds.length) (h : bx ds i = false) : und ds = und (ds.set i true) + 1 := by
  have h1 : ds[i] = false := by simpa [bx, List.getD, hi] using h
  unfold und
  rw [List.count_set hi, h1]
  have h2 : 0 < ds.count false := List.count_pos_iff.2 (h1 ▸ List.getElem_mem hi)
  simp; omega
theorem advS_step {g : List Bool → Nat → Bool} {n i : Nat} {ds : List Bool} {L : List T3} (hl : ds.length = n) (hi : i < n) (hg : g ds i = true) (hb : bx ds i = false) (hlow : ∀ j, j < i → g ds j = false) : advS g n ds L = advS g n (ds.set i true) (L ++ [st3 i]) := by
  have hf : findI (g ds) n = i := findI_hit hlow hg hi
  rw [advS, und_set (by omega) hb, adv, hf, if_neg (by omega), Int.toNat_natCast, advS]
theorem advS_stop {g : List Bool → Nat → Bool} {n : Nat} {ds : List Bool} {L : List T3} (h : ∀ j, j < n → g ds j = false) : advS g n ds L = (ds, L) := by
  have hf : findI (g ds) n = -1 := findI_none h
  unfold advS
  cases und ds with
  | zero => rfl
  | succ f => rw [adv, hf, if_pos (by omega)]
def goB (es : List Int) (m : Nat) (xs ps : List Int) (ds : List Bool) (i : Nat) : Bool := rdy xs ds i && nearG es m xs ps i
theorem goB_open {es xs ps : List Int} {m i : Nat} {ds : List Bool} (h : goB es m xs ps ds i = true) : bx ds i = false := by
  unfold goB rdy at h
  simp only [Bool.and_eq_true, Bool.not_eq_true'] at h
  exact h.1.1
def HIN (n pn : Nat) (xs ps : List Int) : Prop := ∀ k, k < n → isTwoI (ix xs (k * 3)) = true → (0 ≤ ix xs (k * 3 + 1) ∧ (ix xs (k * 3 + 1)).toNat < pn) ∧ (0 ≤ ix xs (k * 3 + 2) ∧ (ix xs (k * 3 + 2)).toNat < pn) ∧ ix ps (ix xs (k * 3 + 1)).toNat ≠ ix ps (ix xs (k * 3 + 2)).toNat

set_option maxHeartbeats 1000000 in
set_option maxRecDepth 20000 in
theorem advance_spec {N Q : Int} {vg vc vp vd vs : Value} {bn m n pn : Nat} {es xs ps : List Int} {ds0 : List Bool} {L0 : List T3} {w : World} (hn4 : n ≤ 400) (hdl : ds0.length = n) (he : edgesOk N es m = true) (hin : HIN n pn xs ps) (hL : L0.length ≤ 20000000) (hg : Ap [.blk bn 90 [.int .i64 N, vg, .int .i64 Q, vc, vp, vd, vs], .own vd 4 1 n (bls ds0), .own vs 101 3 (L0.length) (ints (fl3 L0))] w vg 2 m (ints es)) (hc : Ap [.blk bn 90 [.int .i64 N, vg, .int .i64 Q, vc, vp, vd, vs], .own vd 4 1 n (bls ds0), .own vs 101 3 (L0.length) (ints (fl3 L0))] w vc 3 n (ints xs)) (hp : Ap [.blk bn 90 [.int .i64 N, vg, .int .i64 Q, vc, vp, vd, vs], .own vd 4 1 n (bls ds0), .own vs 101 3 (L0.length) (ints (fl3 L0))] w vp 1 pn (ints ps)) (h : St (Of [.blk bn 90 [.int .i64 N, vg, .int .i64 Q, vc, vp, vd, vs], .own vd 4 1 n (bls ds0), .own vs 101 3 (L0.length) (ints (fl3 L0))]) w w [.blk bn 90 [.int .i64 N, vg, .int .i64 Q, vc, vp, vd, vs], .own vd 4 1 n (bls ds0), .own vs 101 3 (L0.length) (ints (fl3 L0))]) : Calls Try.prog 51 #[.pointer (some ⟨bn, 0, none⟩)] w (Post (Of [.blk bn 90 [.int .i64 N, vg, .int .i64 Q, vc, vp, vd, vs], .own vd 4 1 n (bls ds0), .own vs 101 3 (L0.length) (ints (fl3 L0))]) w fun v H => ∃ vd2 vs2, v = .tuple #[] ∧ H = [.blk bn 90 [.int .i64 N, vg, .int .i64 Q, vc, vp, vd2, vs2], .own vd2 4 1 n (bls ((advS (goB es m xs ps) n ds0 L0).1)), .own vs2 101 3 (((advS (goB es m xs ps) n ds0 L0).2).length) (ints (fl3 ((advS (goB es m xs ps) n ds0 L0).2)))]) := by
  obtain ⟨Ac, cc, rfl, _, _⟩ := hc.sl.form0
  have hund : und ds0 ≤ ds0.length := List.count_le_length
  refine enter (n := 46) (args := [.pointer (some ⟨bn, 0, none⟩)]) Try.func51 rfl rfl (h) ?_
  refine Run.seq ?_
  refine Run.region ?_
  refine Run.q (v := .int .i64 0) rfl (OpQ.y (OpY.pure rfl)) ?_
  refine Run.done ?_
  refine Run.block ?_
  refine Run.loop (ι := Nat × List Bool × List T3 × Value × Value) [2, 3, 4, 5, 6, 7, 8, 9, 10, 11, 12, 13, 14, 15, 16, 17, 18, 19, 20, 21, 22, 23, 24, 25, 26, 27, 28, 29, 30, 31, 32, 33, 34, 35, 36, 37, 38, 39, 40, 41, 42, 43, 44, 45] (fun ⟨i, ds, L, wd, ws⟩ => [(2, .int .i64 (((i : Nat) : Int)))]) (fun ⟨i, ds, L, wd, ws⟩ => [.blk bn 90 [.int .i64 N, vg, .int .i64 Q, .slice Ac n cc, vp, wd, ws], .own wd 4 1 n (bls ds), .own ws 101 3 (L.length) (ints (fl3 L))]) (fun ⟨i, ds, L, wd, ws⟩ => i ≤ n ∧ ds.length = n ∧ (∀ j, j < i → goB es m xs ps ds j = false) ∧ advS (goB es m xs ps) n ds L = advS (goB es m xs ps) n ds0 L0 ∧ L.length + und ds ≤ L0.length + und ds0) (fun ⟨i, ds, L, wd, ws⟩ => und ds * (n + 1) + (n - i)) (0, ds0, L0, vd, vs) ?_ ?_ ?_ ?_
  · exact ⟨Nat.zero_le _, hdl, fun j hj => by omega, rfl, Nat.le_refl _⟩
  · exact ⟨rfl, trivial⟩
  · exact ((Weak.refl _).trans (Some'.weak (.takeEq (by first | rfl | simp) (.takeEq (by first | rfl | simp) (.takeEq (by first | rfl | simp) (.nil _))))))
  · rintro ⟨i, ds, L, wd, ws⟩ fr hinv
    show Run _ _ (over _ _ [(2, .int .i64 (((i : Nat) : Int)))] fr) [.blk bn 90 [.int .i64 N, vg, .int .i64 Q, .slice Ac n cc, vp, wd, ws], .own wd 4 1 n (bls ds), .own ws 101 3 (L.length) (ints (fl3 L))]
    try dsimp only at hinv
    refine Run.seq ?_
    refine Run.seq ?_
    refine Run.region ?_
    refine Run.q (v := .int .i64 (((i : Nat) : Int))) rfl (OpQ.y (OpY.pure rfl)) ?_
    refine Run.q (v := .pointer (some ⟨bn, 0, none⟩)) rfl (OpQ.y (OpY.pure rfl)) ?_
    refine Run.q (v := .pointer (some ⟨bn, 0, none⟩)) rfl (OpQ.y (OpY.nilCheck rfl)) ?_
    refine Run.q (v := .pointer (some ⟨bn, 0, none⟩)) rfl (OpQ.y (OpY.fieldAddr Tfo_90_0 rfl rfl)) ?_
    refine Run.q (v := .pointer (some ⟨bn, 2, none⟩)) rfl (OpQ.y (OpY.fieldAddr Tfo_87_1 rfl rfl)) ?_
    refine Run.q (v := .pointer (some ⟨bn, 3, none⟩)) rfl (OpQ.y (OpY.fieldAddr Tfo_39_1 rfl rfl)) ?_
    refine Run.q (v := .slice Ac n cc) rfl (OpQ.y (OpY.load1 Tone_37 rfl (Cells.blk (.head _) ⟨rfl, trivial⟩))) ?_
    refine Run.q (v := .int .i64 (((n : Nat) : Int))) rfl (OpQ.y (OpY.len Tsl_37 rfl)) ?_
    refine Run.q (v := .bool (decide ((((i : Nat) : Int)) < (((n : Nat) : Int))))) rfl (OpQ.y (OpY.pure rfl)) ?_
    refine Run.done ?_
    refine Run.cond (b := decide ((((i : Nat) : Int)) < (((n : Nat) : Int)))) rfl (fun h11 => ?_) (fun h11 => ?_)
    · have p11 := h11; try simp only [bs] at p11
      have hin1 : i < n := by omega
      obtain ⟨hiN, hdl2, hlow, hsame, hLl⟩ := hinv
      refine Run.openOwn (.tail _ (List.Mem.head _)) (by omega) (fun gd cd hvgd hcapgd _ => ?_) (fun _ _ _ => ⟨nofun, nofun, nofun⟩)
      subst hvgd
      refine Run.skip ?_
      refine Run.seq ?_
      refine Run.block ?_
      refine Run.seq ?_
      refine Run.region ?_
      refine Run.q (v := .pointer (some ⟨bn, 0, none⟩)) rfl (OpQ.y (OpY.pure rfl)) ?_
      refine Run.q (v := .pointer (some ⟨bn, 0, none⟩)) rfl (OpQ.y (OpY.nilCheck rfl)) ?_
      refine Run.q (v := .pointer (some ⟨bn, 0, none⟩)) rfl (OpQ.y (OpY.fieldAddr Tfo_90_0 rfl rfl)) ?_
      refine Run.q (v := .agg #[.int .i64 N, vg, .int .i64 Q, .slice Ac n cc, vp, .slice (some ⟨gd, 0, none⟩) n cd]) rfl (OpQ.y (OpY.loadN (cs := [.int .i64 N, vg, .int .i64 Q, .slice Ac n cc, vp, .slice (some ⟨gd, 0, none⟩) n cd]) Tagg_87 rfl (Cells.blk (.head _) ⟨rfl, rfl, rfl, rfl, rfl, rfl, trivial⟩))) ?_
      refine Run.q (v := .int .i64 (((i : Nat) : Int))) rfl (OpQ.y (OpY.pure rfl)) ?_
      refine Run.q (v := .bool (rdy xs ds i)) rfl (OpQ.call (vs := [.agg #[.int .i64 N, vg, .int .i64 Q, .slice Ac n cc, vp, .slice (some ⟨gd, 0, none⟩) n cd], .int .i64 (((i : Nat) : Int))]) (caps := []) Tcall_74 rfl rfl (fun w hs => isReady_spec hin1 (hc.go hs) (hs.slOwn (.tail _ (List.Mem.head _))))) ?_
      rcases Bool.eq_false_or_eq_true (rdy xs ds i) with h20 | h20
      · refine Run.q (v := .bool true) rfl (OpQ.y (OpY.moveB rfl h20)) ?_
        have p20 := h20; try simp only [bs] at p20
        refine Run.q (v := .pointer (some ⟨bn, 0, none⟩)) rfl (OpQ.y (OpY.pure rfl)) ?_
        refine Run.q (v := .pointer (some ⟨bn, 0, none⟩)) rfl (OpQ.y (OpY.nilCheck rfl)) ?_
        refine Run.q (v := .pointer (some ⟨bn, 0, none⟩)) rfl (OpQ.y (OpY.fieldAddr Tfo_90_0 rfl rfl)) ?_
        refine Run.q (v := .agg #[.int .i64 N, vg, .int .i64 Q, .slice Ac n cc, vp, .slice (some ⟨gd, 0, none⟩) n cd]) rfl (OpQ.y (OpY.loadN (cs := [.int .i64 N, vg, .int .i64 Q, .slice Ac n cc, vp, .slice (some ⟨gd, 0, none⟩) n cd]) Tagg_87 rfl (Cells.blk (.head _) ⟨rfl, rfl, rfl, rfl, rfl, rfl, trivial⟩))) ?_
        refine Run.q (v := .int .i64 (((i : Nat) : Int))) rfl (OpQ.y (OpY.pure rfl)) ?_
        refine Run.q (v := .bool (nearG es m xs ps i)) rfl (OpQ.call (vs := [.agg #[.int .i64 N, vg, .int .i64 Q, .slice Ac n cc, vp, .slice (some ⟨gd, 0, none⟩) n cd], .int .i64 (((i : Nat) : Int))]) (caps := []) Tcall_75 rfl rfl (fun w hs => fits_spec hin1 he (hin i hin1) (hg.go hs) (hc.go hs) (hp.go hs))) ?_
        refine Run.q (v := .bool (nearG es m xs ps i)) rfl (OpQ.y (OpY.pure rfl)) ?_
        refine Run.done ?_
        refine Run.cond (b := nearG es m xs ps i) rfl (fun h27 => ?_) (fun h27 => ?_)
        · have p27 := h27; try simp only [bs] at p27
          have hgo : goB es m xs ps ds i = true := by unfold goB; simp_all
          have hopen := goB_open hgo
          have hu := und_set (ds := ds) (i := i) (by omega) hopen
          have hst := advS_step (L := L) hdl2 hin1 hgo hopen hlow
          have hmu : und (ds.set i true) * (n + 1) + (n + 1) = und ds * (n + 1) := by rw [hu, Nat.add_mul, Nat.one_mul]
          refine Run.seq ?_
          refine Run.region ?_
          refine Run.q (v := .pointer (some ⟨bn, 0, none⟩)) rfl (OpQ.y (OpY.pure rfl)) ?_
          refine Run.q (v := .pointer (some ⟨bn, 0, none⟩)) rfl (OpQ.y (OpY.nilCheck rfl)) ?_
          refine Run.q (v := .pointer (some ⟨bn, 0, none⟩)) rfl (OpQ.y (OpY.fieldAddr Tfo_90_0 rfl rfl)) ?_
          refine Run.q (v := .pointer (some ⟨bn, 5, none⟩)) rfl (OpQ.y (OpY.fieldAddr Tfo_87_3 rfl rfl)) ?_
          refine Run.q (v := .slice (some ⟨gd, 0, none⟩) n cd) rfl (OpQ.y (OpY.load1 Tone_85 rfl (Cells.blk (.head _) ⟨rfl, trivial⟩))) ?_
          refine Run.q (v := .int .i64 (((i : Nat) : Int))) rfl (OpQ.y (OpY.pure rfl)) ?_
          refine Run.q (v := .pointer (some ⟨gd, i, none⟩)) rfl (OpQ.y (OpY.index (kk := i) Tsl_85 rfl rfl (by omega) (by omega) (by first | rfl | omega))) ?_
          refine Run.step rfl (OpStep.storeOwn (us := [.bool true]) Tsize_4 rfl rfl rfl rfl (by rw [bls_set]; exact (.there _ (.here _))) (by simp only [List.length_cons, List.length_nil]; omega) ?_)
          refine Run.done ?_
          refine Run.seq ?_
          refine Run.region ?_
          refine Run.q (v := .pointer (some ⟨bn, 0, none⟩)) rfl (OpQ.y (OpY.pure rfl)) ?_
          refine Run.q (v := .pointer (some ⟨bn, 0, none⟩)) rfl (OpQ.y (OpY.pure rfl)) ?_
          refine Run.q (v := .pointer (some ⟨bn, 0, none⟩)) rfl (OpQ.y (OpY.nilCheck rfl)) ?_
          refine Run.q (v := .pointer (some ⟨bn, 6, none⟩)) rfl (OpQ.y (OpY.fieldAddr Tfo_90_1 rfl rfl)) ?_
          refine Run.q (v := ws) rfl (OpQ.y (OpY.load1 Tone_46 rfl (Cells.blk (.head _) ⟨rfl, trivial⟩))) ?_
          refine Run.q (v := .int .i64 (((i : Nat) : Int))) rfl (OpQ.y (OpY.pure rfl)) ?_
          refine Run.q (v := .agg #[.int .i64 (((i : Nat) : Int)), .int .i64 0, .int .i64 0]) rfl (OpQ.y (OpY.build (cs := [.int .i64 (((i : Nat) : Int)), .int .i64 0, .int .i64 0]) (by kernel_rfl))) ?_
          refine Run.step rfl (OpStep.buildSlice (us := [.int .i64 (((i : Nat) : Int)), .int .i64 0, .int .i64 0]) Tsl_46 (by decide) (by decide) ⟨rfl, [.int .i64 (((i : Nat) : Int)), .int .i64 0, .int .i64 0], _, rfl, rfl, rfl, rfl⟩ rfl fun b1 => ?_)
          refine Run.step rfl (OpStep.append (H1 := [.own (.slice (some ⟨b1, 0, none⟩) 1 1) 101 3 1 ([.int .i64 (((i : Nat) : Int)), .int .i64 0, .int .i64 0]), .blk bn 90 [.int .i64 N, vg, .int .i64 Q, .slice Ac n cc, vp, .slice (some ⟨gd, 0, none⟩) n cd, ws], .own (.slice (some ⟨gd, 0, none⟩) n cd) 4 1 n (bls (ds.set i true))]) (H2 := []) (v := ws) (u := .slice (some ⟨b1, 0, none⟩) 1 1) (n := L.length) (m := 1) (xs := ints (fl3 L)) (ys := [.int .i64 (((i : Nat) : Int)), .int .i64 0, .int .i64 0]) Tsl_46 (by decide) rfl rfl rfl rfl (fun w hs => hs.slOwn (.head _)) (by simp [Value.oneCell']) (by omega) (by simp only [maxLen]; omega) fun av1 hnav1 => ?_)
          refine Run.weak (H' := [.own (.slice (some ⟨b1, 0, none⟩) 1 1) 101 3 1 ([.int .i64 (((i : Nat) : Int)), .int .i64 0, .int .i64 0]), .blk bn 90 [.int .i64 N, vg, .int .i64 Q, .slice Ac n cc, vp, .slice (some ⟨gd, 0, none⟩) n cd, ws], .own (.slice (some ⟨gd, 0, none⟩) n cd) 4 1 n (bls (ds.set i true)), .own av1 101 3 ((L ++ [st3 i]).length) (ints (fl3 (L ++ [st3 i])))]) (Some'.weak (.take (.take (.take (.takeEq (by rw [ints_fl3]; exact congrArg (fun k => Res.own _ _ _ k _) (by simp)) (.nil _)))))) ?_ ⟨_, _, rfl, fun _ => nofun, fun _ => nofun⟩
          refine Run.q (v := .pointer (some ⟨bn, 0, none⟩)) rfl (OpQ.y (OpY.nilCheck rfl)) ?_
          refine Run.q (v := .pointer (some ⟨bn, 6, none⟩)) rfl (OpQ.y (OpY.fieldAddr Tfo_90_1 rfl rfl)) ?_
          refine Run.formOwn (.tail _ (.tail _ (.tail _ (List.Mem.head _)))) (fun A_av11 c_av11 hv hcapc_av11 hmaxc_av11 => ?_) (fun _ _ _ => ⟨nofun, nofun, nofun⟩)
          subst hv
          refine Run.step rfl (OpStep.store (us := [.slice A_av11 ((L ++ [st3 i]).length) c_av11]) Tsize_46 rfl rfl rfl (.there _ (.here _)) (by simp only [List.length_cons, List.length_nil]; omega) ?_)
          show Run _ _ _ [.own (.slice (some ⟨b1, 0, none⟩) 1 1) 101 3 1 ([.int .i64 (((i : Nat) : Int)), .int .i64 0, .int .i64 0]), .blk bn 90 [.int .i64 N, vg, .int .i64 Q, .slice Ac n cc, vp, .slice (some ⟨gd, 0, none⟩) n cd, .slice A_av11 ((L ++ [st3 i]).length) c_av11], .own (.slice (some ⟨gd, 0, none⟩) n cd) 4 1 n (bls (ds.set i true)), .own (.slice A_av11 ((L ++ [st3 i]).length) c_av11) 101 3 ((L ++ [st3 i]).length) (ints (fl3 (L ++ [st3 i])))]
          refine Run.done ?_
          refine Run.region ?_
          refine Run.q (v := .int .i64 (-1)) rfl (OpQ.y (OpY.pure rfl)) ?_
          refine Run.done ?_
          refine Run.blockEnd ?_
          refine Run.region ?_
          refine Run.q (v := .int .i64 (-1)) rfl (OpQ.y (OpY.pure rfl)) ?_
          refine Run.q (v := .int .i64 ((-1) + 1)) rfl (OpQ.y (OpY.add rfl rfl rfl (by omega) (by omega))) ?_
          refine Run.q (v := .int .i64 ((-1) + 1)) rfl (OpQ.y (OpY.pure rfl)) ?_
          refine Run.done ?_
          refine Run.goal ⟨(by repeat (first | exact Same.refl _ _ | refine Same.put rfl ?_ | refine Same.over rfl rfl ?_)), (0, ds.set i true, L ++ [st3 i], .slice (some ⟨gd, 0, none⟩) n cd, .slice A_av11 ((L ++ [st3 i]).length) c_av11), ?_, ?_, ?_, ?_⟩
          · first | exact ⟨hin1, hdl2, hlow1, hsame, hLl⟩ | exact ⟨Nat.zero_le _, by rw [List.length_set]; exact hdl2, fun j hj => by omega, by rw [← hst]; exact hsame, by rw [List.length_append]; simp only [List.length_cons, List.length_nil]; omega⟩
          · dsimp only; omega
          · exact ⟨(by show Value.int _ _ = Value.int _ _; congr 1 <;> omega), trivial⟩
          · exact ((Weak.selF [1, 1, 1]).trans (Some'.weak (.takeEq (by first | rfl | simp) (.takeEq (by first | rfl | simp) (.takeEq (by first | rfl | simp) (.nil _))))))
        · have p27 := h27; try simp only [bs] at p27
          have hgo : goB es m xs ps ds i = false := by unfold goB; simp_all
          have hlow1 : ∀ j, j < i + 1 → goB es m xs ps ds j = false := by
            intro j hj
            rcases Nat.lt_succ_iff_lt_or_eq.1 hj with h | h
            · exact hlow j h
            · rw [h]; exact hgo
          refine Run.skip ?_
          refine Run.blockEnd ?_
          refine Run.region ?_
          refine Run.q (v := .int .i64 (((i : Nat) : Int))) rfl (OpQ.y (OpY.pure rfl)) ?_
          refine Run.q (v := .int .i64 ((((i : Nat) : Int)) + 1)) rfl (OpQ.y (OpY.add rfl rfl rfl (by omega) (by omega))) ?_
          refine Run.q (v := .int .i64 ((((i : Nat) : Int)) + 1)) rfl (OpQ.y (OpY.pure rfl)) ?_
          refine Run.done ?_
          refine Run.goal ⟨(by repeat (first | exact Same.refl _ _ | refine Same.put rfl ?_ | refine Same.over rfl rfl ?_)), (i + 1, ds, L, .slice (some ⟨gd, 0, none⟩) n cd, ws), ?_, ?_, ?_, ?_⟩
          · first | exact ⟨hin1, hdl2, hlow1, hsame, hLl⟩ | exact ⟨Nat.zero_le _, by rw [List.length_set]; exact hdl2, fun j hj => by omega, by rw [← hst]; exact hsame, by rw [List.length_append]; simp only [List.length_cons, List.length_nil]; omega⟩
          · dsimp only; omega
          · exact ⟨(by show Value.int _ _ = Value.int _ _; congr 1 <;> omega), trivial⟩
          · exact ((Weak.refl _).trans (Some'.weak (.takeEq (by first | rfl | simp) (.takeEq (by first | rfl | simp) (.takeEq (by first | rfl | simp) (.nil _))))))
      · refine Run.q (v := .bool false) rfl (OpQ.y (OpY.moveB rfl h20)) ?_
        have p20 := h20; try simp only [bs] at p20
        have hgo : goB es m xs ps ds i = false := by unfold goB; simp_all
        have hlow1 : ∀ j, j < i + 1 → goB es m xs ps ds j = false := by
          intro j hj
          rcases Nat.lt_succ_iff_lt_or_eq.1 hj with h | h
          · exact hlow j h
          · rw [h]; exact hgo
        refine Run.pass rfl ?_
        refine Run.pass rfl ?_
        refine Run.pass rfl ?_
        refine Run.pass rfl ?_
        refine Run.pass rfl ?_
        refine Run.pass rfl ?_
        refine Run.q (v := .bool false) rfl (OpQ.y (OpY.pure rfl)) ?_
        refine Run.done ?_
        refine Run.cond (b := false) rfl (fun h => nomatch h) (fun _ => ?_)
        refine Run.skip ?_
        refine Run.blockEnd ?_
        refine Run.region ?_
        refine Run.q (v := .int .i64 (((i : Nat) : Int))) rfl (OpQ.y (OpY.pure rfl)) ?_
        refine Run.q (v := .int .i64 ((((i : Nat) : Int)) + 1)) rfl (OpQ.y (OpY.add rfl rfl rfl (by omega) (by omega))) ?_
        refine Run.q (v := .int .i64 ((((i : Nat) : Int)) + 1)) rfl (OpQ.y (OpY.pure rfl)) ?_
        refine Run.done ?_
        refine Run.goal ⟨(by repeat (first | exact Same.refl _ _ | refine Same.put rfl ?_ | refine Same.over rfl rfl ?_)), (i + 1, ds, L, .slice (some ⟨gd, 0, none⟩) n cd, ws), ?_, ?_, ?_, ?_⟩
        · first | exact ⟨hin1, hdl2, hlow1, hsame, hLl⟩ | exact ⟨Nat.zero_le _, by rw [List.length_set]; exact hdl2, fun j hj => by omega, by rw [← hst]; exact hsame, by rw [List.length_append]; simp only [List.length_cons, List.length_nil]; omega⟩
        · dsimp only; omega
        · exact ⟨(by show Value.int _ _ = Value.int _ _; congr 1 <;> omega), trivial⟩
        · exact ((Weak.refl _).trans (Some'.weak (.takeEq (by first | rfl | simp) (.takeEq (by first | rfl | simp) (.takeEq (by first | rfl | simp) (.nil _))))))
    · have p11 := h11; try simp only [bs] at p11
      have hfin : advS (goB es m xs ps) n ds0 L0 = (ds, L) := by rw [← hinv.2.2.2.1]; exact advS_stop fun j hj => hinv.2.2.1 j (by omega)
      refine Run.exit rfl ?_
      refine Run.fin ?_
      refine ⟨.tuple #[], [.blk bn 90 [.int .i64 N, vg, .int .i64 Q, .slice Ac n cc, vp, wd, ws], .own wd 4 1 n (bls ((advS (goB es m xs ps) n ds0 L0).1)), .own ws 101 3 (((advS (goB es m xs ps) n ds0 L0).2).length) (ints (fl3 ((advS (goB es m xs ps) n ds0 L0).2)))], Out.none rfl, (Some'.weak (.take (.takeEq (by rw [hfin]) (.takeEq (by rw [hfin]) (.nil _))))), ?_⟩
      exact ⟨_, _, rfl, rfl⟩

end Go.Proofs.Ytekikmdjldincaa
